import Derived.WalkKit
import Derived.WalkSpells
import Derived.WalkLawsBesides
import Derived.Deep.QuietTactic
import Derived.BigQuiet
import Derived.Lib.Hide
import Derived.Shelf.Abstract
import Derived.Deep.RegionWith
import Derived.Laws.AppendOwnNone
import Derived.Lib.AppendZerosOnto
import Derived.Lib.SliceRun
import Derived.Lib.SlicesCompact
import Derived.Shelf.SlSortCmp.NoneTotal
import Derived.Maps.OwnOps
import Derived.Maps.OwnSet
import Derived.Maps.Views
import Derived.Deep.MidRow
import Derived.Deep.RegionHeld3
import Derived.Deep.AppendLies
import Derived.Deep.RegionLaw
import Derived.IntWalk
import Derived.StillTailTactics
import Derived.ProofKit
import Derived.OpenShut
import Derived.SizedLaws
import Derived.Lib.SmallJoins
import Derived.Deep.Slices
import Derived.Deep.Fields
import Derived.Deep.Strs
import Derived.Carry
import Derived.Deep.DeepCutAuto
import Derived.BigRegion
import Derived.ChangeAlike
import Derived.Deep.LoopGhost
import Derived.Lib.ItoaNum
import Derived.RegionTactic
import Derived.Shelf.SlSortCmp.PdqK
import Derived.Sort.LotA
import Derived.Sort.LotD2
import Derived.Lib.BitFns
import Derived.Deep.CutBlock
import Derived.Test.YtbkchheikkbebaaGreatDoorDI2
/-
  Walk: natural.Div by a divisor of two words or more.
-/
namespace Go.Proofs.YtbkchheikkbebaaGreatDoor
open Go.RowKit

set_option maxRecDepth 100000 in
set_option maxHeartbeats 8000000 in
theorem ndiv_long (va vb : Value) (xs ys : List Nat) (m : Nat) (w : World) (ha : WdsAt w va xs) (hb : WdsAt w vb ys) (hla : xs.length ≤ 274877906944) (hm : (nw (nv ys)).length = m + 2) (hle : nv ys ≤ nv xs) :
    Calls Tryz.prog 190 #[va, vb] w fun e w' => (∃ v1 v2, e = .returned (.tuple #[v1, v2, .nilIface]) ∧ WdsAt w' v1 (nw (nv xs / nv ys)) ∧ WdsAt w' v2 (nw (nv xs % nv ys))) ∧ Kept w w' := by
  have HTA := Lib.hid (fun W (hk : Kept w W) => ntrim_any va xs W (ha.kept hk))
  have HTB := Lib.hid (fun W (hk : Kept w W) => ntrim_any vb ys W (hb.kept hk))
  obtain ⟨a0, c0, rfl⟩ := ha.shape
  obtain ⟨a1, c1, rfl⟩ := hb.shape
  obtain ⟨l1, hl1⟩ : ∃ l1, l1 = (nw (nv xs)).length := ⟨_, rfl⟩
  have hl19 : l1 ≤ 274877906944 := by
    rw [hl1]
    exact Nat.le_trans (nw_len_lt.2 (nv_lt ha.wd)) hla
  have hl1m : m + 2 ≤ l1 := by
    rcases Nat.lt_or_ge l1 (m + 2) with h | h
    · have := nw_lt_len (m := nv xs) (n := nv ys) (by omega)
      omega
    · exact h
  obtain ⟨A, hA⟩ : ∃ A, A = nv xs := ⟨_, rfl⟩
  obtain ⟨B, hB⟩ : ∃ B, B = nv ys := ⟨_, rfl⟩
  rw [← hA] at HTA hl1 hle ⊢
  rw [← hB] at HTB hm hle ⊢
  obtain ⟨l2, hl2⟩ : ∃ l2, l2 = m + 2 := ⟨_, rfl⟩
  obtain ⟨m1, hm1⟩ : ∃ m1, m1 = m + 1 := ⟨_, rfl⟩
  obtain ⟨L, hL⟩ : ∃ L, L + (m + 2) = l1 + 1 := ⟨l1 + 1 - (m + 2), by omega⟩
  obtain ⟨x, hx⟩ : ∃ x, x = (nw B).getD m1 0 := ⟨_, rfl⟩
  have hx9 : x < 4294967296 := by rw [hx]; exact (nw_wd B).getD _
  have hx0 : x ≠ 0 := by
    have h := nw_pl B
    have hne : nw B ≠ [] := fun e => by rw [e] at hm; simp at hm
    have h2 := h hne
    rw [List.getLast_eq_getElem] at h2
    rw [hx, List.getD_eq_getElem?_getD, hm1, show m + 1 = (nw B).length - 1 by omega, List.getElem?_eq_getElem (by omega)]
    exact h2
  obtain ⟨s, hs, hs32, hxs1, hxs2⟩ := lead_word hx9 hx0
  have HLZ : Hid (∀ W : World, Calls Tryz.prog 235 #[.int .u32 (x : Int)] W fun e w' => e = .returned (.int .i64 (s : Int)) ∧ w' = W) := Lib.hid fun W => by
    have h := Tryz.bits_LeadingZeros32 (x : Int) W (by omega) (by omega)
    simp only [Int.toNat_natCast, hs] at h
    exact h
  have hcm : ¬ cmpN A B < 0 := by
    rcases Nat.lt_or_ge B A with h | h
    · rw [cmpN_gt h]; omega
    · rw [cmpN_eq (by omega)]; omega
  obtain ⟨cm, hcm2⟩ : ∃ cm, cm = cmpN A B := ⟨_, rfl⟩
  rw [← hcm2] at hcm
  have HCM := Lib.hid hcm2
  have HM := Lib.hid hm
  have HL1 := Lib.hid hl1
  have HX := Lib.hid hx
  have HXS := Lib.hid (And.intro hxs1 hxs2)
  have HLE := Lib.hid hle
  have HLL := Lib.hid hL
  have HL2 := Lib.hid hl2
  have HM1 := Lib.hid hm1
  have e21 : (l2 : Int) - 1 = (m1 : Int) := by omega
  have e20 : (l2 : Int) - 2 = (m : Int) := by omega
  have hb21 : m1 < l2 := by omega
  have hb20 : m < l2 := by omega
  have hl2n0 : ((l2 : Int) == 0) = false := by simp; omega
  have hl2n1 : ((l2 : Int) == 1) = false := by simp; omega
  obtain ⟨p1, hp1⟩ : ∃ p1, p1 = l1 + 1 := ⟨_, rfl⟩
  obtain ⟨p2, hp2⟩ : ∃ p2, p2 = l2 + 1 := ⟨_, rfl⟩
  have eL : (p1 : Int) - (l2 : Int) = (L : Int) := by omega
  have hp19 : p1 ≤ 274877906945 := by omega
  have hL9 : L ≤ 274877906945 := by omega
  have hp29 : p2 ≤ 274877906945 := by omega
  have hl29 : l2 ≤ 274877906944 := by omega
  have hl2p : l2 ≤ p2 := by omega
  have HP1 := Lib.hid hp1
  have HP2 := Lib.hid hp2
  generalize hg0 : xs.length = n0 at *
  generalize hg1 : ys.length = n1 at *
  clear hg0 hg1 ha hb hl1 hl1m hA hB hl2 hm1 hL hx hx0 hs hxs1 hxs2 hcm2 hm hle hla hp1 hp2
  go_enter Tryz.func190, Tryz.ntmps190
  go_wp2_with fail
  refine (HTA.out _ (Kept.refl _)).mono ?_
  rintro e w1 ⟨⟨v1, rfl, hv1⟩, hk1⟩
  go_wp2_with fail
  refine (HTB.out _ hk1).mono ?_
  rintro e w2 ⟨⟨v2, rfl, hv2⟩, hk2⟩
  have hv1' := hv1.kept hk2
  have HK2 := Lib.hid (hk1.trans hk2)
  obtain ⟨a2, c2, rfl⟩ := hv1'.shape
  obtain ⟨a3, c3, rfl⟩ := hv2.shape
  rw [HM.out, ← HL2.out] at hv2 ⊢
  rw [← HL1.out] at hv1' ⊢
  have H1 := Lib.hid hv1'
  have H2 := Lib.hid hv2
  clear hv1 hv1' hv2 hk1 hk2
  obtain ⟨b3, o3, rfl, hc3⟩ := H2.out.get m1 (by rw [HM.out, HM1.out]; omega)
  rw [← HX.out] at hc3
  go_wp2_with fail
  refine (ncmp_any _ _ _ _ _ H1.out H2.out).mono ?_
  rintro e w3 ⟨rfl, hk3⟩
  rw [nv_nw, nv_nw, ← HCM.out]
  have hc3' := hk3.cell hc3
  have HK3 := Lib.hid hk3
  clear hc3 hk3
  go_wp2_with fail
  refine (HLZ.out _).mono ?_
  rintro e w4 ⟨rfl, rfl⟩
  go_wp2_with fail
  refine (left_row _ _ s _ (H2.out.kept HK3.out) hs32 (by rw [HM.out]; omega)).mono ?_
  rintro e w5 ⟨⟨gv, V, rfl, hgv, hrv, hlv, hwv, hvv⟩, hk5⟩
  rw [HM.out, ← HL2.out, ← HP2.out]
  go_wp2_with fail
  refine (left_row _ _ s _ ((H1.out.kept HK3.out).kept hk5) hs32 (by rw [← HL1.out]; omega)).mono ?_
  rintro e w6 ⟨⟨gu, U0, rfl, hgu, hru, hlu, hwu, hvu⟩, hk6⟩
  rw [← HL1.out, ← HP1.out]
  have HGVU := Lib.hid (Nat.lt_of_lt_of_le hrv.lt hgu)
  have HGV := Lib.hid hgv
  have HRV := Lib.hid (hrv.kept hk6)
  have HRU := Lib.hid hru
  have HK6 := Lib.hid (hk5.trans hk6)
  have HV := Lib.hid (And.intro hlv (And.intro hwv hvv))
  have HU := Lib.hid (And.intro hlu (And.intro hwu hvu))
  clear hgv hgu hrv hru hk5 hk6 hlv hwv hvv hlu hwu hvu
  obtain ⟨N, hN⟩ : ∃ N, N = B * 2 ^ s := ⟨_, rfl⟩
  have HN := Lib.hid hN
  clear hN
  have HSH : Hid (nv (V.take (m + 2)) = N ∧ 2147483648 ≤ V.getD (m + 1) 0 ∧ N < 4294967296 ^ (m + 2)) := Lib.hid (by
    have h := shifted (bs := nw B) (V := V) (m := m) hs32 HM.out (by rw [HV.out.1, HM.out]) HV.out.2.1 (nw_wd B) HV.out.2.2 (by rw [← HM1.out, ← HX.out]; exact HXS.out.1) (by rw [← HM1.out, ← HX.out]; exact HXS.out.2)
    rw [nv_nw, ← HN.out] at h
    exact h)
  have hlv1 : m1 < V.length := by rw [HV.out.1, HM.out, HM1.out]; omega
  have hct := wds_cell HRV.out m1 hlv1
  have hcn := wds_cell HRV.out m (by have := HM1.out; omega)
  have htw := HV.out.2.1.getD m1
  have hnw := HV.out.2.1.getD m
  obtain ⟨top, htop⟩ : ∃ top, top = V.getD m1 0 := ⟨_, rfl⟩
  obtain ⟨nxt, hnxt⟩ : ∃ nxt, nxt = V.getD m 0 := ⟨_, rfl⟩
  rw [← htop] at hct htw
  rw [← hnxt] at hcn hnw
  have htb : 2147483648 ≤ top := by rw [htop, HM1.out]; exact HSH.out.2.1
  have HTOP := Lib.hid htop
  have HNXT := Lib.hid hnxt
  clear htop hnxt hlv1
  go_wp2_with fail
  go_quiet (fail)
  go_wp2_with (refine make_one 37 48 (.int .u32 0) 4 info_u32 Tryz.underlying37 rfl rfl _ _ rfl L rfl rfl (by omega) (by unfold maxLen; omega) ?_; intro w7 hr7 hk7)
  have HR7 : Hid (RowAt w7 w6.heap.size 48 ((List.replicate L 0).map w32)) := Lib.hid (made_wds hr7)
  have HK7 : Hid (Kept w6 w7) := Lib.hid (((Kept.refl w6).drewN _).trans hk7)
  clear hr7 hk7
  have HKW : Hid (Kept w w7) := Lib.hid (((HK2.out.trans HK3.out).trans HK6.out).trans HK7.out)
  have hgw : w.heap.size ≤ gu := by
    have h2 := (HK2.out.trans HK3.out).size
    have h3 := HGV.out
    have h4 := HGVU.out
    omega
  have hgq : w.heap.size ≤ w6.heap.size := ((HK2.out.trans HK3.out).trans HK6.out).size
  have hgvu : gv ≠ gu := by have := HGVU.out; omega
  have hguq : gu ≠ w6.heap.size := by have := HRU.out.lt; omega
  have hgvq : gv ≠ w6.heap.size := by have := HRV.out.lt; omega
  have HGW := Lib.hid hgw
  have HGQ := Lib.hid hgq
  have HGVU := Lib.hid hgvu
  have HGUQ := Lib.hid hguq
  have HGVQ := Lib.hid hgvq
  have HST : Hid (DivAt U0 U0 (List.replicate L 0) N L p1 L) := Lib.hid (DivAt.start hs32 (A := A) (l1 := l1) (m := m) (V := V) (s := s) (by rw [HL1.out]; exact nw_len_lt.1 (Nat.le_refl _)) (by have := HU.out.2.2; rwa [nv_nw] at this) (by rw [HU.out.1, HL1.out]) HP1.out HLL.out HU.out.2.1 HV.out.2.1 (by rw [HV.out.1, HM.out]; omega) HSH.out.1 HSH.out.2.1)
  have HRU7 := Lib.hid (HRU.out.kept HK7.out)
  have HRV7 := Lib.hid (HRV.out.kept HK7.out)
  clear hc3' hct hcn hgw hgq hgvu hguq hgvq HRU HRV
  generalize w6.heap.size = gq at *
  go_loopg [14] L (fun kx s14 wr => ∃ (k : Nat) (U Q : List Nat), s14 = .int .i64 ((k : Int) - 1) ∧ k ≤ L ∧ k ≤ kx ∧ Hid (RowAt wr gu 48 (U.map w32)) ∧ Hid (RowAt wr gv 48 (V.map w32)) ∧ Hid (RowAt wr gq 48 (Q.map w32)) ∧ Hid (DivAt U0 U Q N L p1 k) ∧ Hid (Kept w wr))
  case atStart => exact ⟨L, U0, List.replicate L 0, rfl, Nat.le_refl _, Nat.le_refl _, HRU7, HRV7, HR7, HST, HKW⟩
  case round =>
    clear HRU7 HRV7 HR7 HST HKW HK7 HK6 HK3 HK2
    obtain ⟨wo, rfl⟩ : ∃ wo : World, wo = wr := ⟨_, rfl⟩
    obtain ⟨k, U, Q, rfl, hk, hkx, HRU, HRV, HRQ, HD, HK⟩ := hrel
    by_cases hk0 : k = 0
    · subst hk0
      have hdn := HD.out.done (A := A) (B := B) (s := s) (by have := HU.out.2.2; rwa [nv_nw] at this) HN.out
      have HDN := Lib.hid hdn
      have HQA : Hid (WdsAt wo (.slice (some ⟨gq, 0, none⟩) L L) Q) := Lib.hid (by
        have h := row_wds HRQ.out (c := L) (by rw [HD.out.lq]; exact Nat.le_refl _) (by rw [HD.out.lq]; omega) HD.out.wq
        rw [HD.out.lq] at h
        exact h)
      have HUA : Hid (WdsAt wo (.slice (some ⟨gu, 0, none⟩) p1 p1) U) := Lib.hid (by
        have h := row_wds HRU.out (c := p1) (by rw [HD.out.lu]; exact Nat.le_refl _) (by rw [HD.out.lu]; omega) HD.out.wu
        rw [HD.out.lu] at h
        exact h)
      clear hdn
      go_wp2_with fail
      refine (ntrim_any _ _ _ HQA.out).mono ?_
      rintro e w8 ⟨⟨v8, rfl, hv8⟩, hk8⟩
      go_wp2_with fail
      refine (right_any _ _ s _ (HUA.out.kept hk8) hs32).mono ?_
      rintro e w9 ⟨⟨v9, L9, rfl, hv9, hq9⟩, hk9⟩
      go_wp2_with fail
      refine (ntrim_any _ _ _ hv9).mono ?_
      rintro e w10 ⟨⟨v10, rfl, hv10⟩, hk10⟩
      have H8 := Lib.hid ((hv8.kept hk9).kept hk10)
      rw [hq9, HDN.out.2] at hv10
      have H10 := Lib.hid hv10
      have HK10 := Lib.hid ((hk8.trans hk9).trans hk10)
      clear hv8 hv9 hq9 hv10 hk8 hk9 hk10
      obtain ⟨a8, c8, rfl⟩ := H8.out.shape
      obtain ⟨a10, c10, rfl⟩ := H10.out.shape
      go_wp2
      go_ret3
      exact ⟨⟨_, _, rfl, by rw [HDN.out.1]; exact H8.out, H10.out⟩, HK.out.trans HK10.out⟩
    · obtain ⟨j, rfl⟩ : ∃ j, k = j + 1 := ⟨k - 1, by omega⟩
      have hml := HLL.out
      have hm2 := HL2.out
      have hm3 := HM1.out
      have hp1 := HP1.out
      have hp2 := HP2.out
      obtain ⟨i2, hi2⟩ : ∃ i2, i2 = j + l2 := ⟨_, rfl⟩
      obtain ⟨i1, hi1⟩ : ∃ i1, i1 = j + m1 := ⟨_, rfl⟩
      obtain ⟨i0, hi0⟩ : ∃ i0, i0 = j + m := ⟨_, rfl⟩
      obtain ⟨i3, hi3⟩ : ∃ i3, i3 = j + p2 := ⟨_, rfl⟩
      have hjp : j + (m + 3) ≤ p1 := by omega
      have hE := HD.out.est hjp HSH.out.2.2 HV.out.2.1 (by rw [HV.out.1, HM.out]; omega) HSH.out.1 HSH.out.2.1
      have hca := wds_cell HRU.out i2 (by rw [HD.out.lu]; omega)
      have hcb := wds_cell HRU.out i1 (by rw [HD.out.lu]; omega)
      have hcu := wds_cell HRU.out i0 (by rw [HD.out.lu]; omega)
      rw [← hm2, ← hm3, ← hi2, ← hi1, ← hi0, ← HTOP.out, ← HNXT.out] at hE
      obtain ⟨X, hX⟩ : ∃ X, X = nv ((U.drop j).take (m + 3)) := ⟨_, rfl⟩
      rw [← hX] at hE
      generalize U.getD i2 0 = a at *
      generalize U.getD i1 0 = b at *
      generalize U.getD i0 0 = u2 at *
      have ha9 := hE.a2
      have hb9 := hE.b2
      have hu9 := hE.u22
      have HE := Lib.hid hE
      have HXX := Lib.hid hX
      obtain ⟨hd, hhd⟩ : ∃ hd, hd = a * 4294967296 + b := ⟨_, rfl⟩
      have eor := or_word a b ha9 hb9
      rw [← hhd] at eor
      obtain ⟨hst1, hst2, hst3, hst4⟩ := EstAt.start hE hhd
      obtain ⟨g0, hg0⟩ : ∃ g0, g0 = hd / top := ⟨_, rfl⟩
      obtain ⟨r0, hr0⟩ : ∃ r0, r0 = hd % top := ⟨_, rfl⟩
      rw [← hg0, ← hr0] at hst1
      rw [← hr0] at hst2
      rw [← hg0] at hst3
      have eg0 : (hd : Int) / (top : Int) = (g0 : Int) := by rw [hg0]; simp
      have er0 : (hd : Int) % (top : Int) = (r0 : Int) := by rw [hr0]; simp
      have HS0 := Lib.hid hst1
      have HHD := Lib.hid hhd
      have ej : ((j + 1 : Nat) : Int) - 1 = (j : Int) := by omega
      have ei2 : (j : Int) + (l2 : Int) = (i2 : Int) := by omega
      have ei1 : (i2 : Int) - 1 = (i1 : Int) := by omega
      have ei0 : (i2 : Int) - 2 = (i0 : Int) := by omega
      have ei3 : (i2 : Int) + 1 = (i3 : Int) := by omega
      have e3j : i3 - j = p2 := by omega
      have hl3 : i3 ≤ p1 := by omega
      have hl2p : i2 < p1 := by omega
      have hl1p : i1 < p1 := by omega
      have hl0p : i0 < p1 := by omega
      have hji3 : j ≤ i3 := by omega
      have hjL : (j : Int) < (L : Int) := by omega
      have hjL2 : j < L := by omega
      have hj0 : (0 : Int) ≤ (j : Int) := by omega
      have htop0 : ((top : Int) == 0) = false := by simp; omega
      have HJP := Lib.hid hjp
      rw [ej]
      clear hE hX hhd hg0 hr0 hst1 ej hml hm2 hm3 hp1 hp2 hi2 hi1 hi0 hi3 hjp hk0
      go_wp2_with fail
      go_quiet (fail)
      rename Nat => nq1
      go_wp2_with fail
      go_quiet (fail)
      go_upto_block 2 with fail
      obtain ⟨wd, hwd⟩ : ∃ wd : World, Kept wo wd ∧ wd = (wo.drewN nq1).drewN nq := ⟨_, ((Kept.refl wo).drewN _).drewN _, rfl⟩
      rw [← hwd.2]
      have HKD := Lib.hid hwd.1
      have hcu' := hwd.1.cell hcu
      clear hwd hca hcb hcu eg0 eor ha9 hb9
      go_cut [16] (fun v16 wx => ∃ g : Nat, v16 = .int .u64 g ∧ g < 4294967296 ∧ Hid (X / N ≤ g ∧ g ≤ X / N + 1) ∧ Hid (Kept wo wx))
      case first =>
        go_wp2_with fail
        go_loopg [16, 17] g0 (fun kx s16 s17 wr => ∃ (g r : Nat), s16 = .int .u64 g ∧ s17 = .int .u64 r ∧ g ≤ kx ∧ g < 18446744073709551616 ∧ r < 4294967296 ∧ Hid (EstAt N X top hd g r) ∧ wd = wr)
        case atStart => exact ⟨g0, r0, rfl, by rw [er0], Nat.le_refl _, hst3, hst2, HS0, rfl⟩
        case round =>
          obtain ⟨g, r, rfl, rfl, hgk, hg9, hr9, HEA, rfl⟩ := hrel
          obtain ⟨r2, hr2⟩ : ∃ r2, r2 = r + top := ⟨_, rfl⟩
          obtain ⟨rs, hrs⟩ : ∃ rs, rs = r * 4294967296 + u2 := ⟨_, rfl⟩
          have er2 : (r : Int) + (top : Int) = (r2 : Int) := by omega
          have hr29 : r2 < 8589934592 := by omega
          by_cases hc : 4294967296 ≤ g ∨ rs < g * nxt
          · obtain ⟨g', hg', hea⟩ := EstAt.next HE.out HHD.out HEA.out (by rw [← hrs]; exact hc)
            rw [← hr2] at hea
            have HEB := Lib.hid hea
            have eg : (g : Int) - 1 = (g' : Int) := by omega
            have hg19 : g' < 18446744073709551616 := by omega
            have hgm : g' < g := by omega
            have hg1 : (1 : Int) ≤ (g : Int) := by omega
            have hgp : g = g' + 1 := hg'
            have HGP := Lib.hid hgp
            clear hgp
            by_cases hbr : 4294967296 ≤ r2
            · have HGD := Lib.hid (EstAt.good HE.out HHD.out hea (.inr hbr))
              have hgw9 : g' < 4294967296 := HGD.out.1
              have hbr' : (4294967296 : Int) ≤ (r2 : Int) := by omega
              clear hea hg' hr2
              by_cases hc1 : 4294967296 ≤ g
              · have hc1' : (4294967296 : Int) ≤ (g : Int) := by omega
                clear hc hrs
                go_wp2_with fail
                go_meet
                exact ⟨g', rfl, hgw9, Lib.hid HGD.out.2, HKD⟩
              · have hc1' : (g : Int) < 4294967296 := by omega
                have hc2 := hc.resolve_left hc1
                obtain ⟨gn, hgn⟩ : ∃ gn, gn = g * nxt := ⟨_, rfl⟩
                have egn : (g : Int) * (nxt : Int) = (gn : Int) := by rw [hgn]; simp
                have hgn9 : gn < 18446744073709551616 := by
                  have : g * nxt ≤ 4294967295 * 4294967295 := Nat.mul_le_mul (by omega) (by omega)
                  omega
                rw [← hgn] at hc2
                have hb2 : decide (rs < gn) = true := by simpa using hc2
                have hb1 : decide ((4294967296 : Int) ≤ (g : Int)) = false := by simp; omega
                have eors := or_word r u2 hr9 hu9
                rw [← hrs] at eors
                have hc1'' : g < 4294967296 := by omega
                clear hc hrs hgn hc1 hc2
                go_upto_block 3 with fail
                clear egn hgn9 hb1 hb2 eors hc1'' hc1'
                go_wp2_with fail
                go_meet
                exact ⟨g', rfl, hgw9, Lib.hid HGD.out.2, HKD⟩
            · have hb3 : decide ((4294967296 : Int) ≤ (r2 : Int)) = false := by simp; omega
              have hr2b : r2 < 4294967296 := by omega
              clear hea hg' hr2 hbr
              by_cases hc1 : 4294967296 ≤ g
              · have hc1' : (4294967296 : Int) ≤ (g : Int) := by omega
                clear hc hrs
                go_wp2_with fail
                go_roundg g'
                case measure => omega
                case rel => exact ⟨g', r2, rfl, rfl, Nat.le_refl _, hg19, hr2b, HEB, rfl⟩
              · have hc1' : (g : Int) < 4294967296 := by omega
                have hc2 := hc.resolve_left hc1
                obtain ⟨gn, hgn⟩ : ∃ gn, gn = g * nxt := ⟨_, rfl⟩
                have egn : (g : Int) * (nxt : Int) = (gn : Int) := by rw [hgn]; simp
                have hgn9 : gn < 18446744073709551616 := by
                  have : g * nxt ≤ 4294967295 * 4294967295 := Nat.mul_le_mul (by omega) (by omega)
                  omega
                rw [← hgn] at hc2
                have hb2 : decide (rs < gn) = true := by simpa using hc2
                have hb1 : decide ((4294967296 : Int) ≤ (g : Int)) = false := by simp; omega
                have eors := or_word r u2 hr9 hu9
                rw [← hrs] at eors
                have hc1'' : g < 4294967296 := by omega
                clear hc hrs hgn hc1 hc2
                go_upto_block 3 with fail
                clear egn hgn9 hb1 hb2 eors hc1'' hc1'
                go_wp2_with fail
                go_roundg g'
                case measure => omega
                case rel => exact ⟨g', r2, rfl, rfl, Nat.le_refl _, hg19, hr2b, HEB, rfl⟩
          · have hc1 : g < 4294967296 := by omega
            have hc1' : (g : Int) < 4294967296 := by omega
            have hc2 : g * nxt ≤ rs := by omega
            have HGD := Lib.hid (EstAt.good HE.out HHD.out HEA.out (.inl ⟨hc1, by rw [← hrs]; exact hc2⟩))
            obtain ⟨gn, hgn⟩ : ∃ gn, gn = g * nxt := ⟨_, rfl⟩
            have egn : (g : Int) * (nxt : Int) = (gn : Int) := by rw [hgn]; simp
            have hgn9 : gn < 18446744073709551616 := by
              have : g * nxt ≤ 4294967295 * 4294967295 := Nat.mul_le_mul (by omega) (by omega)
              omega
            rw [← hgn] at hc2
            have hb2 : decide (rs < gn) = false := by simp; omega
            have hb1 : decide ((4294967296 : Int) ≤ (g : Int)) = false := by simp; omega
            have eors := or_word r u2 hr9 hu9
            rw [← hrs] at eors
            clear hc hrs hgn hr2
            go_wp2_with fail
            go_meet
            exact ⟨g, rfl, hc1, Lib.hid HGD.out.2, HKD⟩
      case rest =>
        obtain ⟨g, rfl, hg9, HG, HKC⟩ := hcut
        have HRUc := Lib.hid (HRU.out.kept HKC.out)
        have HRVc := Lib.hid (HRV.out.kept HKC.out)
        have HRQc := Lib.hid (HRQ.out.kept HKC.out)
        clear hcu' HKD HS0 hst2 hst3 hst4 HRU HRV HRQ
        go_wp2_with fail
        refine (take_any gu gv j l2 p2 (p1 - j) p2 g U V wc HRUc.out HRVc.out HGVU.out HD.out.wu HV.out.2.1 HP2.out (by rw [HD.out.lu]; have := HJP.out; have := HL2.out; have := HP2.out; omega) (by rw [HV.out.1, HM.out, HL2.out]; omega) (by omega) (by omega) hg9 (by have := HJP.out; have := HL2.out; have := HP2.out; omega)).mono ?_
        rintro e w8 ⟨⟨b8, U8, rfl, hb8, hr8, hw8, hl8, hs8, he8⟩, ho8⟩
        have hq3 : p2 = m + 3 := by rw [HP2.out, HL2.out]
        have HP3 := Lib.hid hq3
        rw [HP3.out, HL2.out, HSH.out.1, ← HXX.out] at he8
        rw [HP3.out] at hs8
        have hNM : N < 4294967296 ^ (m + 3) := Nat.lt_trans HSH.out.2.2 (Nat.pow_lt_pow_right (by omega) (by omega))
        have HNM := Lib.hid hNM
        have hde := digit_end HE.out.pos he8 (seg_lt hw8 j (m + 3)) (Nat.le_of_lt hNM) hb8 HG.out.1 HG.out.2
        have HDE := Lib.hid hde
        have HR8 := Lib.hid hr8
        have HW8 := Lib.hid (And.intro hw8 hl8)
        have HS8 := Lib.hid hs8
        have HV8 := Lib.hid (ho8.row HRVc.out HGVU.out)
        have HQ8 := Lib.hid (ho8.row HRQc.out (fun h => HGUQ.out h.symm))
        have HK8 := Lib.hid (ho8.toKept (HK.out.trans HKC.out) HGW.out)
        clear hr8 hw8 hl8 hs8 he8 ho8 hq3 hNM hde
        have hjQ : j < Q.length := by rw [HD.out.lq]; exact hjL2
        rcases (by omega : b8 = 0 ∨ b8 = 1) with rfl | rfl
        · obtain ⟨hg1, hv8⟩ := HDE.out.1 rfl
          have HNX := Lib.hid (HD.out.step (by rw [HU.out.1, HP1.out, HL1.out]) hjL2 HJP.out HSH.out.2.2 hg9 HXX.out hg1 (by rw [HW8.out.2]; exact HD.out.lu) HW8.out.1 HS8.out hv8)
          have f := HQ8.out.free j
          have hst := wds_cell HQ8.out j hjQ
          have e5 : IntKind.u32.wrap (g : Int) = (g : Int) := by rw [IntKind.wrap_u32]; omega
          clear hg1 hv8 hb8 hjQ
          go_wp2
          go_roundg j
          case measure => omega
          case rel => exact ⟨j, U8, Q.set j g, rfl, by omega, Nat.le_refl _, Lib.hid (((OnlyAt.refl gq w8).store j _).row HR8.out HGUQ.out), Lib.hid (((OnlyAt.refl gq w8).store j _).row HV8.out HGVQ.out), Lib.hid (wds_store HQ8.out j g), HNX, Lib.hid (HK8.out.store HGQ.out j _)⟩
        · obtain ⟨hg1, hv8⟩ := HDE.out.2 rfl
          obtain ⟨g1, hg2⟩ : ∃ g1, g1 = X / N := ⟨_, rfl⟩
          rw [← hg2] at hg1
          have hg19 : g1 < 4294967296 := by omega
          have eg1 : (g : Int) - 1 = (g1 : Int) := by omega
          have hgge : (1 : Int) ≤ (g : Int) := by omega
          have HG2 := Lib.hid hg2
          have HV9 := Lib.hid hv8
          clear hg1 hg2 hv8 hb8
          go_wp2_with fail
          refine (give_any gu gv j l2 p2 (p1 - j) p2 U8 V w8 HR8.out HV8.out HGVU.out HW8.out.1 HV.out.2.1 HP2.out (by rw [HW8.out.2, HD.out.lu]; have := HJP.out; have := HL2.out; have := HP2.out; omega) (by rw [HV.out.1, HM.out, HL2.out]; omega) (by omega) (by omega)).mono ?_
          rintro e w9 ⟨⟨b9, U9, rfl, hr9, hw9, hl9, hs9, he9⟩, ho9⟩
          rw [HP3.out, HL2.out, HSH.out.1] at he9
          rw [HP3.out] at hs9
          have hge := give_end he9 HV9.out (seg_lt hw9 j (m + 3)) (Nat.lt_trans (Nat.mod_lt _ HE.out.pos) HNM.out)
          have HNX := Lib.hid (HD.out.step (by rw [HU.out.1, HP1.out, HL1.out]) hjL2 HJP.out HSH.out.2.2 hg19 HXX.out HG2.out (by rw [hl9, HW8.out.2]; exact HD.out.lu) hw9 (fun i hi => (hs9 i hi).trans (HS8.out i hi)) hge)
          have HR9 := Lib.hid hr9
          have HVV9 := Lib.hid (ho9.row HV8.out HGVU.out)
          have HQ9 := Lib.hid (ho9.row HQ8.out (fun h => HGUQ.out h.symm))
          have HK9 := Lib.hid (ho9.toKept HK8.out HGW.out)
          have f := HQ9.out.free j
          have hst := wds_cell HQ9.out j hjQ
          have e5 : IntKind.u32.wrap (g1 : Int) = (g1 : Int) := by rw [IntKind.wrap_u32]; omega
          clear hr9 hw9 hl9 hs9 he9 ho9 hge hjQ
          go_wp2
          go_roundg j
          case measure => omega
          case rel => exact ⟨j, U9, Q.set j g1, rfl, by omega, Nat.le_refl _, Lib.hid (((OnlyAt.refl gq w9).store j _).row HR9.out HGUQ.out), Lib.hid (((OnlyAt.refl gq w9).store j _).row HVV9.out HGVQ.out), Lib.hid (wds_store HQ9.out j g1), HNX, Lib.hid (HK9.out.store HGQ.out j _)⟩
end Go.Proofs.YtbkchheikkbebaaGreatDoor

/-
  Walks: natural.Div, Gcd, Bits.
-/
namespace Go.Proofs.YtbkchheikkbebaaGreatDoor
open Go.RowKit

theorem nw_length_le {xs : List Nat} (h : Wd xs) : (nw (nv xs)).length ≤ xs.length := nw_len_lt.2 (nv_lt h)
set_option maxRecDepth 100000 in
set_option maxHeartbeats 4000000 in
theorem ndiv_less (va vb : Value) (xs ys : List Nat) (w : World) (ha : WdsAt w va xs) (hb : WdsAt w vb ys) (h0 : nv ys ≠ 0) (hlt : nv xs < nv ys) :
    Calls Tryz.prog 190 #[va, vb] w fun e w' => (∃ v1 v2, e = .returned (.tuple #[v1, v2, .nilIface]) ∧ WdsAt w' v1 (nw (nv xs / nv ys)) ∧ WdsAt w' v2 (nw (nv xs % nv ys))) ∧ Kept w w' := by
  have HTA := Lib.hid (fun W (hk : Kept w W) => ntrim_any va xs W (ha.kept hk))
  have HTB := Lib.hid (fun W (hk : Kept w W) => ntrim_any vb ys W (hb.kept hk))
  have HLB : Hid ((nw (nv ys)).length ≠ 0) := Lib.hid fun h => h0 (nw_eq_nil.1 (List.eq_nil_of_length_eq_zero h))
  obtain ⟨a0, c0, rfl⟩ := ha.shape
  obtain ⟨a1, c1, rfl⟩ := hb.shape
  have HQ : Hid (nv xs / nv ys = 0 ∧ nv xs % nv ys = nv xs) := Lib.hid ⟨Nat.div_eq_of_lt hlt, Nat.mod_eq_of_lt hlt⟩
  have HC : Hid (cmpN (nv xs) (nv ys) = -1) := Lib.hid (cmpN_lt hlt)
  generalize nv xs = A at *
  generalize nv ys = B at *
  generalize xs.length = n0 at *
  generalize ys.length = n1 at *
  clear ha hb h0 hlt
  go_enter Tryz.func190, Tryz.ntmps190
  go_wp2_with fail
  refine (HTA.out _ (Kept.refl _)).mono ?_
  rintro e w1 ⟨⟨v1, rfl, hv1⟩, hk1⟩
  go_wp2_with fail
  refine (HTB.out _ hk1).mono ?_
  rintro e w2 ⟨⟨v2, rfl, hv2⟩, hk2⟩
  have H1 := Lib.hid (hv1.kept hk2)
  have H2 := Lib.hid hv2
  have HK2 := Lib.hid (hk1.trans hk2)
  clear hv1 hv2 hk1 hk2
  obtain ⟨a2, c2, rfl⟩ := H1.out.shape
  obtain ⟨a3, c3, rfl⟩ := H2.out.shape
  obtain ⟨l2, hl2⟩ : ∃ l2, l2 = (nw B).length := ⟨_, rfl⟩
  have hn2 : ((l2 : Int) == 0) = false := by have := HLB.out; simp; omega
  have HH2 := Lib.hid hl2
  rw [← hl2]
  clear hl2
  go_wp2_with fail
  rw [HH2.out]
  refine (ncmp_any _ _ _ _ _ H1.out H2.out).mono ?_
  rintro e w3 ⟨rfl, hk3⟩
  rw [nv_nw, nv_nw, HC.out]
  have HK3 := Lib.hid hk3
  clear hk3 hn2
  obtain ⟨l1, hl1⟩ : ∃ l1, l1 = (nw A).length := ⟨_, rfl⟩
  have HH1 := Lib.hid hl1
  rw [← hl1]
  generalize (nw B).length = l3 at *
  clear hl1
  go_wp2
  go_ret3
  exact ⟨⟨_, _, rfl, by rw [HQ.out.1, nw_zero]; exact WdsAt.nil _, by rw [HQ.out.2, HH1.out]; exact H1.out.kept HK3.out⟩, HK2.out.trans HK3.out⟩
set_option maxRecDepth 100000 in
set_option maxHeartbeats 4000000 in
theorem ndiv_one (va vb : Value) (xs ys : List Nat) (w : World) (ha : WdsAt w va xs) (hb : WdsAt w vb ys) (h1 : (nw (nv ys)).length = 1) (hle : nv ys ≤ nv xs) :
    Calls Tryz.prog 190 #[va, vb] w fun e w' => (∃ v1 v2, e = .returned (.tuple #[v1, v2, .nilIface]) ∧ WdsAt w' v1 (nw (nv xs / nv ys)) ∧ WdsAt w' v2 (nw (nv xs % nv ys))) ∧ Kept w w' := by
  have HTA := Lib.hid (fun W (hk : Kept w W) => ntrim_any va xs W (ha.kept hk))
  have HTB := Lib.hid (fun W (hk : Kept w W) => ntrim_any vb ys W (hb.kept hk))
  obtain ⟨a0, c0, rfl⟩ := ha.shape
  obtain ⟨a1, c1, rfl⟩ := hb.shape
  obtain ⟨d, hd⟩ : ∃ d, d = (nw (nv ys)).getD 0 0 := ⟨_, rfl⟩
  have hdB : nv ys = d := by
    have h2 := nv_nw (nv ys)
    rw [hd]
    cases h3 : nw (nv ys) with
    | nil => rw [h3] at h1; simp at h1
    | cons x l =>
      rw [h3] at h1 h2
      have : l = [] := by cases l with
        | nil => rfl
        | cons _ _ => simp at h1
      subst this
      rw [← h2]; simp [nv]
  have hd9 : d < 4294967296 := by rw [hd]; exact (nw_wd _).getD _
  have hd0 : 0 < d := by
    rcases Nat.eq_zero_or_pos d with h | h
    · rw [hdB, h, nw_zero] at h1; simp at h1
    · exact h
  obtain ⟨c, hc⟩ : ∃ c, c = cmpN (nv xs) (nv ys) := ⟨_, rfl⟩
  have hcm : ¬ c < 0 := by
    rw [hc]
    rcases Nat.lt_or_ge (nv ys) (nv xs) with h | h
    · rw [cmpN_gt h]; omega
    · rw [cmpN_eq (by omega)]; omega
  have HD := Lib.hid hd
  have HDB := Lib.hid hdB
  have HH1 := Lib.hid h1
  have HC := Lib.hid hc
  generalize nv xs = A at *
  generalize nv ys = B at *
  generalize xs.length = n0 at *
  generalize ys.length = n1 at *
  obtain ⟨r, hr⟩ : ∃ r, r = A % d := ⟨_, rfl⟩
  have hr9 : r < 4294967296 := by have := Nat.mod_lt A hd0; omega
  have HR := Lib.hid hr
  clear ha hb hle hd hdB h1 hc hr
  go_enter Tryz.func190, Tryz.ntmps190
  go_wp2_with fail
  refine (HTA.out _ (Kept.refl _)).mono ?_
  rintro e w1 ⟨⟨v1, rfl, hv1⟩, hk1⟩
  go_wp2_with fail
  refine (HTB.out _ hk1).mono ?_
  rintro e w2 ⟨⟨v2, rfl, hv2⟩, hk2⟩
  have H1 := Lib.hid (hv1.kept hk2)
  have H2 := Lib.hid hv2
  have HK2 := Lib.hid (hk1.trans hk2)
  clear hv1 hv2 hk1 hk2
  obtain ⟨a2, c2, rfl⟩ := H1.out.shape
  obtain ⟨a3, c3, hv3⟩ := H2.out.shape
  rw [HH1.out] at hv3
  subst hv3
  obtain ⟨b3, o3, rfl, hc3⟩ := H2.out.get 0 (by rw [HH1.out]; omega)
  rw [← HD.out, Nat.add_zero] at hc3
  have HC3 := Lib.hid hc3
  clear hc3
  go_wp2_with fail
  refine (ncmp_any _ _ _ _ _ H1.out H2.out).mono ?_
  rintro e w3 ⟨rfl, hk3⟩
  rw [nv_nw, nv_nw, ← HC.out]
  have hc3 := hk3.cell HC3.out
  have HK3 := Lib.hid hk3
  have HSM := Lib.hid (small_any _ _ d _ (H1.out.kept hk3) hd0 hd9)
  clear hk3
  generalize (nw A).length = l1 at *
  go_wp2_with fail
  refine HSM.out.mono ?_
  rintro e w4 ⟨⟨v4, rfl, hv4⟩, hk4⟩
  rw [nv_nw] at hv4 ⊢
  rw [← HR.out]
  have H4 := Lib.hid hv4
  have HK4 := Lib.hid hk4
  clear hv4 hk4 hc3 hcm
  obtain ⟨a4, c4, rfl⟩ := H4.out.shape
  generalize (nw (A / d)).length = l4 at *
  go_wp2_with fail
  refine (nof_any r _ (by omega)).mono ?_
  rintro e w5 ⟨⟨v5, rfl, hv5⟩, hk5⟩
  have H5 := Lib.hid hv5
  have HK5 := Lib.hid hk5
  clear hv5 hk5
  obtain ⟨a5, c5, rfl⟩ := H5.out.shape
  go_wp2
  go_ret3
  exact ⟨⟨_, _, rfl, by rw [HDB.out]; exact H4.out.kept HK5.out, by rw [HDB.out, ← HR.out]; exact H5.out⟩, ((HK2.out.trans HK3.out).trans HK4.out).trans HK5.out⟩
/-- natural.Div by a number that is not 0. -/
theorem ndiv_any (va vb : Value) (xs ys : List Nat) (w : World) (ha : WdsAt w va xs) (hb : WdsAt w vb ys) (hla : xs.length ≤ 274877906944) (h0 : nv ys ≠ 0) :
    Calls Tryz.prog 190 #[va, vb] w fun e w' => (∃ v1 v2, e = .returned (.tuple #[v1, v2, .nilIface]) ∧ WdsAt w' v1 (nw (nv xs / nv ys)) ∧ WdsAt w' v2 (nw (nv xs % nv ys))) ∧ Kept w w' := by
  rcases Nat.lt_or_ge (nv xs) (nv ys) with h | h
  · exact ndiv_less va vb xs ys w ha hb h0 h
  · have hn : (nw (nv ys)).length ≠ 0 := fun h => h0 (nw_eq_nil.1 (List.eq_nil_of_length_eq_zero h))
    by_cases h1 : (nw (nv ys)).length = 1
    · exact ndiv_one va vb xs ys w ha hb h1 h
    · exact ndiv_long va vb xs ys ((nw (nv ys)).length - 2) w ha hb hla (by omega) h
end Go.Proofs.YtbkchheikkbebaaGreatDoor

/-
  Walks: natural.Gcd, Bits.
-/
namespace Go.Proofs.YtbkchheikkbebaaGreatDoor
open Go.RowKit

set_option maxRecDepth 100000 in
set_option maxHeartbeats 4000000 in
theorem ngcd_any (va vb : Value) (xs ys : List Nat) (w : World) (ha : WdsAt w va xs) (hb : WdsAt w vb ys) (hla : xs.length ≤ 274877906944) (hlb : ys.length ≤ 274877906944) :
    Calls Tryz.prog 187 #[va, vb] w fun e w' => (∃ v, e = .returned v ∧ WdsAt w' v (nw (Nat.gcd (nv xs) (nv ys)))) ∧ Kept w w' := by
  have HTA := Lib.hid (fun W (hk : Kept w W) => ntrim_any va xs W (ha.kept hk))
  have HTB := Lib.hid (fun W (hk : Kept w W) => ntrim_any vb ys W (hb.kept hk))
  obtain ⟨a0, c0, rfl⟩ := ha.shape
  obtain ⟨a1, c1, rfl⟩ := hb.shape
  have HLA : Hid ((nw (nv xs)).length ≤ 274877906944) := Lib.hid (Nat.le_trans (nw_length_le ha.wd) hla)
  have HLB : Hid ((nw (nv ys)).length ≤ 274877906944) := Lib.hid (Nat.le_trans (nw_length_le hb.wd) hlb)
  generalize nv xs = A at *
  generalize nv ys = B at *
  generalize xs.length = n0 at *
  generalize ys.length = n1 at *
  clear ha hb hla hlb
  go_enter Tryz.func187, Tryz.ntmps187
  go_wp2_with fail
  refine (HTA.out _ (Kept.refl _)).mono ?_
  rintro e w1 ⟨⟨v1, rfl, hv1⟩, hk1⟩
  go_wp2_with fail
  refine (HTB.out _ hk1).mono ?_
  rintro e w2 ⟨⟨v2, rfl, hv2⟩, hk2⟩
  have H1 := Lib.hid (hv1.kept hk2)
  have H2 := Lib.hid hv2
  have HK2 := Lib.hid (hk1.trans hk2)
  clear hv1 hv2 hk1 hk2
  go_wp2_with fail
  go_loopg [0, 1] B (fun kx s0 s1 wr => ∃ (m n : Nat), Hid (WdsAt wr s0 (nw m)) ∧ Hid (WdsAt wr s1 (nw n)) ∧ n ≤ kx ∧ Hid (Nat.gcd m n = Nat.gcd A B) ∧ Hid ((nw m).length ≤ 274877906944 ∧ (nw n).length ≤ 274877906944) ∧ Hid (Kept w wr))
  case atStart => exact ⟨A, B, H1, H2, Nat.le_refl _, Lib.hid rfl, Lib.hid ⟨HLA.out, HLB.out⟩, HK2⟩
  case round =>
    obtain ⟨m, n, HS0, HS1, hkx, HG, HL, HK⟩ := hrel
    obtain ⟨a2, c2, rfl⟩ := HS0.out.shape
    obtain ⟨a3, c3, rfl⟩ := HS1.out.shape
    by_cases hn : n = 0
    · have HR : Hid (nw m = nw (Nat.gcd A B)) := Lib.hid (by rw [← HG.out, hn, Nat.gcd_zero_right])
      have hl : (nw n).length = 0 := by rw [hn, nw_zero]; rfl
      rw [hl]
      clear hl hn
      generalize hlm : (nw m).length = lm at *
      have HLM := Lib.hid hlm
      clear hlm
      go_wp2
      go_ret
      exact ⟨⟨_, rfl, by rw [← HR.out, ← HLM.out] ; first | exact HS0.out | (rw [HLM.out]; exact HS0.out)⟩, HK.out⟩
    · have hl : (nw n).length ≠ 0 := fun h => hn (nw_eq_nil.1 (List.eq_nil_of_length_eq_zero h))
      have HDV := Lib.hid (ndiv_any _ _ _ _ _ HS0.out HS1.out HL.out.1 (by rw [nv_nw]; exact hn))
      obtain ⟨r, hr⟩ : ∃ r, r = m % n := ⟨_, rfl⟩
      have hrn : r < n := by rw [hr]; exact Nat.mod_lt _ (by omega)
      have HN : Hid (Nat.gcd n r = Nat.gcd A B) := Lib.hid (by rw [← HG.out, hr, Nat.gcd_comm n, ← Nat.gcd_rec, Nat.gcd_comm])
      have HLR : Hid ((nw n).length ≤ 274877906944 ∧ (nw r).length ≤ 274877906944) := Lib.hid ⟨HL.out.2, Nat.le_trans (nw_len_lt.2 (Nat.lt_trans hrn (nw_len_lt.1 (Nat.le_refl _)))) HL.out.2⟩
      have HR := Lib.hid hr
      obtain ⟨ln, hln⟩ : ∃ ln, ln = (nw n).length := ⟨_, rfl⟩
      have hlp : (0 : Int) < (ln : Int) := by omega
      have hlp2 : 0 < ln := by omega
      obtain ⟨lm, hlm⟩ : ∃ lm, lm = (nw m).length := ⟨_, rfl⟩
      rw [← hln, ← hlm] at HDV ⊢
      rw [← hln] at HS1
      clear hl hr hn hln hlm
      go_wp2_with fail
      refine HDV.out.mono ?_
      rintro e w3 ⟨⟨v3, v4, rfl, hv3, hv4⟩, hk3⟩
      rw [nv_nw, nv_nw, ← HR.out] at hv4
      have H4 := Lib.hid hv4
      have HS1' := Lib.hid (HS1.out.kept hk3)
      have HK3 := Lib.hid (HK.out.trans hk3)
      clear hv3 hv4 hk3
      go_wp2_with fail
      go_roundg r
      case measure => omega
      case rel => exact ⟨n, r, HS1', H4, Nat.le_refl _, HN, HLR, HK3⟩
set_option maxRecDepth 100000 in
set_option maxHeartbeats 2000000 in
theorem nbits_any (va : Value) (xs : List Nat) (w : World) (ha : WdsAt w va xs) :
    Calls Tryz.prog 189 #[va] w fun e w' => (∃ k : Nat, e = .returned (.int .i64 k) ∧ (k = 0 ↔ nv xs = 0)) ∧ w' = w := by
  have HA := Lib.hid ha
  obtain ⟨a0, c0, rfl⟩ := ha.shape
  obtain ⟨n, hn⟩ : ∃ n, n = xs.length := ⟨_, rfl⟩
  have hn9 : n ≤ 1099511627776 := by rw [hn]; exact ha.len
  rw [← hn] at HA ⊢
  have HN := Lib.hid hn
  clear ha hn
  go_enter Tryz.func189, Tryz.ntmps189
  go_wp2_with fail
  go_loopg [3] n (fun kx s3 wr => ∃ k : Nat, s3 = .int .i64 ((k : Int) - 1) ∧ k ≤ n ∧ k ≤ kx ∧ Hid (∀ i, k ≤ i → xs.getD i 0 = 0) ∧ w = wr)
  case atStart => exact ⟨n, rfl, Nat.le_refl _, Nat.le_refl _, Lib.hid (fun i hi => by have := HN.out; simp [List.getD_eq_getElem?_getD, show xs.length ≤ i by omega]), rfl⟩
  case round =>
    obtain ⟨k, rfl, hk, hkx, HZ, rfl⟩ := hrel
    by_cases hk0 : k = 0
    · subst hk0
      have HV : Hid (nv xs = 0) := Lib.hid (nv_of_zero xs fun i => HZ.out i (by omega))
      go_wp2
      go_ret
      exact ⟨⟨0, rfl, by simp [HV.out]⟩, rfl⟩
    · obtain ⟨j, rfl⟩ : ∃ j, k = j + 1 := ⟨k - 1, by omega⟩
      obtain ⟨b, o, rfl, hc⟩ := HA.out.get j (by have := HN.out; omega)
      have hx9 := HA.out.wd.getD j
      obtain ⟨x, hx⟩ : ∃ x, x = xs.getD j 0 := ⟨_, rfl⟩
      rw [← hx] at hc hx9
      have e1 : ((j + 1 : Nat) : Int) - 1 = (j : Int) := by omega
      have hj0 : (0 : Int) ≤ (j : Int) := by omega
      have hjn : (j : Int) < (n : Int) := by omega
      have HX := Lib.hid hx
      rw [e1]
      clear hx e1 hk0
      by_cases hx0 : x = 0
      · subst hx0
        go_wp2_with fail
        go_roundg j
        case measure => omega
        case rel => exact ⟨j, rfl, by omega, Nat.le_refl _, Lib.hid (fun i hi => by
          by_cases h : i = j
          · rw [h]; exact HX.out.symm
          · exact HZ.out i (by omega)), rfl⟩
      · obtain ⟨p, hp, _⟩ := bitLen_ge (x := x) (Nat.lt_of_lt_of_le hx9 (by omega)) hx0
        have hp32 : p + 1 ≤ 32 := by rw [← hp]; exact Lib.bitLen_le x 32 (by omega) (by rw [show (2 : Nat) ^ 32 = 4294967296 by rfl]; exact hx9)
        have HB : Hid (Calls Tryz.prog 226 #[.int .u32 (x : Int)] w fun e w' => e = .returned (.int .i64 ((p + 1 : Nat) : Int)) ∧ w' = w) := Lib.hid (by
          have h := Tryz.bits_Len32 (x : Int) w (by omega) (by omega)
          simp only [Int.toNat_natCast, hp] at h
          exact h)
        have hb : ((x : Int) == 0) = false := by simp; exact hx0
        have hb' : ((x : Int) != 0) = true := by simp; exact hx0
        have HNE : Hid (nv xs ≠ 0) := Lib.hid fun h => hx0 (by rw [HX.out]; exact nv_zero_of h j)
        obtain ⟨q, hq⟩ : ∃ q, q = p + 1 := ⟨_, rfl⟩
        rw [← hq] at HB hp32
        obtain ⟨t, ht⟩ : ∃ t, t = 32 * j := ⟨_, rfl⟩
        have et : 32 * (j : Int) = (t : Int) := by omega
        have ht9 : t ≤ 35184372088832 := by omega
        obtain ⟨z, hz⟩ : ∃ z, z = t + q := ⟨_, rfl⟩
        have ez : (t : Int) + (q : Int) = (z : Int) := by omega
        have hz9 : z ≤ 35184372088864 := by omega
        have HZ0 : Hid (z ≠ 0) := Lib.hid (by omega)
        clear hp hq ht hz hx0
        go_wp2_with (go_at_call 226; (with_reducible refine HB.out.mono ?_); rintro e w3 ⟨rfl, rfl⟩)
        go_ret
        exact ⟨⟨z, rfl, ⟨fun h => absurd h HZ0.out, fun h => absurd h HNE.out⟩⟩, rfl⟩
end Go.Proofs.YtbkchheikkbebaaGreatDoor

/-
  Walks: rational.one, plain, Valid, parts.
-/
namespace Go.Proofs.YtbkchheikkbebaaGreatDoor
open Go.RowKit

/-- A fraction that can be read. -/
def RatAt (w : World) (v : Value) (r : Rw) : Prop := ∃ u1 u2, v = .agg #[.bool r.neg, u1, u2] ∧ WdsAt w u1 r.num ∧ WdsAt w u2 r.den
theorem RatAt.kept {w w' : World} {v : Value} {r : Rw} (h : RatAt w v r) (hk : Kept w w') : RatAt w' v r := by
  obtain ⟨u1, u2, h1, h2, h3⟩ := h
  exact ⟨u1, u2, h1, h2.kept hk, h3.kept hk⟩
theorem RatAt.ok {w : World} {v : Value} {r : Rw} (h : RatAt w v r) : r.Ok := by obtain ⟨u1, u2, _, h2, h3⟩ := h; exact ⟨h2.wd, h3.wd⟩
/-- A fraction whose words are few. -/
def Rw.Short (r : Rw) (n : Nat) : Prop := r.num.length ≤ n ∧ r.den.length ≤ n
theorem RatAt.zero (w : World) : RatAt w (.agg #[.bool false, .slice none 0 0, .slice none 0 0]) ⟨false, [], []⟩ := ⟨_, _, rfl, WdsAt.nil w, WdsAt.nil w⟩
set_option maxRecDepth 100000 in
theorem rone_any (w : World) : Calls Tryz.prog 126 #[] w fun e w' => (∃ v, e = .returned v ∧ WdsAt w' v [1]) ∧ Kept w w' := by
  go_enter Tryz.func126, Tryz.ntmps126
  go_wp2
  go_ret
  exact ⟨⟨_, rfl, wds_new1 w 1 (by omega)⟩, (Kept.refl _).alloc _⟩
set_option maxRecDepth 100000 in
theorem rplain_any (v : Value) (xs : List Nat) (w : World) (hv : WdsAt w v xs) : Calls Tryz.prog 186 #[v] w fun e w' => e = .returned (.bool (plainW xs)) ∧ w' = w := by
  obtain ⟨a, c, rfl⟩ := hv.shape
  have hl := hv.len
  obtain ⟨n, hn⟩ : ∃ n, n = xs.length := ⟨_, rfl⟩
  rw [← hn] at hv hl ⊢
  by_cases h0 : n = 0
  · have hp : plainW xs = false := by unfold plainW; rw [← hn, h0]; rfl
    rw [hp]
    subst h0
    clear hv hn hp
    go_enter Tryz.func186, Tryz.ntmps186
    go_wp2
    go_ret
    exact ⟨rfl, rfl⟩
  · obtain ⟨m, hm⟩ : ∃ m, n = m + 1 := ⟨n - 1, by omega⟩
    obtain ⟨b, o, rfl, hc⟩ := hv.get m (by omega)
    obtain ⟨x, hx⟩ : ∃ x, x = xs.getD m 0 := ⟨_, rfl⟩
    have hp : plainW xs = !((x : Int) == 0) := by
      unfold plainW
      rw [← hn, hm, Nat.add_sub_cancel, ← hx]
      by_cases h : x = 0
      · simp [h]
      · have : ((x : Int) == 0) = false := by simp; exact h
        simp [h, this]
    rw [hp]
    rw [← hx] at hc
    have e1 : (n : Int) - 1 = (m : Int) := by omega
    have hp0 : (0 : Int) < (n : Int) := by omega
    have hp1 : 0 < n := by omega
    have hmn : m < n := by omega
    have hmn' : (m : Int) < (n : Int) := by omega
    obtain ⟨bx, hbx⟩ : ∃ bx, ((x : Int) == 0) = bx := ⟨_, rfl⟩
    rw [hbx]
    clear hv hn hp hx hm h0
    cases bx with
    | true =>
      have hbn : ((x : Int) != 0) = false := by simp [bne, hbx]
      go_enter Tryz.func186, Tryz.ntmps186
      go_wp2
      go_ret
      exact ⟨by first | rfl | simp, rfl⟩
    | false =>
      have hbn : ((x : Int) != 0) = true := by simp [bne, hbx]
      go_enter Tryz.func186, Tryz.ntmps186
      go_wp2
      go_ret
      exact ⟨by first | rfl | simp, rfl⟩
theorem cmp_one (g : Nat) : (cmpN g 1 == 0) = (g == 1) := by
  rcases Nat.lt_trichotomy g 1 with h | h | h
  · rw [cmpN_lt h]
    have : (g == 1) = false := by simp; omega
    rw [this]; rfl
  · rw [cmpN_eq h]
    simp [h]
  · rw [cmpN_gt h]
    have : (g == 1) = false := by simp; omega
    rw [this]; rfl
set_option maxRecDepth 100000 in
set_option maxHeartbeats 4000000 in
theorem ratvalid_any (v : Value) (r : Rw) (w : World) (hv : RatAt w v r) (hs : r.Short 274877906944) : Calls Tryz.prog 117 #[v] w fun e w' => e = .returned (.bool (validR r)) ∧ Kept w w' := by
  obtain ⟨neg, num, den⟩ := r
  obtain ⟨u1, u2, rfl, h1, h2⟩ := hv
  obtain ⟨hs1, hs2⟩ := hs
  simp only at h1 h2 hs1 hs2
  obtain ⟨a1, c1, rfl⟩ := h1.shape
  obtain ⟨a2, c2, rfl⟩ := h2.shape
  obtain ⟨n1, hn1⟩ : ∃ n1, n1 = num.length := ⟨_, rfl⟩
  obtain ⟨n2, hn2⟩ : ∃ n2, n2 = den.length := ⟨_, rfl⟩
  rw [← hn1] at h1 ⊢
  rw [← hn2] at h2 ⊢
  have HR := Lib.hid (RowAt.made w #[.bool neg, .slice a1 n1 c1, .slice a2 n2 c2] 39)
  have HK0 : Hid (Kept w (w.alloc (.cells #[.bool neg, .slice a1 n1 c1, .slice a2 n2 c2] 39))) := Lib.hid ((Kept.refl w).alloc _)
  have H1 := Lib.hid h1
  have H2 := Lib.hid h2
  by_cases he : num = [] ∧ den = []
  · have hV : validR ⟨neg, num, den⟩ = !neg := by unfold validR; rw [if_pos he]
    have e1 : n1 = 0 := by rw [hn1, he.1]; rfl
    have e2 : n2 = 0 := by rw [hn2, he.2]; rfl
    rw [hV]
    subst e1 e2
    clear h1 h2 hn1 hn2 hV he HR
    go_enter Tryz.func117, Tryz.ntmps117
    go_wp2
    go_ret
    exact ⟨rfl, HK0.out⟩
  · have hV : validR ⟨neg, num, den⟩ = (plainW num && plainW den && (Nat.gcd (nv num) (nv den) == 1)) := by unfold validR; rw [if_neg he]
    rw [hV]
    have HP1 := Lib.hid (fun W (hk : Kept w W) => rplain_any _ num W (h1.kept hk))
    have HP2 := Lib.hid (fun W (hk : Kept w W) => rplain_any _ den W (h2.kept hk))
    have HGC := Lib.hid (fun W (hk : Kept w W) => ngcd_any _ _ num den W (h1.kept hk) (h2.kept hk) hs1 hs2)
    generalize plainW den = p2 at *
    obtain ⟨p1, hp1⟩ : ∃ p1, p1 = plainW num := ⟨_, rfl⟩
    rw [← hp1] at HP1 ⊢
    have hc : (n1 ≠ 0) ∨ (n1 = 0 ∧ n2 ≠ 0 ∧ p1 = false) := by
      by_cases h : n1 = 0
      · refine .inr ⟨h, fun h3 => he ⟨List.eq_nil_of_length_eq_zero (hn1.symm.trans h), List.eq_nil_of_length_eq_zero (hn2.symm.trans h3)⟩, ?_⟩
        rw [hp1, List.eq_nil_of_length_eq_zero (hn1.symm.trans h)]; rfl
      · exact .inl h
    generalize Nat.gcd (nv num) (nv den) = g at *
    have HG1 : Hid (∀ W v1 v2, WdsAt W v1 (nw g) → WdsAt W v2 [1] → Calls Tryz.prog 118 #[v1, v2] W fun e w' => e = .returned (.int .i64 (cmpN g 1)) ∧ Kept W w') := Lib.hid fun W v1 v2 k1 k2 => by
      have h := ncmp_any v1 v2 _ _ W k1 k2
      rw [nv_nw] at h
      exact h
    obtain ⟨bg, hbg⟩ : ∃ bg, (g == 1) = bg := ⟨_, rfl⟩
    have hcm := cmp_one g
    rw [hbg] at hcm ⊢
    obtain ⟨cg, hcg⟩ : ∃ cg, cg = cmpN g 1 := ⟨_, rfl⟩
    rw [← hcg] at hcm HG1
    clear h1 h2 hn1 hn2 hV he hp1 hbg hcg hs1 hs2
    rcases hc with hc | ⟨hc, hc2, rfl⟩
    · have hb1 : ((n1 : Int) == 0) = false := by simp; exact hc
      clear hc
      cases p1 with
      | false =>
        go_enter Tryz.func117, Tryz.ntmps117
        go_wp2_with (go_at_call 186; (with_reducible refine (HP1.out _ HK0.out).mono ?_); rintro e w2 ⟨rfl, rfl⟩)
        go_ret
        exact ⟨by simp, HK0.out⟩
      | true =>
        cases p2 with
        | false =>
          go_enter Tryz.func117, Tryz.ntmps117
          go_wp2_with (first | (go_at_call 186; (with_reducible refine (HP1.out _ HK0.out).mono ?_); rintro e w2 ⟨rfl, rfl⟩) | (go_at_call 186; (with_reducible refine (HP2.out _ HK0.out).mono ?_); rintro e w2 ⟨rfl, rfl⟩))
          go_ret
          exact ⟨by simp, HK0.out⟩
        | true =>
          go_enter Tryz.func117, Tryz.ntmps117
          go_wp2_with (first
            | (go_at_call 186; (with_reducible refine (HP1.out _ HK0.out).mono ?_); rintro e w2 ⟨rfl, rfl⟩)
            | (go_at_call 186; (with_reducible refine (HP2.out _ HK0.out).mono ?_); rintro e w2 ⟨rfl, rfl⟩)
            | (go_at_call 187; (with_reducible refine (HGC.out _ HK0.out).mono ?_); rintro e w2 ⟨⟨vg, rfl, hvg⟩, hk2⟩; have HVG := Lib.hid hvg; have HK2 := Lib.hid (HK0.out.trans hk2); clear hvg hk2)
            | (go_at_call 126; (with_reducible refine (rone_any _).mono ?_); rintro e w3 ⟨⟨vo, rfl, hvo⟩, hk3⟩; have HVG3 := Lib.hid (HVG.out.kept hk3); have HVO := Lib.hid hvo; have HK3 := Lib.hid (HK2.out.trans hk3); clear hvo hk3)
            | (go_at_call 118; (with_reducible refine (HG1.out _ _ _ HVG3.out HVO.out).mono ?_); rintro e w4 ⟨rfl, hk4⟩; have HK4 := Lib.hid (HK3.out.trans hk4); clear hk4))
          go_ret
          exact ⟨by simp, HK4.out⟩
    · have hb1 : ((n2 : Int) == 0) = false := by simp; exact hc2
      subst hc
      clear hc2
      go_enter Tryz.func117, Tryz.ntmps117
      go_wp2_with (go_at_call 186; (with_reducible refine (HP1.out _ HK0.out).mono ?_); rintro e w2 ⟨rfl, rfl⟩)
      go_ret
      exact ⟨by simp, HK0.out⟩
end Go.Proofs.YtbkchheikkbebaaGreatDoor

/-
  Walks: rational.parts, form.
-/
namespace Go.Proofs.YtbkchheikkbebaaGreatDoor
open Go.RowKit

/-- A block that holds these cells and no more. -/
def FixAt (w : World) (g : Nat) (xs : List Value) : Prop := ∃ cur e, w.heap[g]? = some (.cells cur e (0, 0)) ∧ cur.toList = xs
theorem FixAt.made (w : World) (cs : Array Value) (e : TypeId) : FixAt (w.alloc (.cells cs e)) w.heap.size cs.toList := ⟨cs, e, heap_alloc_new w _, rfl⟩
theorem FixAt.lt {w : World} {g : Nat} {xs : List Value} (h : FixAt w g xs) : g < w.heap.size := by
  obtain ⟨cur, e, h1, _⟩ := h
  rcases Nat.lt_or_ge g w.heap.size with h2 | h2
  · exact h2
  · simp [Array.getElem?_eq_none h2] at h1
theorem FixAt.kept {w w' : World} {g : Nat} {xs : List Value} (h : FixAt w g xs) (hk : Kept w w') : FixAt w' g xs := by
  have hl := h.lt
  obtain ⟨cur, e, h1, h2⟩ := h
  exact ⟨cur, e, (hk.block g hl).trans h1, h2⟩
theorem FixAt.only {w : World} {g i : Nat} {xs : List Value} {u : Value} (h : FixAt w g xs) (hc : w.cell? ⟨g, i, none⟩ = some u) : u ∈ xs := by
  obtain ⟨arr, e, h1, h2⟩ := h
  simp only [World.cell?, h1] at hc
  rw [← h2]
  have := Array.mem_of_getElem? hc
  simpa using this
/-- A slice of words does not lie in a fraction's own cells. -/
theorem WdsAt.apart {w w' : World} {g : Nat} {v : Value} {xs : List Nat} {row : List Value} (h : WdsAt w v xs) (hr : FixAt w g row) (hn : ∀ k x, Value.int k x ∉ row) (ho : OnlyAt g w w') : WdsAt w' v xs := by
  obtain ⟨a, c, h1, h2, h3, h4, h5⟩ := h
  refine ⟨a, c, h1, h2, h3, h4, fun i hi => ?_⟩
  obtain ⟨b, o, h6, h7⟩ := h5 i hi
  refine ⟨b, o, h6, ?_⟩
  have hne : b ≠ g := fun e => by
    subst e
    exact hn _ _ (hr.only h7)
  have hlt : b < w.heap.size := by
    rcases Nat.lt_or_ge b w.heap.size with h8 | h8
    · exact h8
    · simp [World.cell?, Array.getElem?_eq_none h8] at h7
  have := ho.block b hlt hne
  simp only [World.cell?, this] at h7 ⊢
  exact h7
set_option maxRecDepth 100000 in
set_option maxHeartbeats 4000000 in
theorem rparts_any (v : Value) (r : Rw) (w : World) (hv : RatAt w v r) (hs : r.Short 274877906944) : Calls Tryz.prog 116 #[v] w fun e w' => (∃ u1 u2, e = .returned (.tuple #[.bool (partsR r).1, u1, u2]) ∧ WdsAt w' u1 (partsR r).2.1 ∧ WdsAt w' u2 (partsR r).2.2) ∧ Kept w w' := by
  have HVA := Lib.hid (fun W (hk : Kept w W) => ratvalid_any v r W (hv.kept hk) hs)
  obtain ⟨neg, num, den⟩ := r
  obtain ⟨u1, u2, rfl, h1, h2⟩ := hv
  simp only at h1 h2
  obtain ⟨a1, c1, rfl⟩ := h1.shape
  obtain ⟨a2, c2, rfl⟩ := h2.shape
  obtain ⟨n1, hn1⟩ : ∃ n1, n1 = num.length := ⟨_, rfl⟩
  obtain ⟨n2, hn2⟩ : ∃ n2, n2 = den.length := ⟨_, rfl⟩
  rw [← hn1] at h1 HVA ⊢
  rw [← hn2] at h2 HVA ⊢
  have H1 := Lib.hid h1
  have H2 := Lib.hid h2
  obtain ⟨w1, hw1⟩ : ∃ w1, w1 = w.alloc (.cells #[.bool neg, .slice a1 n1 c1, .slice a2 n2 c2] 39) := ⟨_, rfl⟩
  have HR : Hid (RowAt w1 w.heap.size 39 [.bool neg, .slice a1 n1 c1, .slice a2 n2 c2]) := Lib.hid (by rw [hw1]; exact RowAt.made w #[.bool neg, .slice a1 n1 c1, .slice a2 n2 c2] 39)
  have HK0 : Hid (Kept w w1) := Lib.hid (by rw [hw1]; exact (Kept.refl w).alloc _)
  have q0 := HR.out.cell (i := 0) (by simp)
  have q1 := HR.out.cell (i := 1) (by simp)
  have q2 := HR.out.cell (i := 2) (by simp)
  simp only [List.getElem_cons_succ, List.getElem_cons_zero] at q0 q1 q2
  have HW1 := Lib.hid hw1
  clear hw1
  by_cases hg : validR ⟨neg, num, den⟩ = true ∧ num ≠ []
  · have hP : partsR ⟨neg, num, den⟩ = (neg, num, den) := by unfold partsR; rw [if_pos hg]
    rw [hP]
    rw [hg.1] at HVA
    have hb1 : ((n1 : Int) == 0) = false := by
      have : n1 ≠ 0 := fun h => hg.2 (List.eq_nil_of_length_eq_zero (hn1.symm.trans h))
      simp; exact this
    clear h1 h2 hP hg hn1 hn2 hs
    go_enter Tryz.func116, Tryz.ntmps116
    go_wp2_with fail
    rw [← HW1.out]
    refine (HVA.out _ HK0.out).mono ?_
    rintro e w2 ⟨rfl, hk2⟩
    have y0 := hk2.cell q0
    have y1 := hk2.cell q1
    have y2 := hk2.cell q2
    have HK2 := Lib.hid (HK0.out.trans hk2)
    clear hk2 q0 q1 q2
    go_wp2_with fail
    go_quiet (fail)
    go_wp2
    go_ret3
    exact ⟨⟨_, _, rfl, H1.out.kept (HK2.out.drewN _), H2.out.kept (HK2.out.drewN _)⟩, HK2.out.drewN _⟩
  · have hP : partsR ⟨neg, num, den⟩ = (false, [], [1]) := by unfold partsR; rw [if_neg hg]
    rw [hP]
    by_cases hvv : validR ⟨neg, num, den⟩ = true
    · have h0 : n1 = 0 := by
        rw [hn1]
        by_cases h : num = []
        · rw [h]; rfl
        · exact absurd ⟨hvv, h⟩ hg
      rw [hvv] at HVA
      subst h0
      clear h1 h2 hP hg hn1 hn2 hs hvv
      go_enter Tryz.func116, Tryz.ntmps116
      go_wp2_with fail
      rw [← HW1.out]
      refine (HVA.out _ HK0.out).mono ?_
      rintro e w2 ⟨rfl, hk2⟩
      have y1 := hk2.cell q1
      have HK2 := Lib.hid (HK0.out.trans hk2)
      clear hk2 q0 q1 q2
      go_wp2_with fail
      refine (rone_any _).mono ?_
      rintro e w3 ⟨⟨v3, rfl, hv3⟩, hk3⟩
      have H3 := Lib.hid hv3
      have HK3 := Lib.hid (HK2.out.trans hk3)
      clear hv3 hk3
      go_wp2
      go_ret3
      exact ⟨⟨_, _, rfl, WdsAt.nil _, H3.out⟩, HK3.out⟩
    · have hvf : validR ⟨neg, num, den⟩ = false := by simpa using hvv
      rw [hvf] at HVA
      clear h1 h2 hP hg hn1 hn2 hs hvv hvf
      go_enter Tryz.func116, Tryz.ntmps116
      go_wp2_with fail
      rw [← HW1.out]
      refine (HVA.out _ HK0.out).mono ?_
      rintro e w2 ⟨rfl, hk2⟩
      have HK2 := Lib.hid (HK0.out.trans hk2)
      clear hk2 q0 q1 q2
      go_wp2_with fail
      refine (rone_any _).mono ?_
      rintro e w3 ⟨⟨v3, rfl, hv3⟩, hk3⟩
      have H3 := Lib.hid hv3
      have HK3 := Lib.hid (HK2.out.trans hk3)
      clear hv3 hk3
      go_wp2
      go_ret3
      exact ⟨⟨_, _, rfl, WdsAt.nil _, H3.out⟩, HK3.out⟩
set_option maxRecDepth 100000 in
set_option maxHeartbeats 4000000 in
theorem rform_any (neg : Bool) (va vb : Value) (xs ys : List Nat) (w : World) (ha : WdsAt w va xs) (hb : WdsAt w vb ys) (hla : xs.length ≤ 274877906944) (hlb : ys.length ≤ 274877906944) (hd : nv ys ≠ 0) :
    Calls Tryz.prog 120 #[.bool neg, va, vb] w fun e w' => (∃ v, e = .returned v ∧ RatAt w' v (formR neg (nv xs) (nv ys))) ∧ Kept w w' := by
  have HB := Lib.hid (fun W (hk : Kept w W) => nbits_any va xs W (ha.kept hk))
  have HG := Lib.hid (fun W (hk : Kept w W) => ngcd_any va vb xs ys W (ha.kept hk) (hb.kept hk) hla hlb)
  have HD1 : Hid (∀ W vg, Kept w W → WdsAt W vg (nw (Nat.gcd (nv xs) (nv ys))) → Calls Tryz.prog 190 #[va, vg] W fun e w' => (∃ v1 v2, e = .returned (.tuple #[v1, v2, .nilIface]) ∧ WdsAt w' v1 (nw (nv xs / Nat.gcd (nv xs) (nv ys)))) ∧ Kept W w') := Lib.hid fun W vg hk hg =>
    (ndiv_any va vg xs _ W (ha.kept hk) hg hla (by rw [nv_nw]; exact fun h => hd (Nat.eq_zero_of_gcd_eq_zero_right h))).mono fun _ _ ⟨⟨v1, v2, h1, h2, _⟩, h3⟩ => ⟨⟨v1, v2, h1, by rw [nv_nw] at h2; exact h2⟩, h3⟩
  have HD2 : Hid (∀ W vg, Kept w W → WdsAt W vg (nw (Nat.gcd (nv xs) (nv ys))) → Calls Tryz.prog 190 #[vb, vg] W fun e w' => (∃ v1 v2, e = .returned (.tuple #[v1, v2, .nilIface]) ∧ WdsAt w' v1 (nw (nv ys / Nat.gcd (nv xs) (nv ys)))) ∧ Kept W w') := Lib.hid fun W vg hk hg =>
    (ndiv_any vb vg ys _ W (hb.kept hk) hg hlb (by rw [nv_nw]; exact fun h => hd (Nat.eq_zero_of_gcd_eq_zero_right h))).mono fun _ _ ⟨⟨v1, v2, h1, h2, _⟩, h3⟩ => ⟨⟨v1, v2, h1, by rw [nv_nw] at h2; exact h2⟩, h3⟩
  obtain ⟨a0, c0, rfl⟩ := ha.shape
  obtain ⟨a1, c1, rfl⟩ := hb.shape
  generalize xs.length = n0 at *
  generalize ys.length = n1 at *
  obtain ⟨w1, hw1⟩ : ∃ w1, w1 = w.alloc (.cells #[.bool false, .slice none 0 0, .slice none 0 0] 39) := ⟨_, rfl⟩
  have HR : Hid (RowAt w1 w.heap.size 39 [.bool false, .slice none 0 0, .slice none 0 0]) := Lib.hid (by rw [hw1]; exact RowAt.made w #[.bool false, .slice none 0 0, .slice none 0 0] 39)
  have HK0 : Hid (Kept w w1) := Lib.hid (by rw [hw1]; exact (Kept.refl w).alloc _)
  have HFX : Hid (FixAt w1 w.heap.size [.bool false, .slice none 0 0, .slice none 0 0]) := Lib.hid (by rw [hw1]; exact FixAt.made w #[.bool false, .slice none 0 0, .slice none 0 0] 39)
  have HW1 := Lib.hid hw1
  clear hw1 ha hb hla hlb hd
  by_cases h0 : nv xs = 0
  · have hF : formR neg (nv xs) (nv ys) = ⟨false, [], []⟩ := by unfold formR; rw [if_pos h0]
    rw [hF]
    have H0 := Lib.hid h0
    clear hF h0
    go_enter Tryz.func120, Tryz.ntmps120
    go_wp2_with fail
    rw [← HW1.out]
    refine (HB.out _ HK0.out).mono ?_
    rintro e w2 ⟨⟨k, rfl, hk⟩, rfl⟩
    have hk0 : k = 0 := hk.2 H0.out
    subst hk0
    clear hk
    have g0 := HR.out.cell (i := 0) (by simp)
    have g1 := HR.out.cell (i := 1) (by simp)
    have g2 := HR.out.cell (i := 2) (by simp)
    have f0 := HR.out.free 0
    have f1 := HR.out.free 1
    have f2 := HR.out.free 2
    go_wp2
    have hF := (((HR.out.store 0 (.bool false)).store 1 (.slice none 0 0)).store 2 (.slice none 0 0))
    have y0 := hF.cell (i := 0) (by simp)
    have y1 := hF.cell (i := 1) (by simp)
    have y2 := hF.cell (i := 2) (by simp)
    simp only [List.set_cons_zero, List.set_cons_succ, List.getElem_cons_succ, List.getElem_cons_zero] at y0 y1 y2
    refine bodyPost_ret (v := .agg #[.bool false, .slice none 0 0, .slice none 0 0]) ?_ rfl ⟨⟨_, rfl, RatAt.zero _⟩, ?_⟩
    · simp [results, Tryz.results120, go_sem, y0, y1, y2]
    · exact ((HK0.out.store (Nat.le_refl _) _ _).store (Nat.le_refl _) _ _).store (Nat.le_refl _) _ _
  · have hF : formR neg (nv xs) (nv ys) = ⟨neg, nw (nv xs / Nat.gcd (nv xs) (nv ys)), nw (nv ys / Nat.gcd (nv xs) (nv ys))⟩ := by unfold formR; rw [if_neg h0]
    rw [hF]
    have H0 := Lib.hid h0
    clear hF h0
    generalize nw (nv xs / Nat.gcd (nv xs) (nv ys)) = P at *
    generalize nw (nv ys / Nat.gcd (nv xs) (nv ys)) = Q at *
    generalize nw (Nat.gcd (nv xs) (nv ys)) = G at *
    go_enter Tryz.func120, Tryz.ntmps120
    go_wp2_with fail
    rw [← HW1.out]
    refine (HB.out _ HK0.out).mono ?_
    rintro e w2 ⟨⟨k, rfl, hk⟩, rfl⟩
    have hk0 : ((k : Int) == 0) = false := by
      have : k ≠ 0 := fun h => H0.out (hk.1 h)
      simp; exact this
    clear hk
    go_wp2_with fail
    refine (HG.out _ HK0.out).mono ?_
    rintro e w3 ⟨⟨v3, rfl, hv3⟩, hk3⟩
    have HV3 := Lib.hid hv3
    have HK3 := Lib.hid (HK0.out.trans hk3)
    have HR3 := Lib.hid (HR.out.kept hk3)
    have HFX3 := Lib.hid (HFX.out.kept hk3)
    clear hv3 hk3 hk0
    go_wp2_with fail
    refine (HD1.out _ _ HK3.out HV3.out).mono ?_
    rintro e w4 ⟨⟨v4, v5, rfl, hv4⟩, hk4⟩
    have HV4 := Lib.hid hv4
    have HV3' := Lib.hid (HV3.out.kept hk4)
    have HK4 := Lib.hid (HK3.out.trans hk4)
    have HR4 := Lib.hid (HR3.out.kept hk4)
    have HFX4 := Lib.hid (HFX3.out.kept hk4)
    clear hv4 hk4
    go_wp2_with fail
    refine (HD2.out _ _ HK4.out HV3'.out).mono ?_
    rintro e w5 ⟨⟨v6, v7, rfl, hv6⟩, hk5⟩
    have HV6 := Lib.hid hv6
    have HV4' := Lib.hid (HV4.out.kept hk5)
    have HK5 := Lib.hid (HK4.out.trans hk5)
    have HR5 := Lib.hid (HR4.out.kept hk5)
    have HFX5 := Lib.hid (HFX4.out.kept hk5)
    clear hv6 hk5
    obtain ⟨a4, c4, rfl⟩ := HV4'.out.shape
    obtain ⟨a6, c6, rfl⟩ := HV6.out.shape
    have g0 := HR5.out.cell (i := 0) (by simp)
    have g1 := HR5.out.cell (i := 1) (by simp)
    have g2 := HR5.out.cell (i := 2) (by simp)
    have f0 := HR5.out.free 0
    have f1 := HR5.out.free 1
    have f2 := HR5.out.free 2
    go_wp2
    have hF := (((HR5.out.store 0 (.bool neg)).store 1 (.slice a4 P.length c4)).store 2 (.slice a6 Q.length c6))
    have y0 := hF.cell (i := 0) (by simp)
    have y1 := hF.cell (i := 1) (by simp)
    have y2 := hF.cell (i := 2) (by simp)
    simp only [List.set_cons_zero, List.set_cons_succ, List.getElem_cons_succ, List.getElem_cons_zero] at y0 y1 y2
    have hO := (((OnlyAt.refl w.heap.size w5).store 0 (.bool neg)).store 1 (.slice a4 P.length c4)).store 2 (.slice a6 Q.length c6)
    have z1 := HV4'.out.apart HFX5.out (by simp) hO
    have z2 := HV6.out.apart HFX5.out (by simp) hO
    refine bodyPost_ret (v := .agg #[.bool neg, .slice a4 P.length c4, .slice a6 Q.length c6]) ?_ rfl ⟨⟨_, rfl, ⟨_, _, rfl, z1, z2⟩⟩, ?_⟩
    · simp [results, Tryz.results120, go_sem, y0, y1, y2]
    · exact ((HK5.out.store (Nat.le_refl _) _ _).store (Nat.le_refl _) _ _).store (Nat.le_refl _) _ _
end Go.Proofs.YtbkchheikkbebaaGreatDoor

/-
  Walks: rational.Neg, Sign, Mul: in numbers.
-/
namespace Go.Proofs.YtbkchheikkbebaaGreatDoor
open Go.RowKit

theorem parts_short {r : Rw} {k : Nat} (h : r.Short k) (hk : 1 ≤ k) : (partsR r).2.1.length ≤ k ∧ (partsR r).2.2.length ≤ k := by
  unfold partsR
  split
  · exact h
  · exact ⟨by simp, by simpa using hk⟩
theorem ratOf_neg (r : Rw) : mkRat (sg (!(partsR r).1) (nv (partsR r).2.1)) (nv (partsR r).2.2) = - ratOf r := by
  unfold ratOf; rw [sg_not, Rat.neg_mkRat]
theorem ratOf_mul {r s : Rw} : mkRat (sg ((partsR r).1 != (partsR s).1) (nv (partsR r).2.1 * nv (partsR s).2.1)) (nv (partsR r).2.2 * nv (partsR s).2.2) = ratOf r * ratOf s := by
  unfold ratOf; rw [sg_mul, Rat.mkRat_mul_mkRat]
theorem ratOf_add {r s : Rw} (hr : r.Ok) (hs : s.Ok) (h : (partsR r).1 = (partsR s).1) : mkRat (sg (partsR r).1 (nv (partsR r).2.1 * nv (partsR s).2.2 + nv (partsR s).2.1 * nv (partsR r).2.2)) (nv (partsR r).2.2 * nv (partsR s).2.2) = ratOf r + ratOf s := by
  unfold ratOf
  rw [Rat.mkRat_add_mkRat _ _ (partsR_ok hr).2.2.1 (partsR_ok hs).2.2.1, sg_add, sg_scale, h, sg_scale]
theorem ratOf_sub {r s : Rw} (hr : r.Ok) (hs : s.Ok) (h : (partsR r).1 ≠ (partsR s).1) (hle : nv (partsR s).2.1 * nv (partsR r).2.2 ≤ nv (partsR r).2.1 * nv (partsR s).2.2) : mkRat (sg (partsR r).1 (nv (partsR r).2.1 * nv (partsR s).2.2 - nv (partsR s).2.1 * nv (partsR r).2.2)) (nv (partsR r).2.2 * nv (partsR s).2.2) = ratOf r + ratOf s := by
  unfold ratOf
  rw [Rat.mkRat_add_mkRat _ _ (partsR_ok hr).2.2.1 (partsR_ok hs).2.2.1, sg_sub h hle, sg_scale, sg_scale]
theorem ratOf_sub' {r s : Rw} (hr : r.Ok) (hs : s.Ok) (h : (partsR r).1 ≠ (partsR s).1) (hle : nv (partsR r).2.1 * nv (partsR s).2.2 ≤ nv (partsR s).2.1 * nv (partsR r).2.2) : mkRat (sg (partsR s).1 (nv (partsR s).2.1 * nv (partsR r).2.2 - nv (partsR r).2.1 * nv (partsR s).2.2)) (nv (partsR r).2.2 * nv (partsR s).2.2) = ratOf r + ratOf s := by
  unfold ratOf
  rw [Rat.mkRat_add_mkRat _ _ (partsR_ok hr).2.2.1 (partsR_ok hs).2.2.1, sg_sub' h hle, sg_scale, sg_scale]
theorem sign_ratOf {r : Rw} (hr : r.Ok) : ((partsR r).2.1.length = 0 ↔ ratOf r = 0) ∧ ((partsR r).2.1.length ≠ 0 → ((partsR r).1 = true ↔ ratOf r < 0)) := by
  have hok := partsR_ok hr
  have h0 : (partsR r).2.1.length = 0 ↔ nv (partsR r).2.1 = 0 := by
    constructor
    · intro h; rw [List.eq_nil_of_length_eq_zero h]; rfl
    · intro h
      have := nw_nv hok.1 hok.2.2.2.1
      rw [h, nw_zero] at this
      rw [← this]; rfl
  have h1 : ratOf r = 0 ↔ nv (partsR r).2.1 = 0 := by
    unfold ratOf
    rw [Rat.mkRat_eq_zero hok.2.2.1]
    constructor
    · intro h; have := sg_abs (partsR r).1 (nv (partsR r).2.1); rw [h] at this; simpa using this.symm
    · intro h; rw [h]; exact sg_zero _
  refine ⟨h0.trans h1.symm, fun hne => ?_⟩
  have hn : nv (partsR r).2.1 ≠ 0 := fun h => hne (h0.2 h)
  unfold ratOf
  have h2 : mkRat (sg (partsR r).1 (nv (partsR r).2.1)) (nv (partsR r).2.2) < 0 ↔ sg (partsR r).1 (nv (partsR r).2.1) < 0 := by
    have hd : (0 : Int) < (nv (partsR r).2.2 : Int) := by have := hok.2.2.1; omega
    rw [← Rat.divInt_ofNat, ← Int.not_le, ← Rat.not_le]
    rw [show (0 ≤ Rat.divInt (sg (partsR r).1 (nv (partsR r).2.1)) (nv (partsR r).2.2 : Int)) ↔ 0 ≤ sg (partsR r).1 (nv (partsR r).2.1) from Rat.divInt_nonneg_iff_of_pos_right hd]
  rw [h2]
  unfold sg
  cases (partsR r).1 with
  | true => simp; omega
  | false => simp
/-- A fraction that has been stored into its own cells. -/
theorem rat_stored {w : World} {g : Nat} {T : TypeId} {v1 v2 : Value} {r : Rw} (hr : RowAt w g T [.bool false, .slice none 0 0, .slice none 0 0]) (hf : FixAt w g [.bool false, .slice none 0 0, .slice none 0 0]) (h1 : WdsAt w v1 r.num) (h2 : WdsAt w v2 r.den) :
    (((w.setCell ⟨g, 0, none⟩ (.bool r.neg)).setCell ⟨g, 1, none⟩ v1).setCell ⟨g, 2, none⟩ v2).cell? ⟨g, 0, none⟩ = some (.bool r.neg) ∧
    (((w.setCell ⟨g, 0, none⟩ (.bool r.neg)).setCell ⟨g, 1, none⟩ v1).setCell ⟨g, 2, none⟩ v2).cell? ⟨g, 1, none⟩ = some v1 ∧
    (((w.setCell ⟨g, 0, none⟩ (.bool r.neg)).setCell ⟨g, 1, none⟩ v1).setCell ⟨g, 2, none⟩ v2).cell? ⟨g, 2, none⟩ = some v2 ∧
    RatAt (((w.setCell ⟨g, 0, none⟩ (.bool r.neg)).setCell ⟨g, 1, none⟩ v1).setCell ⟨g, 2, none⟩ v2) (.agg #[.bool r.neg, v1, v2]) r := by
  have hF := (((hr.store 0 (.bool r.neg)).store 1 v1).store 2 v2)
  have y0 := hF.cell (i := 0) (by simp)
  have y1 := hF.cell (i := 1) (by simp)
  have y2 := hF.cell (i := 2) (by simp)
  simp only [List.set_cons_zero, List.set_cons_succ, List.getElem_cons_succ, List.getElem_cons_zero] at y0 y1 y2
  have hO := (((OnlyAt.refl g w).store 0 (.bool r.neg)).store 1 v1).store 2 v2
  exact ⟨y0, y1, y2, _, _, rfl, h1.apart hf (by simp) hO, h2.apart hf (by simp) hO⟩
end Go.Proofs.YtbkchheikkbebaaGreatDoor

/-
  Walks: rational.Neg, Sign, Mul, Add.
-/
namespace Go.Proofs.YtbkchheikkbebaaGreatDoor
open Go.RowKit

theorem res_made (w : World) (box : Obj) : RowAt ((w.alloc box).alloc (.cells #[.bool false, .slice none 0 0, .slice none 0 0] 39)) (w.heap.size + 1) 39 [.bool false, .slice none 0 0, .slice none 0 0] ∧ FixAt ((w.alloc box).alloc (.cells #[.bool false, .slice none 0 0, .slice none 0 0] 39)) (w.heap.size + 1) [.bool false, .slice none 0 0, .slice none 0 0] ∧ Kept w ((w.alloc box).alloc (.cells #[.bool false, .slice none 0 0, .slice none 0 0] 39)) := by
  have h1 := RowAt.made (w.alloc box) #[.bool false, .slice none 0 0, .slice none 0 0] 39
  have h2 := FixAt.made (w.alloc box) #[.bool false, .slice none 0 0, .slice none 0 0] 39
  simp only [World.size_alloc] at h1 h2
  exact ⟨h1, h2, ((Kept.refl w).alloc _).alloc _⟩
theorem res_made2 (w : World) (b1 b2 : Obj) : RowAt (((w.alloc b1).alloc b2).alloc (.cells #[.bool false, .slice none 0 0, .slice none 0 0] 39)) (w.heap.size + 1 + 1) 39 [.bool false, .slice none 0 0, .slice none 0 0] ∧ FixAt (((w.alloc b1).alloc b2).alloc (.cells #[.bool false, .slice none 0 0, .slice none 0 0] 39)) (w.heap.size + 1 + 1) [.bool false, .slice none 0 0, .slice none 0 0] ∧ Kept w (((w.alloc b1).alloc b2).alloc (.cells #[.bool false, .slice none 0 0, .slice none 0 0] 39)) := by
  have h1 := RowAt.made ((w.alloc b1).alloc b2) #[.bool false, .slice none 0 0, .slice none 0 0] 39
  have h2 := FixAt.made ((w.alloc b1).alloc b2) #[.bool false, .slice none 0 0, .slice none 0 0] 39
  simp only [World.size_alloc] at h1 h2
  exact ⟨h1, h2, (((Kept.refl w).alloc _).alloc _).alloc _⟩
set_option maxRecDepth 100000 in
set_option maxHeartbeats 4000000 in
theorem rneg_any (v : Value) (r : Rw) (w : World) (hv : RatAt w v r) (hs : r.Short 274877906944) : Calls Tryz.prog 136 #[v] w fun e w' => (∃ v', e = .returned v' ∧ RatAt w' v' (canR (- ratOf r))) ∧ Kept w w' := by
  have HPA := Lib.hid (fun W (hk : Kept w W) => rparts_any v r W (hv.kept hk) hs)
  have hok := partsR_ok hv.ok
  have hsh := parts_short hs (by omega)
  obtain ⟨R, hR⟩ : ∃ R, R = canR (- ratOf r) := ⟨_, rfl⟩
  have HFO : Hid (∀ W u1 u2, WdsAt W u1 (partsR r).2.1 → WdsAt W u2 (partsR r).2.2 → Calls Tryz.prog 120 #[.bool (!(partsR r).1), u1, u2] W fun e w' => (∃ v, e = .returned v ∧ RatAt w' v R) ∧ Kept W w') := Lib.hid fun W u1 u2 k1 k2 => by
    have h := rform_any (!(partsR r).1) u1 u2 _ _ W k1 k2 hsh.1 hsh.2 hok.2.2.1
    rw [form_can _ _ _ hok.2.2.1, ratOf_neg, ← hR] at h
    exact h
  rw [← hR]
  obtain ⟨u1, u2, rfl, h1, h2⟩ := hv
  obtain ⟨a1, c1, rfl⟩ := h1.shape
  obtain ⟨a2, c2, rfl⟩ := h2.shape
  obtain ⟨w2, hw2⟩ : ∃ w2, w2 = (w.alloc (.cells #[.bool r.neg, .slice a1 r.num.length c1, .slice a2 r.den.length c2] 39)).alloc (.cells #[.bool false, .slice none 0 0, .slice none 0 0] 39) := ⟨_, rfl⟩
  have HM := Lib.hid (res_made w (.cells #[.bool r.neg, .slice a1 r.num.length c1, .slice a2 r.den.length c2] 39))
  rw [← hw2] at HM
  have HW2 := Lib.hid hw2
  generalize (partsR r).1 = s at *
  generalize (partsR r).2.1 = N at *
  generalize (partsR r).2.2 = D at *
  generalize r.num.length = n1 at *
  generalize r.den.length = n2 at *
  generalize r.neg = neg at *
  clear hok hsh hR h1 h2 hs hw2
  go_enter Tryz.func136, Tryz.ntmps136
  go_wp2_with fail
  rw [← HW2.out]
  refine (HPA.out _ HM.out.2.2).mono ?_
  rintro e w3 ⟨⟨u3, u4, rfl, hu3, hu4⟩, hk3⟩
  have H3 := Lib.hid hu3
  have H4 := Lib.hid hu4
  have HR3 := Lib.hid (HM.out.1.kept hk3)
  have HF3 := Lib.hid (HM.out.2.1.kept hk3)
  have HK3 := Lib.hid (HM.out.2.2.trans hk3)
  clear hu3 hu4 hk3
  go_wp2_with fail
  refine (HFO.out _ _ _ H3.out H4.out).mono ?_
  rintro e w4 ⟨⟨v4, rfl, hv4⟩, hk4⟩
  have HV4 := Lib.hid hv4
  have hr4 := HR3.out.kept hk4
  have HR4 := Lib.hid hr4
  have HF4 := Lib.hid (HF3.out.kept hk4)
  have HK4 := Lib.hid (HK3.out.trans hk4)
  obtain ⟨u5, u6, rfl, k5, k6⟩ := hv4
  obtain ⟨a5, c5, rfl⟩ := k5.shape
  obtain ⟨a6, c6, rfl⟩ := k6.shape
  obtain ⟨y0, y1, y2, hra⟩ := rat_stored hr4 HF4.out k5 k6
  have g0 := hr4.cell (i := 0) (by simp)
  have g1 := hr4.cell (i := 1) (by simp)
  have g2 := hr4.cell (i := 2) (by simp)
  have f0 := hr4.free 0
  have f1 := hr4.free 1
  have f2 := hr4.free 2
  have HRA := Lib.hid hra
  have Y0 := Lib.hid y0
  have Y1 := Lib.hid y1
  have Y2 := Lib.hid y2
  clear hra y0 y1 y2 k5 k6 hr4 hk4
  generalize R.num.length = n5 at *
  generalize R.den.length = n6 at *
  go_wp2
  refine bodyPost_ret (v := .agg #[.bool R.neg, .slice a5 n5 c5, .slice a6 n6 c6]) ?_ rfl ⟨⟨_, rfl, HRA.out⟩, ?_⟩
  · simp [results, Tryz.results136, go_sem, Y0.out, Y1.out, Y2.out]
  · exact ((HK4.out.store (by omega) _ _).store (by omega) _ _).store (by omega) _ _
end Go.Proofs.YtbkchheikkbebaaGreatDoor

/-
  Walks: rational.Sign, Mul, Add.
-/
namespace Go.Proofs.YtbkchheikkbebaaGreatDoor
open Go.RowKit

/-- The sign of a number. -/
def sgnR (q : Rat) : Int := if q = 0 then 0 else if q < 0 then -1 else 1
set_option maxRecDepth 100000 in
set_option maxHeartbeats 4000000 in
theorem rsign_any (v : Value) (r : Rw) (w : World) (hv : RatAt w v r) (hs : r.Short 274877906944) : Calls Tryz.prog 45 #[v] w fun e w' => e = .returned (.int .i64 (sgnR (ratOf r))) ∧ Kept w w' := by
  have HPA := Lib.hid (fun W (hk : Kept w W) => rparts_any v r W (hv.kept hk) hs)
  obtain ⟨k1, k2⟩ := sign_ratOf hv.ok
  obtain ⟨u1, u2, rfl, h1, h2⟩ := hv
  obtain ⟨a1, c1, rfl⟩ := h1.shape
  obtain ⟨a2, c2, rfl⟩ := h2.shape
  have HK0 : Hid (Kept w (w.alloc (.cells #[.bool r.neg, .slice a1 r.num.length c1, .slice a2 r.den.length c2] 39))) := Lib.hid ((Kept.refl w).alloc _)
  obtain ⟨ln, hln⟩ : ∃ ln, ln = (partsR r).2.1.length := ⟨_, rfl⟩
  have HLN := Lib.hid hln
  rw [← hln] at k1 k2
  obtain ⟨S, hS⟩ : ∃ S, S = sgnR (ratOf r) := ⟨_, rfl⟩
  rw [← hS]
  have hSS : S = if ln = 0 then 0 else if (partsR r).1 = true then -1 else 1 := by
    rw [hS]
    unfold sgnR
    by_cases h : ln = 0
    · rw [if_pos h, if_pos (k1.1 h)]
    · rw [if_neg h, if_neg (fun e => h (k1.2 e))]
      by_cases h3 : (partsR r).1 = true
      · rw [if_pos h3, if_pos ((k2 h).1 h3)]
      · rw [if_neg h3, if_neg (fun e => h3 ((k2 h).2 e))]
  generalize (partsR r).1 = s at *
  generalize (partsR r).2.1 = N at *
  generalize (partsR r).2.2 = D at *
  generalize r.num.length = n1 at *
  generalize r.den.length = n2 at *
  generalize r.neg = neg at *
  clear h1 h2 hs hS k1 k2 hln
  by_cases h0 : ln = 0
  · have hE : S = 0 := by rw [hSS, if_pos h0]
    subst h0 hE
    clear hSS
    go_enter Tryz.func45, Tryz.ntmps45
    go_wp2_with fail
    refine (HPA.out _ HK0.out).mono ?_
    rintro e w3 ⟨⟨u3, u4, rfl, hu3, hu4⟩, hk3⟩
    obtain ⟨a3, c3, rfl⟩ := hu3.shape
    rw [← HLN.out]
    have HK3 := Lib.hid (HK0.out.trans hk3)
    clear hu3 hu4 hk3
    go_wp2
    go_ret
    exact ⟨rfl, HK3.out⟩
  · have hb : ((ln : Int) == 0) = false := by simp; exact h0
    cases s with
    | true =>
      have hE : S = -1 := by rw [hSS, if_neg h0, if_pos rfl]
      subst hE
      clear hSS h0
      go_enter Tryz.func45, Tryz.ntmps45
      go_wp2_with fail
      refine (HPA.out _ HK0.out).mono ?_
      rintro e w3 ⟨⟨u3, u4, rfl, hu3, hu4⟩, hk3⟩
      obtain ⟨a3, c3, rfl⟩ := hu3.shape
      rw [← HLN.out]
      have HK3 := Lib.hid (HK0.out.trans hk3)
      clear hu3 hu4 hk3
      go_wp2
      go_ret
      exact ⟨rfl, HK3.out⟩
    | false =>
      have hE : S = 1 := by rw [hSS, if_neg h0, if_neg (by simp)]
      subst hE
      clear hSS h0
      go_enter Tryz.func45, Tryz.ntmps45
      go_wp2_with fail
      refine (HPA.out _ HK0.out).mono ?_
      rintro e w3 ⟨⟨u3, u4, rfl, hu3, hu4⟩, hk3⟩
      obtain ⟨a3, c3, rfl⟩ := hu3.shape
      rw [← HLN.out]
      have HK3 := Lib.hid (HK0.out.trans hk3)
      clear hu3 hu4 hk3
      go_wp2
      go_ret
      exact ⟨rfl, HK3.out⟩
theorem nw_mul_len {xs ys : List Nat} (hx : Wd xs) (hy : Wd ys) : (nw (nv xs * nv ys)).length ≤ xs.length + ys.length := by
  refine nw_len_lt.2 ?_
  rw [Nat.pow_add]
  exact Nat.mul_lt_mul'' (nv_lt hx) (nv_lt hy)
set_option maxRecDepth 100000 in
set_option maxHeartbeats 4000000 in
theorem rmul_any (va vb : Value) (r s : Rw) (w : World) (ha : RatAt w va r) (hb : RatAt w vb s) (hr : r.Short 137438953472) (hs : s.Short 137438953472) : Calls Tryz.prog 64 #[va, vb] w fun e w' => (∃ v', e = .returned v' ∧ RatAt w' v' (canR (ratOf r * ratOf s))) ∧ Kept w w' := by
  have HP1 := Lib.hid (fun W (hk : Kept w W) => rparts_any va r W (ha.kept hk) ⟨Nat.le_trans hr.1 (by omega), Nat.le_trans hr.2 (by omega)⟩)
  have HP2 := Lib.hid (fun W (hk : Kept w W) => rparts_any vb s W (hb.kept hk) ⟨Nat.le_trans hs.1 (by omega), Nat.le_trans hs.2 (by omega)⟩)
  have hok1 := partsR_ok ha.ok
  have hok2 := partsR_ok hb.ok
  have hsh1 := parts_short hr (by omega)
  have hsh2 := parts_short hs (by omega)
  obtain ⟨R, hR⟩ : ∃ R, R = canR (ratOf r * ratOf s) := ⟨_, rfl⟩
  obtain ⟨x, hx⟩ : ∃ x, x = ((partsR r).1 != (partsR s).1) := ⟨_, rfl⟩
  have HFO : Hid (∀ W u1 u2, WdsAt W u1 (nw (nv (partsR r).2.1 * nv (partsR s).2.1)) → WdsAt W u2 (nw (nv (partsR r).2.2 * nv (partsR s).2.2)) → Calls Tryz.prog 120 #[.bool x, u1, u2] W fun e w' => (∃ v, e = .returned v ∧ RatAt w' v R) ∧ Kept W w') := Lib.hid fun W u1 u2 k1 k2 => by
    have hd : nv (partsR r).2.2 * nv (partsR s).2.2 ≠ 0 := Nat.mul_ne_zero hok1.2.2.1 hok2.2.2.1
    have h := rform_any x u1 u2 _ _ W k1 k2 (Nat.le_trans (nw_mul_len hok1.1 hok2.1) (by omega)) (Nat.le_trans (nw_mul_len hok1.2.1 hok2.2.1) (by omega)) (by rw [nv_nw]; exact hd)
    rw [nv_nw, nv_nw, form_can _ _ _ hd, hx, ratOf_mul, ← hR] at h
    rw [hx]
    exact h
  have HM1 : Hid (∀ W u1 u2, WdsAt W u1 (partsR r).2.1 → WdsAt W u2 (partsR s).2.1 → Calls Tryz.prog 119 #[u1, u2] W fun e w' => (∃ v', e = .returned v' ∧ WdsAt w' v' (nw (nv (partsR r).2.1 * nv (partsR s).2.1))) ∧ Kept W w') := Lib.hid fun W u1 u2 k1 k2 => nmul_any u1 u2 _ _ W k1 k2 (by omega) (by omega)
  have HM2 : Hid (∀ W u1 u2, WdsAt W u1 (partsR r).2.2 → WdsAt W u2 (partsR s).2.2 → Calls Tryz.prog 119 #[u1, u2] W fun e w' => (∃ v', e = .returned v' ∧ WdsAt w' v' (nw (nv (partsR r).2.2 * nv (partsR s).2.2))) ∧ Kept W w') := Lib.hid fun W u1 u2 k1 k2 => nmul_any u1 u2 _ _ W k1 k2 (by omega) (by omega)
  rw [← hR]
  obtain ⟨u1, u2, rfl, h1, h2⟩ := ha
  obtain ⟨u3, u4, rfl, h3, h4⟩ := hb
  obtain ⟨a1, c1, rfl⟩ := h1.shape
  obtain ⟨a2, c2, rfl⟩ := h2.shape
  obtain ⟨a3, c3, rfl⟩ := h3.shape
  obtain ⟨a4, c4, rfl⟩ := h4.shape
  obtain ⟨w2, hw2⟩ : ∃ w2, w2 = ((w.alloc (.cells #[.bool r.neg, .slice a1 r.num.length c1, .slice a2 r.den.length c2] 39)).alloc (.cells #[.bool s.neg, .slice a3 s.num.length c3, .slice a4 s.den.length c4] 39)).alloc (.cells #[.bool false, .slice none 0 0, .slice none 0 0] 39) := ⟨_, rfl⟩
  have HM := Lib.hid (res_made2 w (.cells #[.bool r.neg, .slice a1 r.num.length c1, .slice a2 r.den.length c2] 39) (.cells #[.bool s.neg, .slice a3 s.num.length c3, .slice a4 s.den.length c4] 39))
  rw [← hw2] at HM
  have hb2 := RowAt.made (w.alloc (.cells #[.bool r.neg, .slice a1 r.num.length c1, .slice a2 r.den.length c2] 39)) #[.bool s.neg, .slice a3 s.num.length c3, .slice a4 s.den.length c4] 39
  simp only [World.size_alloc] at hb2
  have HB2 : Hid (RowAt w2 (w.heap.size + 1) 39 [.bool s.neg, .slice a3 s.num.length c3, .slice a4 s.den.length c4]) := Lib.hid (by rw [hw2]; exact hb2.kept ((Kept.refl _).alloc _))
  have HW2 := Lib.hid hw2
  generalize nw (nv (partsR r).2.1 * nv (partsR s).2.1) = NM at *
  generalize nw (nv (partsR r).2.2 * nv (partsR s).2.2) = DE at *
  generalize (partsR r).1 = s1 at *
  generalize (partsR s).1 = s2 at *
  generalize (partsR r).2.1 = N at *
  generalize (partsR r).2.2 = D at *
  generalize (partsR s).2.1 = M at *
  generalize (partsR s).2.2 = E at *
  generalize r.num.length = n1 at *
  generalize r.den.length = n2 at *
  generalize s.num.length = n3 at *
  generalize s.den.length = n4 at *
  generalize r.neg = neg1 at *
  generalize s.neg = neg2 at *
  have hx1 : (s1 != s2) = x := hx.symm
  have hx2 : (s1 == s2) = !x := by rw [hx]; simp [bne]
  clear hok1 hok2 hsh1 hsh2 hR h1 h2 h3 h4 hr hs hw2 hb2 hx
  go_enter Tryz.func64, Tryz.ntmps64
  go_wp2_with fail
  rw [← HW2.out]
  refine (HP1.out _ HM.out.2.2).mono ?_
  rintro e w3 ⟨⟨u3, u4, rfl, hu3, hu4⟩, hk3⟩
  have HN := Lib.hid hu3
  have HD := Lib.hid hu4
  have HR3 := Lib.hid (HM.out.1.kept hk3)
  have HF3 := Lib.hid (HM.out.2.1.kept hk3)
  have hb3 := HB2.out.kept hk3
  have g0 := hb3.cell (i := 0) (by simp)
  have g1 := hb3.cell (i := 1) (by simp)
  have g2 := hb3.cell (i := 2) (by simp)
  simp only [List.getElem_cons_succ, List.getElem_cons_zero] at g0 g1 g2
  have HK3 := Lib.hid (HM.out.2.2.trans hk3)
  clear hu3 hu4 hk3 hb3
  go_wp2_with fail
  refine (HP2.out _ HK3.out).mono ?_
  rintro e w4 ⟨⟨u5, u6, rfl, hu5, hu6⟩, hk4⟩
  have HN' := Lib.hid (HN.out.kept hk4)
  have HD' := Lib.hid (HD.out.kept hk4)
  have HMM := Lib.hid hu5
  have HEE := Lib.hid hu6
  have HR4 := Lib.hid (HR3.out.kept hk4)
  have HF4 := Lib.hid (HF3.out.kept hk4)
  have HK4 := Lib.hid (HK3.out.trans hk4)
  clear hu5 hu6 hk4 g0 g1 g2
  go_wp2_with fail
  refine (HM1.out _ _ _ HN'.out HMM.out).mono ?_
  rintro e w5 ⟨⟨v5, rfl, hv5⟩, hk5⟩
  have HV5 := Lib.hid hv5
  have HR5 := Lib.hid (HR4.out.kept hk5)
  have HF5 := Lib.hid (HF4.out.kept hk5)
  have HD5 := Lib.hid (HD'.out.kept hk5)
  have HE5 := Lib.hid (HEE.out.kept hk5)
  have HK5 := Lib.hid (HK4.out.trans hk5)
  clear hv5 hk5
  go_wp2_with fail
  refine (HM2.out _ _ _ HD5.out HE5.out).mono ?_
  rintro e w6 ⟨⟨v6, rfl, hv6⟩, hk6⟩
  have HV6 := Lib.hid hv6
  have HV5' := Lib.hid (HV5.out.kept hk6)
  have HR6 := Lib.hid (HR5.out.kept hk6)
  have HF6 := Lib.hid (HF5.out.kept hk6)
  have HK6 := Lib.hid (HK5.out.trans hk6)
  clear hv6 hk6
  go_wp2_with fail
  first
    | (refine (HFO.out _ _ _ HV5'.out HV6.out).mono ?_)
    | (rw [hx1]; refine (HFO.out _ _ _ HV5'.out HV6.out).mono ?_)
  rintro e w7 ⟨⟨v7, rfl, hv7⟩, hk7⟩
  have HV7 := Lib.hid hv7
  have hr7 := HR6.out.kept hk7
  have HF7 := Lib.hid (HF6.out.kept hk7)
  have HK7 := Lib.hid (HK6.out.trans hk7)
  obtain ⟨u7, u8, rfl, k7, k8⟩ := hv7
  obtain ⟨a7, c7, rfl⟩ := k7.shape
  obtain ⟨a8, c8, rfl⟩ := k8.shape
  obtain ⟨y0, y1, y2, hra⟩ := rat_stored hr7 HF7.out k7 k8
  have g0 := hr7.cell (i := 0) (by simp)
  have g1 := hr7.cell (i := 1) (by simp)
  have g2 := hr7.cell (i := 2) (by simp)
  have f0 := hr7.free 0
  have f1 := hr7.free 1
  have f2 := hr7.free 2
  have HRA := Lib.hid hra
  have Y0 := Lib.hid y0
  have Y1 := Lib.hid y1
  have Y2 := Lib.hid y2
  clear hra y0 y1 y2 k7 k8 hr7 hk7
  generalize R.num.length = n7 at *
  generalize R.den.length = n8 at *
  go_wp2
  refine bodyPost_ret (v := .agg #[.bool R.neg, .slice a7 n7 c7, .slice a8 n8 c8]) ?_ rfl ⟨⟨_, rfl, HRA.out⟩, ?_⟩
  · simp [results, Tryz.results64, go_sem, Y0.out, Y1.out, Y2.out]
  · exact ((HK7.out.store (by omega) _ _).store (by omega) _ _).store (by omega) _ _
end Go.Proofs.YtbkchheikkbebaaGreatDoor

/-
  Walks: rational.Add. Printed by gen_A24.py.
-/
namespace Go.Proofs.YtbkchheikkbebaaGreatDoor
open Go.RowKit

theorem nw_add_len {p q k : Nat} (hp : (nw p).length ≤ k) (hq : (nw q).length ≤ k) : (nw (p + q)).length ≤ k + 1 := by
  have hp := nw_len_lt.1 hp
  have hq := nw_len_lt.1 hq
  refine nw_len_lt.2 ?_
  rw [Nat.pow_succ]
  omega
theorem nw_mono_len {p q : Nat} (h : p ≤ q) : (nw p).length ≤ (nw q).length := nw_len_lt.2 (Nat.lt_of_le_of_lt h (nw_len_lt.1 (Nat.le_refl _)))
set_option maxRecDepth 100000 in
set_option maxHeartbeats 4000000 in
theorem radd_same (va vb : Value) (r s : Rw) (w : World) (ha : RatAt w va r) (hb : RatAt w vb s) (hr : r.Short 68719476736) (hs : s.Short 68719476736) (hss : (partsR r).1 = (partsR s).1) : Calls Tryz.prog 47 #[va, vb] w fun e w' => (∃ v', e = .returned v' ∧ RatAt w' v' (canR (ratOf r + ratOf s))) ∧ Kept w w' := by
  have HP1 := Lib.hid (fun W (hk : Kept w W) => rparts_any va r W (ha.kept hk) ⟨Nat.le_trans hr.1 (by omega), Nat.le_trans hr.2 (by omega)⟩)
  have HP2 := Lib.hid (fun W (hk : Kept w W) => rparts_any vb s W (hb.kept hk) ⟨Nat.le_trans hs.1 (by omega), Nat.le_trans hs.2 (by omega)⟩)
  have hok1 := partsR_ok ha.ok
  have hok2 := partsR_ok hb.ok
  have hsh1 := parts_short hr (by omega)
  have hsh2 := parts_short hs (by omega)
  obtain ⟨R, hR⟩ : ∃ R, R = canR (ratOf r + ratOf s) := ⟨_, rfl⟩
  obtain ⟨p, hp⟩ : ∃ p, p = nv (partsR r).2.1 * nv (partsR s).2.2 := ⟨_, rfl⟩
  obtain ⟨q, hq⟩ : ∃ q, q = nv (partsR s).2.1 * nv (partsR r).2.2 := ⟨_, rfl⟩
  obtain ⟨d, hd⟩ : ∃ d, d = nv (partsR r).2.2 * nv (partsR s).2.2 := ⟨_, rfl⟩
  have hlp : (nw p).length ≤ 137438953472 := by rw [hp]; exact Nat.le_trans (nw_mul_len hok1.1 hok2.2.1) (by omega)
  have hlq : (nw q).length ≤ 137438953472 := by rw [hq]; exact Nat.le_trans (nw_mul_len hok2.1 hok1.2.1) (by omega)
  have hld : (nw d).length ≤ 137438953472 := by rw [hd]; exact Nat.le_trans (nw_mul_len hok1.2.1 hok2.2.1) (by omega)
  have hd0 : d ≠ 0 := by rw [hd]; exact Nat.mul_ne_zero hok1.2.2.1 hok2.2.2.1
  have HAD : Hid (∀ W u1 u2, WdsAt W u1 (nw p) → WdsAt W u2 (nw q) → Calls Tryz.prog 121 #[u1, u2] W fun e w' => (∃ v', e = .returned v' ∧ WdsAt w' v' (nw (p + q))) ∧ Kept W w') := Lib.hid fun W u1 u2 k1 k2 => by
    have h := nadd_any u1 u2 _ _ W k1 k2 (by omega) (by omega)
    rw [nv_nw, nv_nw] at h
    exact h
  have HFO : Hid (∀ W u1 u2, WdsAt W u1 (nw (p + q)) → WdsAt W u2 (nw d) → Calls Tryz.prog 120 #[.bool (partsR r).1, u1, u2] W fun e w' => (∃ v, e = .returned v ∧ RatAt w' v R) ∧ Kept W w') := Lib.hid fun W u1 u2 k1 k2 => by
    have h := rform_any (partsR r).1 u1 u2 _ _ W k1 k2 (Nat.le_trans (nw_add_len hlp hlq) (by omega)) (Nat.le_trans hld (by omega)) (by rw [nv_nw]; exact hd0)
    rw [nv_nw, nv_nw, form_can _ _ _ hd0, hp, hq, hd, ratOf_add ha.ok hb.ok hss, ← hR] at h
    exact h
  have HM1 : Hid (∀ W u1 u2, WdsAt W u1 (partsR r).2.1 → WdsAt W u2 (partsR s).2.2 → Calls Tryz.prog 119 #[u1, u2] W fun e w' => (∃ v', e = .returned v' ∧ WdsAt w' v' (nw p)) ∧ Kept W w') := Lib.hid fun W u1 u2 k1 k2 => by rw [hp]; exact nmul_any u1 u2 _ _ W k1 k2 (by omega) (by omega)
  have HM2 : Hid (∀ W u1 u2, WdsAt W u1 (partsR s).2.1 → WdsAt W u2 (partsR r).2.2 → Calls Tryz.prog 119 #[u1, u2] W fun e w' => (∃ v', e = .returned v' ∧ WdsAt w' v' (nw q)) ∧ Kept W w') := Lib.hid fun W u1 u2 k1 k2 => by rw [hq]; exact nmul_any u1 u2 _ _ W k1 k2 (by omega) (by omega)
  have HM3 : Hid (∀ W u1 u2, WdsAt W u1 (partsR r).2.2 → WdsAt W u2 (partsR s).2.2 → Calls Tryz.prog 119 #[u1, u2] W fun e w' => (∃ v', e = .returned v' ∧ WdsAt w' v' (nw d)) ∧ Kept W w') := Lib.hid fun W u1 u2 k1 k2 => by rw [hd]; exact nmul_any u1 u2 _ _ W k1 k2 (by omega) (by omega)
  rw [← hR]
  obtain ⟨u1, u2, rfl, h1, h2⟩ := ha
  obtain ⟨u3, u4, rfl, h3, h4⟩ := hb
  obtain ⟨a1, c1, rfl⟩ := h1.shape
  obtain ⟨a2, c2, rfl⟩ := h2.shape
  obtain ⟨a3, c3, rfl⟩ := h3.shape
  obtain ⟨a4, c4, rfl⟩ := h4.shape
  obtain ⟨w2, hw2⟩ : ∃ w2, w2 = ((w.alloc (.cells #[.bool r.neg, .slice a1 r.num.length c1, .slice a2 r.den.length c2] 39)).alloc (.cells #[.bool s.neg, .slice a3 s.num.length c3, .slice a4 s.den.length c4] 39)).alloc (.cells #[.bool false, .slice none 0 0, .slice none 0 0] 39) := ⟨_, rfl⟩
  have HM := Lib.hid (res_made2 w (.cells #[.bool r.neg, .slice a1 r.num.length c1, .slice a2 r.den.length c2] 39) (.cells #[.bool s.neg, .slice a3 s.num.length c3, .slice a4 s.den.length c4] 39))
  rw [← hw2] at HM
  have hb2 := RowAt.made (w.alloc (.cells #[.bool r.neg, .slice a1 r.num.length c1, .slice a2 r.den.length c2] 39)) #[.bool s.neg, .slice a3 s.num.length c3, .slice a4 s.den.length c4] 39
  simp only [World.size_alloc] at hb2
  have HB2 : Hid (RowAt w2 (w.heap.size + 1) 39 [.bool s.neg, .slice a3 s.num.length c3, .slice a4 s.den.length c4]) := Lib.hid (by rw [hw2]; exact hb2.kept ((Kept.refl _).alloc _))
  have HW2 := Lib.hid hw2
  generalize nw d = DE at *
  generalize (partsR r).1 = s1 at *
  generalize (partsR s).1 = s2 at *
  generalize (partsR r).2.1 = N at *
  generalize (partsR r).2.2 = D at *
  generalize (partsR s).2.1 = M at *
  generalize (partsR s).2.2 = E at *
  generalize r.num.length = n1 at *
  generalize r.den.length = n2 at *
  generalize s.num.length = n3 at *
  generalize s.den.length = n4 at *
  generalize r.neg = neg1 at *
  generalize s.neg = neg2 at *
  clear hok1 hok2 hsh1 hsh2 hR h1 h2 h3 h4 hr hs hw2 hb2 hp hq hd hlp hlq hld hd0
  have hb : (s1 == s2) = true := by simpa using hss
  clear hss
  go_enter Tryz.func47, Tryz.ntmps47
  go_wp2_with fail
  rw [← HW2.out]
  refine (HP1.out _ HM.out.2.2).mono ?_
  rintro e w3 ⟨⟨u3, u4, rfl, hu3, hu4⟩, hk3⟩
  have HN := Lib.hid hu3
  have HD := Lib.hid hu4
  have HR3 := Lib.hid (HM.out.1.kept hk3)
  have HF3 := Lib.hid (HM.out.2.1.kept hk3)
  have hb3 := HB2.out.kept hk3
  have g0 := hb3.cell (i := 0) (by simp)
  have g1 := hb3.cell (i := 1) (by simp)
  have g2 := hb3.cell (i := 2) (by simp)
  simp only [List.getElem_cons_succ, List.getElem_cons_zero] at g0 g1 g2
  have HK3 := Lib.hid (HM.out.2.2.trans hk3)
  clear hu3 hu4 hk3 hb3
  go_wp2_with fail
  refine (HP2.out _ HK3.out).mono ?_
  rintro e w4 ⟨⟨u5, u6, rfl, hu5, hu6⟩, hk4⟩
  have HN' := Lib.hid (HN.out.kept hk4)
  have HD' := Lib.hid (HD.out.kept hk4)
  have HMM := Lib.hid hu5
  have HEE := Lib.hid hu6
  have HR4 := Lib.hid (HR3.out.kept hk4)
  have HF4 := Lib.hid (HF3.out.kept hk4)
  have HK4 := Lib.hid (HK3.out.trans hk4)
  clear hu5 hu6 hk4 g0 g1 g2
  go_wp2_with fail
  refine (HM1.out _ _ _ HN'.out HEE.out).mono ?_
  rintro e w5 ⟨⟨v5, rfl, hv5⟩, hk5⟩
  have HV5 := Lib.hid hv5
  have HR5 := Lib.hid (HR4.out.kept hk5)
  have HF5 := Lib.hid (HF4.out.kept hk5)
  have HD5 := Lib.hid (HD'.out.kept hk5)
  have HE5 := Lib.hid (HEE.out.kept hk5)
  have HM5 := Lib.hid (HMM.out.kept hk5)
  have HK5 := Lib.hid (HK4.out.trans hk5)
  clear hv5 hk5
  go_wp2_with fail
  refine (HM2.out _ _ _ HM5.out HD5.out).mono ?_
  rintro e w6 ⟨⟨v6, rfl, hv6⟩, hk6⟩
  have HV6 := Lib.hid hv6
  have HV5' := Lib.hid (HV5.out.kept hk6)
  have HR6 := Lib.hid (HR5.out.kept hk6)
  have HF6 := Lib.hid (HF5.out.kept hk6)
  have HD6 := Lib.hid (HD5.out.kept hk6)
  have HE6 := Lib.hid (HE5.out.kept hk6)
  have HK6 := Lib.hid (HK5.out.trans hk6)
  clear hv6 hk6
  go_wp2_with fail
  refine (HM3.out _ _ _ HD6.out HE6.out).mono ?_
  rintro e w7 ⟨⟨v7, rfl, hv7⟩, hk7⟩
  have HVD := Lib.hid hv7
  have HVP := Lib.hid (HV5'.out.kept hk7)
  have HVQ := Lib.hid (HV6.out.kept hk7)
  have HR7 := Lib.hid (HR6.out.kept hk7)
  have HF7 := Lib.hid (HF6.out.kept hk7)
  have HK7 := Lib.hid (HK6.out.trans hk7)
  clear hv7 hk7
  go_wp2_with fail
  refine (HAD.out _ _ _ HVP.out HVQ.out).mono ?_
  rintro e w9 ⟨⟨v9, rfl, hv9⟩, hk9⟩
  have HVD8 := HVD
  have HR8 := HR7
  have HF8 := HF7
  have HK8 := HK7
  have HV9 := Lib.hid hv9
  have HVD9 := Lib.hid (HVD8.out.kept hk9)
  have HR9 := Lib.hid (HR8.out.kept hk9)
  have HF9 := Lib.hid (HF8.out.kept hk9)
  have HK9 := Lib.hid (HK8.out.trans hk9)
  clear hv9 hk9
  go_wp2_with fail
  refine (HFO.out _ _ _ HV9.out HVD9.out).mono ?_
  rintro e w10 ⟨⟨v10, rfl, hv10⟩, hk10⟩
  have hr10 := HR9.out.kept hk10
  have HF10 := Lib.hid (HF9.out.kept hk10)
  have HK10 := Lib.hid (HK9.out.trans hk10)
  obtain ⟨u7, u8, rfl, k7, k8⟩ := hv10
  obtain ⟨a7, c7, rfl⟩ := k7.shape
  obtain ⟨a8, c8, rfl⟩ := k8.shape
  obtain ⟨y0, y1, y2, hra⟩ := rat_stored hr10 HF10.out k7 k8
  have g0 := hr10.cell (i := 0) (by simp)
  have g1 := hr10.cell (i := 1) (by simp)
  have g2 := hr10.cell (i := 2) (by simp)
  have f0 := hr10.free 0
  have f1 := hr10.free 1
  have f2 := hr10.free 2
  have HRA := Lib.hid hra
  have Y0 := Lib.hid y0
  have Y1 := Lib.hid y1
  have Y2 := Lib.hid y2
  clear hra y0 y1 y2 k7 k8 hr10 hk10
  generalize R.num.length = n7 at *
  generalize R.den.length = n8 at *
  go_wp2
  refine bodyPost_ret (v := .agg #[.bool R.neg, .slice a7 n7 c7, .slice a8 n8 c8]) ?_ rfl ⟨⟨_, rfl, HRA.out⟩, ?_⟩
  · simp [results, Tryz.results47, go_sem, Y0.out, Y1.out, Y2.out]
  · exact ((HK10.out.store (by omega) _ _).store (by omega) _ _).store (by omega) _ _
set_option maxRecDepth 100000 in
set_option maxHeartbeats 4000000 in
theorem radd_ge (va vb : Value) (r s : Rw) (w : World) (ha : RatAt w va r) (hb : RatAt w vb s) (hr : r.Short 68719476736) (hs : s.Short 68719476736) (hss : (partsR r).1 ≠ (partsR s).1) (hle : nv (partsR s).2.1 * nv (partsR r).2.2 ≤ nv (partsR r).2.1 * nv (partsR s).2.2) : Calls Tryz.prog 47 #[va, vb] w fun e w' => (∃ v', e = .returned v' ∧ RatAt w' v' (canR (ratOf r + ratOf s))) ∧ Kept w w' := by
  have HP1 := Lib.hid (fun W (hk : Kept w W) => rparts_any va r W (ha.kept hk) ⟨Nat.le_trans hr.1 (by omega), Nat.le_trans hr.2 (by omega)⟩)
  have HP2 := Lib.hid (fun W (hk : Kept w W) => rparts_any vb s W (hb.kept hk) ⟨Nat.le_trans hs.1 (by omega), Nat.le_trans hs.2 (by omega)⟩)
  have hok1 := partsR_ok ha.ok
  have hok2 := partsR_ok hb.ok
  have hsh1 := parts_short hr (by omega)
  have hsh2 := parts_short hs (by omega)
  obtain ⟨R, hR⟩ : ∃ R, R = canR (ratOf r + ratOf s) := ⟨_, rfl⟩
  obtain ⟨p, hp⟩ : ∃ p, p = nv (partsR r).2.1 * nv (partsR s).2.2 := ⟨_, rfl⟩
  obtain ⟨q, hq⟩ : ∃ q, q = nv (partsR s).2.1 * nv (partsR r).2.2 := ⟨_, rfl⟩
  obtain ⟨d, hd⟩ : ∃ d, d = nv (partsR r).2.2 * nv (partsR s).2.2 := ⟨_, rfl⟩
  have hlp : (nw p).length ≤ 137438953472 := by rw [hp]; exact Nat.le_trans (nw_mul_len hok1.1 hok2.2.1) (by omega)
  have hlq : (nw q).length ≤ 137438953472 := by rw [hq]; exact Nat.le_trans (nw_mul_len hok2.1 hok1.2.1) (by omega)
  have hld : (nw d).length ≤ 137438953472 := by rw [hd]; exact Nat.le_trans (nw_mul_len hok1.2.1 hok2.2.1) (by omega)
  have hd0 : d ≠ 0 := by rw [hd]; exact Nat.mul_ne_zero hok1.2.2.1 hok2.2.2.1
  rw [← hp, ← hq] at hle
  have HCM : Hid (∀ W u1 u2, WdsAt W u1 (nw p) → WdsAt W u2 (nw q) → Calls Tryz.prog 118 #[u1, u2] W fun e w' => e = .returned (.int .i64 (cmpN p q)) ∧ Kept W w') := Lib.hid fun W u1 u2 k1 k2 => by
    have h := ncmp_any u1 u2 _ _ W k1 k2
    rw [nv_nw, nv_nw] at h
    exact h
  have HSU : Hid (∀ W u1 u2, WdsAt W u1 (nw p) → WdsAt W u2 (nw q) → Calls Tryz.prog 122 #[u1, u2] W fun e w' => (∃ v', e = .returned (.tuple #[v', .nilIface]) ∧ WdsAt w' v' (nw (p - q))) ∧ Kept W w') := Lib.hid fun W u1 u2 k1 k2 => by
    have h := nsub_any u1 u2 _ _ W k1 k2 (by rw [nv_nw, nv_nw]; exact hle)
    rw [nv_nw, nv_nw] at h
    exact h
  obtain ⟨cm, hcm⟩ : ∃ cm, cm = cmpN p q := ⟨_, rfl⟩
  rw [← hcm] at HCM
  have hcm0 : ¬ cm < 0 := by
    rw [hcm]
    rcases Nat.lt_or_ge q p with h | h
    · rw [cmpN_gt h]; omega
    · rw [cmpN_eq (by omega)]; omega
  have HFO : Hid (∀ W u1 u2, WdsAt W u1 (nw (p - q)) → WdsAt W u2 (nw d) → Calls Tryz.prog 120 #[.bool (partsR r).1, u1, u2] W fun e w' => (∃ v, e = .returned v ∧ RatAt w' v R) ∧ Kept W w') := Lib.hid fun W u1 u2 k1 k2 => by
    have h := rform_any (partsR r).1 u1 u2 _ _ W k1 k2 (Nat.le_trans (nw_mono_len (Nat.sub_le p q)) (by omega)) (Nat.le_trans hld (by omega)) (by rw [nv_nw]; exact hd0)
    rw [nv_nw, nv_nw, form_can _ _ _ hd0, hp, hq, hd, ratOf_sub ha.ok hb.ok hss (by rw [hp, hq] at hle; exact hle), ← hR] at h
    exact h
  have HM1 : Hid (∀ W u1 u2, WdsAt W u1 (partsR r).2.1 → WdsAt W u2 (partsR s).2.2 → Calls Tryz.prog 119 #[u1, u2] W fun e w' => (∃ v', e = .returned v' ∧ WdsAt w' v' (nw p)) ∧ Kept W w') := Lib.hid fun W u1 u2 k1 k2 => by rw [hp]; exact nmul_any u1 u2 _ _ W k1 k2 (by omega) (by omega)
  have HM2 : Hid (∀ W u1 u2, WdsAt W u1 (partsR s).2.1 → WdsAt W u2 (partsR r).2.2 → Calls Tryz.prog 119 #[u1, u2] W fun e w' => (∃ v', e = .returned v' ∧ WdsAt w' v' (nw q)) ∧ Kept W w') := Lib.hid fun W u1 u2 k1 k2 => by rw [hq]; exact nmul_any u1 u2 _ _ W k1 k2 (by omega) (by omega)
  have HM3 : Hid (∀ W u1 u2, WdsAt W u1 (partsR r).2.2 → WdsAt W u2 (partsR s).2.2 → Calls Tryz.prog 119 #[u1, u2] W fun e w' => (∃ v', e = .returned v' ∧ WdsAt w' v' (nw d)) ∧ Kept W w') := Lib.hid fun W u1 u2 k1 k2 => by rw [hd]; exact nmul_any u1 u2 _ _ W k1 k2 (by omega) (by omega)
  rw [← hR]
  obtain ⟨u1, u2, rfl, h1, h2⟩ := ha
  obtain ⟨u3, u4, rfl, h3, h4⟩ := hb
  obtain ⟨a1, c1, rfl⟩ := h1.shape
  obtain ⟨a2, c2, rfl⟩ := h2.shape
  obtain ⟨a3, c3, rfl⟩ := h3.shape
  obtain ⟨a4, c4, rfl⟩ := h4.shape
  obtain ⟨w2, hw2⟩ : ∃ w2, w2 = ((w.alloc (.cells #[.bool r.neg, .slice a1 r.num.length c1, .slice a2 r.den.length c2] 39)).alloc (.cells #[.bool s.neg, .slice a3 s.num.length c3, .slice a4 s.den.length c4] 39)).alloc (.cells #[.bool false, .slice none 0 0, .slice none 0 0] 39) := ⟨_, rfl⟩
  have HM := Lib.hid (res_made2 w (.cells #[.bool r.neg, .slice a1 r.num.length c1, .slice a2 r.den.length c2] 39) (.cells #[.bool s.neg, .slice a3 s.num.length c3, .slice a4 s.den.length c4] 39))
  rw [← hw2] at HM
  have hb2 := RowAt.made (w.alloc (.cells #[.bool r.neg, .slice a1 r.num.length c1, .slice a2 r.den.length c2] 39)) #[.bool s.neg, .slice a3 s.num.length c3, .slice a4 s.den.length c4] 39
  simp only [World.size_alloc] at hb2
  have HB2 : Hid (RowAt w2 (w.heap.size + 1) 39 [.bool s.neg, .slice a3 s.num.length c3, .slice a4 s.den.length c4]) := Lib.hid (by rw [hw2]; exact hb2.kept ((Kept.refl _).alloc _))
  have HW2 := Lib.hid hw2
  generalize nw d = DE at *
  generalize (partsR r).1 = s1 at *
  generalize (partsR s).1 = s2 at *
  generalize (partsR r).2.1 = N at *
  generalize (partsR r).2.2 = D at *
  generalize (partsR s).2.1 = M at *
  generalize (partsR s).2.2 = E at *
  generalize r.num.length = n1 at *
  generalize r.den.length = n2 at *
  generalize s.num.length = n3 at *
  generalize s.den.length = n4 at *
  generalize r.neg = neg1 at *
  generalize s.neg = neg2 at *
  clear hok1 hok2 hsh1 hsh2 hR h1 h2 h3 h4 hr hs hw2 hb2 hp hq hd hlp hlq hld hd0
  have hb : (s1 == s2) = false := by simpa using hss
  clear hss hcm hle
  go_enter Tryz.func47, Tryz.ntmps47
  go_wp2_with fail
  rw [← HW2.out]
  refine (HP1.out _ HM.out.2.2).mono ?_
  rintro e w3 ⟨⟨u3, u4, rfl, hu3, hu4⟩, hk3⟩
  have HN := Lib.hid hu3
  have HD := Lib.hid hu4
  have HR3 := Lib.hid (HM.out.1.kept hk3)
  have HF3 := Lib.hid (HM.out.2.1.kept hk3)
  have hb3 := HB2.out.kept hk3
  have g0 := hb3.cell (i := 0) (by simp)
  have g1 := hb3.cell (i := 1) (by simp)
  have g2 := hb3.cell (i := 2) (by simp)
  simp only [List.getElem_cons_succ, List.getElem_cons_zero] at g0 g1 g2
  have HK3 := Lib.hid (HM.out.2.2.trans hk3)
  clear hu3 hu4 hk3 hb3
  go_wp2_with fail
  refine (HP2.out _ HK3.out).mono ?_
  rintro e w4 ⟨⟨u5, u6, rfl, hu5, hu6⟩, hk4⟩
  have HN' := Lib.hid (HN.out.kept hk4)
  have HD' := Lib.hid (HD.out.kept hk4)
  have HMM := Lib.hid hu5
  have HEE := Lib.hid hu6
  have HR4 := Lib.hid (HR3.out.kept hk4)
  have HF4 := Lib.hid (HF3.out.kept hk4)
  have HK4 := Lib.hid (HK3.out.trans hk4)
  clear hu5 hu6 hk4 g0 g1 g2
  go_wp2_with fail
  refine (HM1.out _ _ _ HN'.out HEE.out).mono ?_
  rintro e w5 ⟨⟨v5, rfl, hv5⟩, hk5⟩
  have HV5 := Lib.hid hv5
  have HR5 := Lib.hid (HR4.out.kept hk5)
  have HF5 := Lib.hid (HF4.out.kept hk5)
  have HD5 := Lib.hid (HD'.out.kept hk5)
  have HE5 := Lib.hid (HEE.out.kept hk5)
  have HM5 := Lib.hid (HMM.out.kept hk5)
  have HK5 := Lib.hid (HK4.out.trans hk5)
  clear hv5 hk5
  go_wp2_with fail
  refine (HM2.out _ _ _ HM5.out HD5.out).mono ?_
  rintro e w6 ⟨⟨v6, rfl, hv6⟩, hk6⟩
  have HV6 := Lib.hid hv6
  have HV5' := Lib.hid (HV5.out.kept hk6)
  have HR6 := Lib.hid (HR5.out.kept hk6)
  have HF6 := Lib.hid (HF5.out.kept hk6)
  have HD6 := Lib.hid (HD5.out.kept hk6)
  have HE6 := Lib.hid (HE5.out.kept hk6)
  have HK6 := Lib.hid (HK5.out.trans hk6)
  clear hv6 hk6
  go_wp2_with fail
  refine (HM3.out _ _ _ HD6.out HE6.out).mono ?_
  rintro e w7 ⟨⟨v7, rfl, hv7⟩, hk7⟩
  have HVD := Lib.hid hv7
  have HVP := Lib.hid (HV5'.out.kept hk7)
  have HVQ := Lib.hid (HV6.out.kept hk7)
  have HR7 := Lib.hid (HR6.out.kept hk7)
  have HF7 := Lib.hid (HF6.out.kept hk7)
  have HK7 := Lib.hid (HK6.out.trans hk7)
  clear hv7 hk7
  go_wp2_with fail
  refine (HCM.out _ _ _ HVP.out HVQ.out).mono ?_
  rintro e w8 ⟨rfl, hk8⟩
  have HVD8 := Lib.hid (HVD.out.kept hk8)
  have HVP8 := Lib.hid (HVP.out.kept hk8)
  have HVQ8 := Lib.hid (HVQ.out.kept hk8)
  have HR8 := Lib.hid (HR7.out.kept hk8)
  have HF8 := Lib.hid (HF7.out.kept hk8)
  have HK8 := Lib.hid (HK7.out.trans hk8)
  clear hk8
  go_wp2_with fail
  refine (HSU.out _ _ _ HVP8.out HVQ8.out).mono ?_
  rintro e w9 ⟨⟨v9, rfl, hv9⟩, hk9⟩
  have HV9 := Lib.hid hv9
  have HVD9 := Lib.hid (HVD8.out.kept hk9)
  have HR9 := Lib.hid (HR8.out.kept hk9)
  have HF9 := Lib.hid (HF8.out.kept hk9)
  have HK9 := Lib.hid (HK8.out.trans hk9)
  clear hv9 hk9
  go_wp2_with fail
  refine (HFO.out _ _ _ HV9.out HVD9.out).mono ?_
  rintro e w10 ⟨⟨v10, rfl, hv10⟩, hk10⟩
  have hr10 := HR9.out.kept hk10
  have HF10 := Lib.hid (HF9.out.kept hk10)
  have HK10 := Lib.hid (HK9.out.trans hk10)
  obtain ⟨u7, u8, rfl, k7, k8⟩ := hv10
  obtain ⟨a7, c7, rfl⟩ := k7.shape
  obtain ⟨a8, c8, rfl⟩ := k8.shape
  obtain ⟨y0, y1, y2, hra⟩ := rat_stored hr10 HF10.out k7 k8
  have g0 := hr10.cell (i := 0) (by simp)
  have g1 := hr10.cell (i := 1) (by simp)
  have g2 := hr10.cell (i := 2) (by simp)
  have f0 := hr10.free 0
  have f1 := hr10.free 1
  have f2 := hr10.free 2
  have HRA := Lib.hid hra
  have Y0 := Lib.hid y0
  have Y1 := Lib.hid y1
  have Y2 := Lib.hid y2
  clear hra y0 y1 y2 k7 k8 hr10 hk10
  generalize R.num.length = n7 at *
  generalize R.den.length = n8 at *
  go_wp2
  refine bodyPost_ret (v := .agg #[.bool R.neg, .slice a7 n7 c7, .slice a8 n8 c8]) ?_ rfl ⟨⟨_, rfl, HRA.out⟩, ?_⟩
  · simp [results, Tryz.results47, go_sem, Y0.out, Y1.out, Y2.out]
  · exact ((HK10.out.store (by omega) _ _).store (by omega) _ _).store (by omega) _ _
set_option maxRecDepth 100000 in
set_option maxHeartbeats 4000000 in
theorem radd_lt (va vb : Value) (r s : Rw) (w : World) (ha : RatAt w va r) (hb : RatAt w vb s) (hr : r.Short 68719476736) (hs : s.Short 68719476736) (hss : (partsR r).1 ≠ (partsR s).1) (hle : nv (partsR r).2.1 * nv (partsR s).2.2 < nv (partsR s).2.1 * nv (partsR r).2.2) : Calls Tryz.prog 47 #[va, vb] w fun e w' => (∃ v', e = .returned v' ∧ RatAt w' v' (canR (ratOf r + ratOf s))) ∧ Kept w w' := by
  have HP1 := Lib.hid (fun W (hk : Kept w W) => rparts_any va r W (ha.kept hk) ⟨Nat.le_trans hr.1 (by omega), Nat.le_trans hr.2 (by omega)⟩)
  have HP2 := Lib.hid (fun W (hk : Kept w W) => rparts_any vb s W (hb.kept hk) ⟨Nat.le_trans hs.1 (by omega), Nat.le_trans hs.2 (by omega)⟩)
  have hok1 := partsR_ok ha.ok
  have hok2 := partsR_ok hb.ok
  have hsh1 := parts_short hr (by omega)
  have hsh2 := parts_short hs (by omega)
  obtain ⟨R, hR⟩ : ∃ R, R = canR (ratOf r + ratOf s) := ⟨_, rfl⟩
  obtain ⟨p, hp⟩ : ∃ p, p = nv (partsR r).2.1 * nv (partsR s).2.2 := ⟨_, rfl⟩
  obtain ⟨q, hq⟩ : ∃ q, q = nv (partsR s).2.1 * nv (partsR r).2.2 := ⟨_, rfl⟩
  obtain ⟨d, hd⟩ : ∃ d, d = nv (partsR r).2.2 * nv (partsR s).2.2 := ⟨_, rfl⟩
  have hlp : (nw p).length ≤ 137438953472 := by rw [hp]; exact Nat.le_trans (nw_mul_len hok1.1 hok2.2.1) (by omega)
  have hlq : (nw q).length ≤ 137438953472 := by rw [hq]; exact Nat.le_trans (nw_mul_len hok2.1 hok1.2.1) (by omega)
  have hld : (nw d).length ≤ 137438953472 := by rw [hd]; exact Nat.le_trans (nw_mul_len hok1.2.1 hok2.2.1) (by omega)
  have hd0 : d ≠ 0 := by rw [hd]; exact Nat.mul_ne_zero hok1.2.2.1 hok2.2.2.1
  rw [← hp, ← hq] at hle
  have HCM : Hid (∀ W u1 u2, WdsAt W u1 (nw p) → WdsAt W u2 (nw q) → Calls Tryz.prog 118 #[u1, u2] W fun e w' => e = .returned (.int .i64 (cmpN p q)) ∧ Kept W w') := Lib.hid fun W u1 u2 k1 k2 => by
    have h := ncmp_any u1 u2 _ _ W k1 k2
    rw [nv_nw, nv_nw] at h
    exact h
  have HSU : Hid (∀ W u1 u2, WdsAt W u1 (nw q) → WdsAt W u2 (nw p) → Calls Tryz.prog 122 #[u1, u2] W fun e w' => (∃ v', e = .returned (.tuple #[v', .nilIface]) ∧ WdsAt w' v' (nw (q - p))) ∧ Kept W w') := Lib.hid fun W u1 u2 k1 k2 => by
    have h := nsub_any u1 u2 _ _ W k1 k2 (by rw [nv_nw, nv_nw]; exact Nat.le_of_lt hle)
    rw [nv_nw, nv_nw] at h
    exact h
  obtain ⟨cm, hcm⟩ : ∃ cm, cm = cmpN p q := ⟨_, rfl⟩
  rw [← hcm] at HCM
  have hcm0 : cm < 0 := by
    rw [hcm]
    rw [cmpN_lt hle]; omega
  have HFO : Hid (∀ W u1 u2, WdsAt W u1 (nw (q - p)) → WdsAt W u2 (nw d) → Calls Tryz.prog 120 #[.bool (partsR s).1, u1, u2] W fun e w' => (∃ v, e = .returned v ∧ RatAt w' v R) ∧ Kept W w') := Lib.hid fun W u1 u2 k1 k2 => by
    have h := rform_any (partsR s).1 u1 u2 _ _ W k1 k2 (Nat.le_trans (nw_mono_len (Nat.sub_le q p)) (by omega)) (Nat.le_trans hld (by omega)) (by rw [nv_nw]; exact hd0)
    rw [nv_nw, nv_nw, form_can _ _ _ hd0, hp, hq, hd, ratOf_sub' ha.ok hb.ok hss (by rw [hp, hq] at hle; exact Nat.le_of_lt hle), ← hR] at h
    exact h
  have HM1 : Hid (∀ W u1 u2, WdsAt W u1 (partsR r).2.1 → WdsAt W u2 (partsR s).2.2 → Calls Tryz.prog 119 #[u1, u2] W fun e w' => (∃ v', e = .returned v' ∧ WdsAt w' v' (nw p)) ∧ Kept W w') := Lib.hid fun W u1 u2 k1 k2 => by rw [hp]; exact nmul_any u1 u2 _ _ W k1 k2 (by omega) (by omega)
  have HM2 : Hid (∀ W u1 u2, WdsAt W u1 (partsR s).2.1 → WdsAt W u2 (partsR r).2.2 → Calls Tryz.prog 119 #[u1, u2] W fun e w' => (∃ v', e = .returned v' ∧ WdsAt w' v' (nw q)) ∧ Kept W w') := Lib.hid fun W u1 u2 k1 k2 => by rw [hq]; exact nmul_any u1 u2 _ _ W k1 k2 (by omega) (by omega)
  have HM3 : Hid (∀ W u1 u2, WdsAt W u1 (partsR r).2.2 → WdsAt W u2 (partsR s).2.2 → Calls Tryz.prog 119 #[u1, u2] W fun e w' => (∃ v', e = .returned v' ∧ WdsAt w' v' (nw d)) ∧ Kept W w') := Lib.hid fun W u1 u2 k1 k2 => by rw [hd]; exact nmul_any u1 u2 _ _ W k1 k2 (by omega) (by omega)
  rw [← hR]
  obtain ⟨u1, u2, rfl, h1, h2⟩ := ha
  obtain ⟨u3, u4, rfl, h3, h4⟩ := hb
  obtain ⟨a1, c1, rfl⟩ := h1.shape
  obtain ⟨a2, c2, rfl⟩ := h2.shape
  obtain ⟨a3, c3, rfl⟩ := h3.shape
  obtain ⟨a4, c4, rfl⟩ := h4.shape
  obtain ⟨w2, hw2⟩ : ∃ w2, w2 = ((w.alloc (.cells #[.bool r.neg, .slice a1 r.num.length c1, .slice a2 r.den.length c2] 39)).alloc (.cells #[.bool s.neg, .slice a3 s.num.length c3, .slice a4 s.den.length c4] 39)).alloc (.cells #[.bool false, .slice none 0 0, .slice none 0 0] 39) := ⟨_, rfl⟩
  have HM := Lib.hid (res_made2 w (.cells #[.bool r.neg, .slice a1 r.num.length c1, .slice a2 r.den.length c2] 39) (.cells #[.bool s.neg, .slice a3 s.num.length c3, .slice a4 s.den.length c4] 39))
  rw [← hw2] at HM
  have hb2 := RowAt.made (w.alloc (.cells #[.bool r.neg, .slice a1 r.num.length c1, .slice a2 r.den.length c2] 39)) #[.bool s.neg, .slice a3 s.num.length c3, .slice a4 s.den.length c4] 39
  simp only [World.size_alloc] at hb2
  have HB2 : Hid (RowAt w2 (w.heap.size + 1) 39 [.bool s.neg, .slice a3 s.num.length c3, .slice a4 s.den.length c4]) := Lib.hid (by rw [hw2]; exact hb2.kept ((Kept.refl _).alloc _))
  have HW2 := Lib.hid hw2
  generalize nw d = DE at *
  generalize (partsR r).1 = s1 at *
  generalize (partsR s).1 = s2 at *
  generalize (partsR r).2.1 = N at *
  generalize (partsR r).2.2 = D at *
  generalize (partsR s).2.1 = M at *
  generalize (partsR s).2.2 = E at *
  generalize r.num.length = n1 at *
  generalize r.den.length = n2 at *
  generalize s.num.length = n3 at *
  generalize s.den.length = n4 at *
  generalize r.neg = neg1 at *
  generalize s.neg = neg2 at *
  clear hok1 hok2 hsh1 hsh2 hR h1 h2 h3 h4 hr hs hw2 hb2 hp hq hd hlp hlq hld hd0
  have hb : (s1 == s2) = false := by simpa using hss
  clear hss hcm hle
  go_enter Tryz.func47, Tryz.ntmps47
  go_wp2_with fail
  rw [← HW2.out]
  refine (HP1.out _ HM.out.2.2).mono ?_
  rintro e w3 ⟨⟨u3, u4, rfl, hu3, hu4⟩, hk3⟩
  have HN := Lib.hid hu3
  have HD := Lib.hid hu4
  have HR3 := Lib.hid (HM.out.1.kept hk3)
  have HF3 := Lib.hid (HM.out.2.1.kept hk3)
  have hb3 := HB2.out.kept hk3
  have g0 := hb3.cell (i := 0) (by simp)
  have g1 := hb3.cell (i := 1) (by simp)
  have g2 := hb3.cell (i := 2) (by simp)
  simp only [List.getElem_cons_succ, List.getElem_cons_zero] at g0 g1 g2
  have HK3 := Lib.hid (HM.out.2.2.trans hk3)
  clear hu3 hu4 hk3 hb3
  go_wp2_with fail
  refine (HP2.out _ HK3.out).mono ?_
  rintro e w4 ⟨⟨u5, u6, rfl, hu5, hu6⟩, hk4⟩
  have HN' := Lib.hid (HN.out.kept hk4)
  have HD' := Lib.hid (HD.out.kept hk4)
  have HMM := Lib.hid hu5
  have HEE := Lib.hid hu6
  have HR4 := Lib.hid (HR3.out.kept hk4)
  have HF4 := Lib.hid (HF3.out.kept hk4)
  have HK4 := Lib.hid (HK3.out.trans hk4)
  clear hu5 hu6 hk4 g0 g1 g2
  go_wp2_with fail
  refine (HM1.out _ _ _ HN'.out HEE.out).mono ?_
  rintro e w5 ⟨⟨v5, rfl, hv5⟩, hk5⟩
  have HV5 := Lib.hid hv5
  have HR5 := Lib.hid (HR4.out.kept hk5)
  have HF5 := Lib.hid (HF4.out.kept hk5)
  have HD5 := Lib.hid (HD'.out.kept hk5)
  have HE5 := Lib.hid (HEE.out.kept hk5)
  have HM5 := Lib.hid (HMM.out.kept hk5)
  have HK5 := Lib.hid (HK4.out.trans hk5)
  clear hv5 hk5
  go_wp2_with fail
  refine (HM2.out _ _ _ HM5.out HD5.out).mono ?_
  rintro e w6 ⟨⟨v6, rfl, hv6⟩, hk6⟩
  have HV6 := Lib.hid hv6
  have HV5' := Lib.hid (HV5.out.kept hk6)
  have HR6 := Lib.hid (HR5.out.kept hk6)
  have HF6 := Lib.hid (HF5.out.kept hk6)
  have HD6 := Lib.hid (HD5.out.kept hk6)
  have HE6 := Lib.hid (HE5.out.kept hk6)
  have HK6 := Lib.hid (HK5.out.trans hk6)
  clear hv6 hk6
  go_wp2_with fail
  refine (HM3.out _ _ _ HD6.out HE6.out).mono ?_
  rintro e w7 ⟨⟨v7, rfl, hv7⟩, hk7⟩
  have HVD := Lib.hid hv7
  have HVP := Lib.hid (HV5'.out.kept hk7)
  have HVQ := Lib.hid (HV6.out.kept hk7)
  have HR7 := Lib.hid (HR6.out.kept hk7)
  have HF7 := Lib.hid (HF6.out.kept hk7)
  have HK7 := Lib.hid (HK6.out.trans hk7)
  clear hv7 hk7
  go_wp2_with fail
  refine (HCM.out _ _ _ HVP.out HVQ.out).mono ?_
  rintro e w8 ⟨rfl, hk8⟩
  have HVD8 := Lib.hid (HVD.out.kept hk8)
  have HVP8 := Lib.hid (HVP.out.kept hk8)
  have HVQ8 := Lib.hid (HVQ.out.kept hk8)
  have HR8 := Lib.hid (HR7.out.kept hk8)
  have HF8 := Lib.hid (HF7.out.kept hk8)
  have HK8 := Lib.hid (HK7.out.trans hk8)
  clear hk8
  go_wp2_with fail
  refine (HSU.out _ _ _ HVQ8.out HVP8.out).mono ?_
  rintro e w9 ⟨⟨v9, rfl, hv9⟩, hk9⟩
  have HV9 := Lib.hid hv9
  have HVD9 := Lib.hid (HVD8.out.kept hk9)
  have HR9 := Lib.hid (HR8.out.kept hk9)
  have HF9 := Lib.hid (HF8.out.kept hk9)
  have HK9 := Lib.hid (HK8.out.trans hk9)
  clear hv9 hk9
  go_wp2_with fail
  refine (HFO.out _ _ _ HV9.out HVD9.out).mono ?_
  rintro e w10 ⟨⟨v10, rfl, hv10⟩, hk10⟩
  have hr10 := HR9.out.kept hk10
  have HF10 := Lib.hid (HF9.out.kept hk10)
  have HK10 := Lib.hid (HK9.out.trans hk10)
  obtain ⟨u7, u8, rfl, k7, k8⟩ := hv10
  obtain ⟨a7, c7, rfl⟩ := k7.shape
  obtain ⟨a8, c8, rfl⟩ := k8.shape
  obtain ⟨y0, y1, y2, hra⟩ := rat_stored hr10 HF10.out k7 k8
  have g0 := hr10.cell (i := 0) (by simp)
  have g1 := hr10.cell (i := 1) (by simp)
  have g2 := hr10.cell (i := 2) (by simp)
  have f0 := hr10.free 0
  have f1 := hr10.free 1
  have f2 := hr10.free 2
  have HRA := Lib.hid hra
  have Y0 := Lib.hid y0
  have Y1 := Lib.hid y1
  have Y2 := Lib.hid y2
  clear hra y0 y1 y2 k7 k8 hr10 hk10
  generalize R.num.length = n7 at *
  generalize R.den.length = n8 at *
  go_wp2
  refine bodyPost_ret (v := .agg #[.bool R.neg, .slice a7 n7 c7, .slice a8 n8 c8]) ?_ rfl ⟨⟨_, rfl, HRA.out⟩, ?_⟩
  · simp [results, Tryz.results47, go_sem, Y0.out, Y1.out, Y2.out]
  · exact ((HK10.out.store (by omega) _ _).store (by omega) _ _).store (by omega) _ _
theorem radd_any (va vb : Value) (r s : Rw) (w : World) (ha : RatAt w va r) (hb : RatAt w vb s) (hr : r.Short 68719476736) (hs : s.Short 68719476736) : Calls Tryz.prog 47 #[va, vb] w fun e w' => (∃ v', e = .returned v' ∧ RatAt w' v' (canR (ratOf r + ratOf s))) ∧ Kept w w' := by
  by_cases h : (partsR r).1 = (partsR s).1
  · exact radd_same va vb r s w ha hb hr hs h
  · rcases Nat.lt_or_ge (nv (partsR r).2.1 * nv (partsR s).2.2) (nv (partsR s).2.1 * nv (partsR r).2.2) with h2 | h2
    · exact radd_lt va vb r s w ha hb hr hs h h2
    · exact radd_ge va vb r s w ha hb hr hs h h2
end Go.Proofs.YtbkchheikkbebaaGreatDoor
