import Derived.Test.YtiplibgnfcdlkaaQ33
/-
  Walk: the law ZeroDivides. Printed by gen_ZG3.py.
-/
namespace Go.Proofs.Ytiplibgnfcdlkaa
open Go.RowKit

set_option maxRecDepth 100000 in
set_option maxHeartbeats 8000000 in
theorem zeroDivides_true (v v' : Value) (L L' : List INode) (ra rb : Int) (W : World) (h : ZeroAt W v L ra) (h' : ZeroAt W v' L' rb) :
    Calls Try.prog 9 #[v, v'] W fun e w' => e = .returned (.bool true) ∧ Kept W w' := by
  obtain ⟨F, hF⟩ := h.zin
  obtain ⟨G, hG⟩ := h'.zin
  obtain ⟨c, hc⟩ : ∃ c, c = zchk L ra := ⟨_, rfl⟩
  obtain ⟨d, hd⟩ : ∃ d, d = zchk L' rb := ⟨_, rfl⟩
  rw [← hc] at hF
  rw [← hd] at hG
  obtain ⟨a, n, cp, r, rfl⟩ := hF.shape
  obtain ⟨b, m, cq, s, rfl⟩ := hG.shape
  obtain ⟨g0, hg0⟩ : ∃ w1, w1 = (W.alloc (.cells #[.slice a n cp, .int .i64 r] 24)).alloc (.cells #[.slice b m cq, .int .i64 s] 24) := ⟨_, rfl⟩
  obtain ⟨hk0, ⟨x0, x1⟩, x2, x3⟩ := boxA2 hg0
  have HK0 := Lib.hid hk0
  have HG0 := Lib.hid hg0
  have HX := Lib.hid (And.intro (And.intro x0 x1) (And.intro x2 x3))
  have HFI := Lib.hid hF
  have HGI := Lib.hid hG
  clear h h' hc hd hg0 hk0 hF hG
  go_enter Try.func9, Try.ntmps9
  go_upto_region 1 with fail
  rw [← HG0.out]
  clear x0 x1 x2 x3
  go_wp2_with fail
  refine (awake18 _).mono ?_
  rintro e g1 ⟨rfl, hk1⟩
  have HK1 := Lib.hid hk1
  have x0 := hk1.cell HX.out.1.1
  have x1 := hk1.cell HX.out.1.2
  have x2 := hk1.cell HX.out.2.1
  have x3 := hk1.cell HX.out.2.2
  clear hk1
  go_wp2_with fail
  refine (valid2 HFI.out HGI.out _ (HK0.out.trans HK1.out)).mono ?_
  rintro e g2 ⟨⟨bo, rfl, hb⟩, hk2⟩
  have HK2 := Lib.hid hk2
  have HBO := Lib.hid hb
  clear hk2 hb x0 x1 x2 x3
  cases bo with
  | false =>
    go_wp2_with fail
    refine (awake18 _).mono ?_
    rintro e g3 ⟨rfl, hk3⟩
    have HK3 := Lib.hid hk3
    clear hk3
    go_wp2_with fail
    go_ret
    exact ⟨rfl, ((HK0.out.trans HK1.out).trans HK2.out).trans HK3.out⟩
  | true =>
    obtain ⟨⟨rfl, hcF⟩, rfl, hcG⟩ := HBO.out rfl
    have hFv := HFI.out.fv
    have hGv := HGI.out.fv
    have hFf := hFv.frm
    have hGf := hGv.frm
    have HBa : Hid (ZBox g0 W.heap.size a n cp r F) := Lib.hid ⟨HX.out.1.1, HX.out.1.2, (HFI.out.dia rfl).kept HK0.out⟩
    have HBb : Hid (ZBox g0 (W.heap.size + 1) b m cq s G) := Lib.hid ⟨HX.out.2.1, HX.out.2.2, (HGI.out.dia rfl).kept HK0.out⟩
    obtain ⟨M, hM⟩ : ∃ M : Nat → Bool, M = fun s => and (F s) (G s) := ⟨_, rfl⟩
    obtain ⟨D, hD⟩ : ∃ M : Nat → Bool, M = fun s => and (F s) (not (G s)) := ⟨_, rfl⟩
    obtain ⟨U, hU⟩ : ∃ M : Nat → Bool, M = fun s => or (F s) (G s) := ⟨_, rfl⟩
    have hMf : ZFrom 0 M := by rw [hM]; exact zfrom_and hFf
    have hDf : ZFrom 0 D := by rw [hD]; exact zfrom_and hFf
    have hUf : ZFrom 0 U := by rw [hU]; exact zfrom_or hFf hGf
    have hMc : zcard M ≤ 60 := Nat.le_trans (zcard_mono hMf hFf fun s hs => by rw [hM] at hs; exact (Bool.and_eq_true_iff.1 hs).1) hcF
    have hDc : zcard D ≤ 60 := Nat.le_trans (zcard_mono hDf hFf fun s hs => by rw [hD] at hs; exact (Bool.and_eq_true_iff.1 hs).1) hcF
    have hUc : zcard U ≤ 120 := by have := zcard_or hFf hGf; rw [← hU] at this; omega
    have hMv : ZFv M := .of hMf (by omega)
    have hDv : ZFv D := .of hDf (by omega)
    have hUv : ZFv U := .of hUf (by omega)
    have eA : (fun s => or (M s) (D s)) = F := by funext s; rw [hM, hD]; show or (and (F s) (G s)) (and (F s) (not (G s))) = F s; cases F s <;> cases G s <;> rfl
    have eN : (fun s => and (M s) (D s)) = zno := by funext s; rw [hM, hD]; show and (and (F s) (G s)) (and (F s) (not (G s))) = false; cases F s <;> cases G s <;> rfl
    have HC1 : Hid (∀ w v v', ZDia w v F → ZDia w v' G → Calls Try.prog 40 #[v, v'] w (OkRes M w)) := Lib.hid fun w v v' h h' => by
      have := zMeet_ok h h' hFv hGv (by rw [← hM]; exact hMv)
      rwa [← hM] at this
    have HC2 : Hid (∀ w v v', ZDia w v F → ZDia w v' G → Calls Try.prog 41 #[v, v'] w (OkRes D w)) := Lib.hid fun w v v' h h' => by
      have := zMinus_ok h h' hFv hGv (by rw [← hD]; exact hDv)
      rwa [← hD] at this
    have HC3 : Hid (∀ w v v', ZDia w v M → ZDia w v' D → Calls Try.prog 31 #[v, v'] w (OkRes F w)) := Lib.hid fun w v v' h h' => by
      have := zUnion_ok h h' hMv hDv (by rw [eA]; exact hFv)
      rwa [eA] at this
    have HC4 : Hid (∀ w v v', ZDia w v M → ZDia w v' D → Calls Try.prog 40 #[v, v'] w (OkRes zno w)) := Lib.hid fun w v v' h h' => by
      have := zMeet_ok h h' hMv hDv (by rw [eN]; exact zfv_no)
      rwa [eN] at this
    have HC5 : Hid (∀ w v v', ZDia w v F → ZDia w v' G → Calls Try.prog 31 #[v, v'] w (OkRes U w)) := Lib.hid fun w v v' h h' => by
      have := zUnion_ok h h' hFv hGv (by rw [← hU]; exact hUv)
      rwa [← hU] at this
    obtain ⟨np, hnp⟩ : ∃ x, x = zcard U := ⟨_, rfl⟩
    obtain ⟨nq, hnq⟩ : ∃ x, x = zcard M := ⟨_, rfl⟩
    obtain ⟨nx, hnx⟩ : ∃ x, x = zcard F := ⟨_, rfl⟩
    obtain ⟨ny, hny⟩ : ∃ x, x = zcard G := ⟨_, rfl⟩
    have hsum := zcard_both hFf hGf
    rw [← hU, ← hM, ← hnp, ← hnq, ← hnx, ← hny] at hsum
    have HC6 : Hid (∀ w v, ZDia w v U → Calls Try.prog 32 #[v] w fun e w' => e = .returned (.tuple #[.int .i64 (np : Nat), .nilIface]) ∧ Kept w w') := Lib.hid fun w v h => by rw [hnp]; exact zCount_ok h hUv
    have HC7 : Hid (∀ w v, ZDia w v M → Calls Try.prog 32 #[v] w fun e w' => e = .returned (.tuple #[.int .i64 (nq : Nat), .nilIface]) ∧ Kept w w') := Lib.hid fun w v h => by rw [hnq]; exact zCount_ok h hMv
    have HC8 : Hid (∀ w v, ZDia w v F → Calls Try.prog 32 #[v] w fun e w' => e = .returned (.tuple #[.int .i64 (nx : Nat), .nilIface]) ∧ Kept w w') := Lib.hid fun w v h => by rw [hnx]; exact zCount_ok h hFv
    have HC9 : Hid (∀ w v, ZDia w v G → Calls Try.prog 32 #[v] w fun e w' => e = .returned (.tuple #[.int .i64 (ny : Nat), .nilIface]) ∧ Kept w w') := Lib.hid fun w v h => by rw [hny]; exact zCount_ok h hGv
    have HSF : Hid (∀ w v v', ZDia w v F → ZDia w v' F → Calls Try.prog 23 #[v, v'] w fun e w' => e = .returned (.bool true) ∧ Kept w w') := Lib.hid fun w v v' h h' => zsame_eq hFf h h'
    have HSN : Hid (∀ w v, ZDia w v zno → Calls Try.prog 23 #[v, .agg #[.slice none 0 0, .int .i64 0]] w fun e w' => e = .returned (.bool true) ∧ Kept w w') := Lib.hid fun w v h => zsame_eq (zfrom_no 0) h (zdia_no w)
    obtain ⟨z, hz⟩ : ∃ z, z = np + nq := ⟨_, rfl⟩
    have hpb : np ≤ 120 := by omega
    have hqb : nq ≤ 60 := by omega
    have hxb : nx ≤ 60 := by omega
    have hyb : ny ≤ 60 := by omega
    have e1 : (np : Int) + (nq : Int) = (z : Int) := by omega
    have e2 : (nx : Int) + (ny : Int) = (z : Int) := by omega
    have hzb : z ≤ 200 := by omega
    have hzz : ((z : Int) == (z : Int)) = true := beq_self_eq_true _
    clear hFv hGv hFf hGf hM hD hU hMf hDf hUf hMc hDc hUc hMv hDv hUv eA eN hnp hnq hnx hny hsum hcF hcG hz
    have q1 := (HK1.out.trans HK2.out).cell HBa.out.c0
    have q2 := (HK1.out.trans HK2.out).cell HBa.out.c1
    have q3 := (HK1.out.trans HK2.out).cell HBb.out.c0
    have q4 := (HK1.out.trans HK2.out).cell HBb.out.c1
    go_wp2_with fail
    refine (HC1.out _ _ _ (HBa.out.dia.kept (HK1.out.trans HK2.out)) (HBb.out.dia.kept (HK1.out.trans HK2.out))).mono ?_
    rintro e g3x ⟨⟨a3, n3, c3, x3, rfl, hd⟩, hk⟩
    obtain ⟨g3, hg⟩ : ∃ g, g = g3x.alloc (.cells #[.slice a3 n3 c3, .int .i64 x3] 24) := ⟨_, rfl⟩
    obtain ⟨hb, hk2⟩ := ZBox.made hd hg
    have HG3 := Lib.hid hg
    have HBm := Lib.hid hb
    have HK3 := Lib.hid (hk.trans hk2)
    clear hg hb hk hk2 hd q1 q2 q3 q4
    go_upto_region 4 with fail
    rw [← HG3.out]
    have q5 := ((HK1.out.trans HK2.out).trans HK3.out).cell HBa.out.c0
    have q6 := ((HK1.out.trans HK2.out).trans HK3.out).cell HBa.out.c1
    have q7 := ((HK1.out.trans HK2.out).trans HK3.out).cell HBb.out.c0
    have q8 := ((HK1.out.trans HK2.out).trans HK3.out).cell HBb.out.c1
    go_wp2_with fail
    refine (HC2.out _ _ _ (HBa.out.dia.kept ((HK1.out.trans HK2.out).trans HK3.out)) (HBb.out.dia.kept ((HK1.out.trans HK2.out).trans HK3.out))).mono ?_
    rintro e g4x ⟨⟨a4, n4, c4, x4, rfl, hd⟩, hk⟩
    obtain ⟨g4, hg⟩ : ∃ g, g = g4x.alloc (.cells #[.slice a4 n4 c4, .int .i64 x4] 24) := ⟨_, rfl⟩
    obtain ⟨hb, hk2⟩ := ZBox.made hd hg
    have HG4 := Lib.hid hg
    have HBd := Lib.hid hb
    have HK4 := Lib.hid (hk.trans hk2)
    clear hg hb hk hk2 hd q5 q6 q7 q8
    go_upto_region 5 with fail
    rw [← HG4.out]
    have q9 := HK4.out.cell HBm.out.c0
    have q10 := HK4.out.cell HBm.out.c1
    have q11 := (Kept.refl _).cell HBd.out.c0
    have q12 := (Kept.refl _).cell HBd.out.c1
    go_wp2_with fail
    refine (HC3.out _ _ _ (HBm.out.dia.kept HK4.out) (HBd.out.dia.kept (Kept.refl _))).mono ?_
    rintro e g5x ⟨⟨a5, n5, c5, x5, rfl, hd⟩, hk⟩
    obtain ⟨g5, hg⟩ : ∃ g, g = g5x.alloc (.cells #[.slice a5 n5 c5, .int .i64 x5] 24) := ⟨_, rfl⟩
    obtain ⟨hb, hk2⟩ := ZBox.made hd hg
    have HG5 := Lib.hid hg
    have HBu := Lib.hid hb
    have HK5 := Lib.hid (hk.trans hk2)
    clear hg hb hk hk2 hd q9 q10 q11 q12
    go_upto_region 6 with fail
    rw [← HG5.out]
    have q13 := (HK4.out.trans HK5.out).cell HBm.out.c0
    have q14 := (HK4.out.trans HK5.out).cell HBm.out.c1
    have q15 := HK5.out.cell HBd.out.c0
    have q16 := HK5.out.cell HBd.out.c1
    go_wp2_with fail
    refine (HC4.out _ _ _ (HBm.out.dia.kept (HK4.out.trans HK5.out)) (HBd.out.dia.kept HK5.out)).mono ?_
    rintro e g6x ⟨⟨a6, n6, c6, x6, rfl, hd⟩, hk⟩
    obtain ⟨g6, hg⟩ : ∃ g, g = g6x.alloc (.cells #[.slice a6 n6 c6, .int .i64 x6] 24) := ⟨_, rfl⟩
    obtain ⟨hb, hk2⟩ := ZBox.made hd hg
    have HG6 := Lib.hid hg
    have HBo := Lib.hid hb
    have HK6 := Lib.hid (hk.trans hk2)
    clear hg hb hk hk2 hd q13 q14 q15 q16
    go_upto_region 7 with fail
    rw [← HG6.out]
    have q17 := (((((HK1.out.trans HK2.out).trans HK3.out).trans HK4.out).trans HK5.out).trans HK6.out).cell HBa.out.c0
    have q18 := (((((HK1.out.trans HK2.out).trans HK3.out).trans HK4.out).trans HK5.out).trans HK6.out).cell HBa.out.c1
    have q19 := (((((HK1.out.trans HK2.out).trans HK3.out).trans HK4.out).trans HK5.out).trans HK6.out).cell HBb.out.c0
    have q20 := (((((HK1.out.trans HK2.out).trans HK3.out).trans HK4.out).trans HK5.out).trans HK6.out).cell HBb.out.c1
    go_wp2_with fail
    refine (HC5.out _ _ _ (HBa.out.dia.kept (((((HK1.out.trans HK2.out).trans HK3.out).trans HK4.out).trans HK5.out).trans HK6.out)) (HBb.out.dia.kept (((((HK1.out.trans HK2.out).trans HK3.out).trans HK4.out).trans HK5.out).trans HK6.out))).mono ?_
    rintro e g7x ⟨⟨a7, n7, c7, x7, rfl, hd⟩, hk⟩
    obtain ⟨g7, hg⟩ : ∃ g, g = g7x.alloc (.cells #[.slice a7 n7 c7, .int .i64 x7] 24) := ⟨_, rfl⟩
    obtain ⟨hb, hk2⟩ := ZBox.made hd hg
    have HG7 := Lib.hid hg
    have HBw := Lib.hid hb
    have HK7 := Lib.hid (hk.trans hk2)
    clear hg hb hk hk2 hd q17 q18 q19 q20
    go_upto_region 8 with fail
    rw [← HG7.out]
    have q21 := (Kept.refl _).cell HBw.out.c0
    have q22 := (Kept.refl _).cell HBw.out.c1
    go_wp2_with fail
    refine (HC6.out _ _ (HBw.out.dia.kept (Kept.refl _))).mono ?_
    rintro e g8 ⟨rfl, hk⟩
    have HK8 := Lib.hid hk
    clear hk q21 q22 
    have q23 := ((((HK4.out.trans HK5.out).trans HK6.out).trans HK7.out).trans HK8.out).cell HBm.out.c0
    have q24 := ((((HK4.out.trans HK5.out).trans HK6.out).trans HK7.out).trans HK8.out).cell HBm.out.c1
    go_wp2_with fail
    refine (HC7.out _ _ (HBm.out.dia.kept ((((HK4.out.trans HK5.out).trans HK6.out).trans HK7.out).trans HK8.out))).mono ?_
    rintro e g9 ⟨rfl, hk⟩
    have HK9 := Lib.hid hk
    clear hk q23 q24 
    have q25 := ((((((((HK1.out.trans HK2.out).trans HK3.out).trans HK4.out).trans HK5.out).trans HK6.out).trans HK7.out).trans HK8.out).trans HK9.out).cell HBa.out.c0
    have q26 := ((((((((HK1.out.trans HK2.out).trans HK3.out).trans HK4.out).trans HK5.out).trans HK6.out).trans HK7.out).trans HK8.out).trans HK9.out).cell HBa.out.c1
    go_wp2_with fail
    refine (HC8.out _ _ (HBa.out.dia.kept ((((((((HK1.out.trans HK2.out).trans HK3.out).trans HK4.out).trans HK5.out).trans HK6.out).trans HK7.out).trans HK8.out).trans HK9.out))).mono ?_
    rintro e g10 ⟨rfl, hk⟩
    have HK10 := Lib.hid hk
    clear hk q25 q26 
    have q27 := (((((((((HK1.out.trans HK2.out).trans HK3.out).trans HK4.out).trans HK5.out).trans HK6.out).trans HK7.out).trans HK8.out).trans HK9.out).trans HK10.out).cell HBb.out.c0
    have q28 := (((((((((HK1.out.trans HK2.out).trans HK3.out).trans HK4.out).trans HK5.out).trans HK6.out).trans HK7.out).trans HK8.out).trans HK9.out).trans HK10.out).cell HBb.out.c1
    go_wp2_with fail
    refine (HC9.out _ _ (HBb.out.dia.kept (((((((((HK1.out.trans HK2.out).trans HK3.out).trans HK4.out).trans HK5.out).trans HK6.out).trans HK7.out).trans HK8.out).trans HK9.out).trans HK10.out))).mono ?_
    rintro e g11 ⟨rfl, hk⟩
    have HK11 := Lib.hid hk
    clear hk q27 q28 
    go_upto_region 14 with fail
    have q29 := (((((HK6.out.trans HK7.out).trans HK8.out).trans HK9.out).trans HK10.out).trans HK11.out).cell HBu.out.c0
    have q30 := (((((HK6.out.trans HK7.out).trans HK8.out).trans HK9.out).trans HK10.out).trans HK11.out).cell HBu.out.c1
    have q31 := ((((((((((HK1.out.trans HK2.out).trans HK3.out).trans HK4.out).trans HK5.out).trans HK6.out).trans HK7.out).trans HK8.out).trans HK9.out).trans HK10.out).trans HK11.out).cell HBa.out.c0
    have q32 := ((((((((((HK1.out.trans HK2.out).trans HK3.out).trans HK4.out).trans HK5.out).trans HK6.out).trans HK7.out).trans HK8.out).trans HK9.out).trans HK10.out).trans HK11.out).cell HBa.out.c1
    go_wp2_with fail
    refine (HSF.out _ _ _ (HBu.out.dia.kept (((((HK6.out.trans HK7.out).trans HK8.out).trans HK9.out).trans HK10.out).trans HK11.out)) (HBa.out.dia.kept ((((((((((HK1.out.trans HK2.out).trans HK3.out).trans HK4.out).trans HK5.out).trans HK6.out).trans HK7.out).trans HK8.out).trans HK9.out).trans HK10.out).trans HK11.out))).mono ?_
    rintro e g12 ⟨rfl, hk⟩
    have HK12 := Lib.hid hk
    clear hk q29 q30 q31 q32 
    have q33 := (((((HK7.out.trans HK8.out).trans HK9.out).trans HK10.out).trans HK11.out).trans HK12.out).cell HBo.out.c0
    have q34 := (((((HK7.out.trans HK8.out).trans HK9.out).trans HK10.out).trans HK11.out).trans HK12.out).cell HBo.out.c1
    go_wp2_with fail
    refine (HSN.out _ _ (HBo.out.dia.kept (((((HK7.out.trans HK8.out).trans HK9.out).trans HK10.out).trans HK11.out).trans HK12.out))).mono ?_
    rintro e g13 ⟨rfl, hk⟩
    have HK13 := Lib.hid hk
    clear hk q33 q34 
    go_wp2_with fail
    go_ret
    exact ⟨rfl, HK0.out.trans ((((((((((((HK1.out.trans HK2.out).trans HK3.out).trans HK4.out).trans HK5.out).trans HK6.out).trans HK7.out).trans HK8.out).trans HK9.out).trans HK10.out).trans HK11.out).trans HK12.out).trans HK13.out)⟩
end Go.Proofs.Ytiplibgnfcdlkaa
