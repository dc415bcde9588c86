import Derived.Test.YtiplibgnfcdlkaaQZI6
import Derived.Deep.RegionHeld3
/-
  Walk: the law ZeroJoins. Printed by gen_ZI7.py.
-/
namespace Go.Proofs.Ytiplibgnfcdlkaa
open Go.RowKit

set_option maxRecDepth 100000 in
set_option maxHeartbeats 16000000 in
theorem zeroJoins_true (v v' v'' : Value) (L L' L'' : List INode) (ra rb rc : Int) (W : World) (h : ZeroAt W v L ra) (h' : ZeroAt W v' L' rb) (h'' : ZeroAt W v'' L'' rc) :
    Calls Try.prog 6 #[v, v', v''] W fun e w' => e = .returned (.bool true) ∧ Kept W w' := by
  obtain ⟨F, hF⟩ := h.zin
  obtain ⟨G, hG⟩ := h'.zin
  obtain ⟨K, hH⟩ := h''.zin
  obtain ⟨c, hc⟩ : ∃ c, c = zchk L ra := ⟨_, rfl⟩
  obtain ⟨d, hd⟩ : ∃ d, d = zchk L' rb := ⟨_, rfl⟩
  obtain ⟨k, hk⟩ : ∃ k, k = zchk L'' rc := ⟨_, rfl⟩
  rw [← hc] at hF
  rw [← hd] at hG
  rw [← hk] at hH
  obtain ⟨a, n, cp, r, rfl⟩ := hF.shape
  obtain ⟨b, m, cq, s, rfl⟩ := hG.shape
  obtain ⟨f, l, cr, t, rfl⟩ := hH.shape
  obtain ⟨B, hBf, hBv⟩ := valid3d hF hG hH
  obtain ⟨g0, hg0⟩ : ∃ w1, w1 = ((W.alloc (.cells #[.slice a n cp, .int .i64 r] 24)).alloc (.cells #[.slice b m cq, .int .i64 s] 24)).alloc (.cells #[.slice f l cr, .int .i64 t] 24) := ⟨_, rfl⟩
  obtain ⟨hk0, ⟨x0, x1⟩, ⟨x2, x3⟩, x4, x5⟩ := boxA3 hg0
  obtain ⟨mF, hmF⟩ : ∃ x, x = zcard F := ⟨_, rfl⟩
  obtain ⟨mG, hmG⟩ : ∃ x, x = zcard G := ⟨_, rfl⟩
  obtain ⟨mH, hmH⟩ : ∃ x, x = zcard K := ⟨_, rfl⟩
  obtain ⟨ms, hms⟩ : ∃ x, x = mG + mH := ⟨_, rfl⟩
  obtain ⟨mp, hmp⟩ : ∃ x, x = mF * ms := ⟨_, rfl⟩
  obtain ⟨b4, hb4⟩ : ∃ x, x = decide ((400 : Int) < (mp : Int)) := ⟨_, rfl⟩
  obtain ⟨bb, hbb⟩ : ∃ x, x = (!B || b4) := ⟨_, rfl⟩
  have HK0 := Lib.hid hk0
  have HG0 := Lib.hid hg0
  have HX := Lib.hid (And.intro (And.intro x0 x1) (And.intro (And.intro x2 x3) (And.intro x4 x5)))
  have HFI := Lib.hid hF
  have HGI := Lib.hid hG
  have HHI := Lib.hid hH
  have HBF := Lib.hid hBf
  have HV := Lib.hid hBv
  have HM := Lib.hid (And.intro hmF (And.intro hmG (And.intro hmH (And.intro hms hmp))))
  have HB4 := Lib.hid hb4
  have HBB := Lib.hid hbb
  have HSX : Hid (∀ w, Kept g0 w → (fun X => X.cell? ⟨W.heap.size, 0, none⟩ = some (.slice a n cp) ∧ X.cell? ⟨W.heap.size, 1, none⟩ = some (.int .i64 r) ∧ X.cell? ⟨W.heap.size + 1, 0, none⟩ = some (.slice b m cq) ∧ X.cell? ⟨W.heap.size + 1, 1, none⟩ = some (.int .i64 s) ∧ X.cell? ⟨W.heap.size + 2, 0, none⟩ = some (.slice f l cr) ∧ X.cell? ⟨W.heap.size + 2, 1, none⟩ = some (.int .i64 t)) w) := Lib.hid fun w hk => ⟨hk.cell x0, hk.cell x1, hk.cell x2, hk.cell x3, hk.cell x4, hk.cell x5⟩
  clear h h' h'' hc hd hk hg0 hk0 hF hG hH hBf hBv hmF hmG hmH hms hmp hb4 hbb
  go_enter Try.func6, Try.ntmps6
  go_upto_region 1 with fail
  rw [← HG0.out]
  go_cut [41] (fun p wx => p = .bool bb ∧ Hid (Kept g0 wx))
  case first =>
    cases B with
    | false =>
      go_region_with (first
        | (go_at_call 10; (with_reducible refine (awake18 _).mono ?_); rintro e w5 ⟨rfl, hk5⟩; have HKD := Lib.hid ((Kept.refl _).drew.trans hk5); obtain ⟨x0, x1, x2, x3, x4, x5⟩ := HSX.out _ HKD.out; clear hk5)
        | (go_at_call 19; (with_reducible refine (HV.out _ (HK0.out.trans HKD.out)).mono ?_); rintro e w6 ⟨rfl, hk6⟩; have HKD := Lib.hid (HKD.out.trans hk6); clear hk6))
      all_goals go_wp2_with fail
      all_goals go_meet
      all_goals exact ⟨by rw [HBB.out]; rfl, HKD⟩
    | true =>
      obtain ⟨⟨rfl, hcF⟩, ⟨rfl, hcG⟩, rfl, hcH⟩ := HBF.out rfl
      rw [← HM.out.1] at hcF
      rw [← HM.out.2.1] at hcG
      rw [← HM.out.2.2.1] at hcH
      have hsb : ms ≤ 120 := by rw [HM.out.2.2.2.1]; omega
      have hpb : mp ≤ 7200 := by rw [HM.out.2.2.2.2]; exact Nat.mul_le_mul hcF hsb
      have e1 : (mG : Int) + (mH : Int) = (ms : Int) := by rw [HM.out.2.2.2.1]; omega
      have e2 : (mF : Int) * (ms : Int) = (mp : Int) := by rw [HM.out.2.2.2.2, Int.natCast_mul]
      have HW3 : Hid (decide ((400 : Int) < IntKind.i64.wrap ((mF : Int) * IntKind.i64.wrap (ms : Int))) = b4) := Lib.hid (by
        rw [show IntKind.i64.wrap (ms : Int) = (ms : Int) by rw [IntKind.wrap_i64]; omega, e2, show IntKind.i64.wrap (mp : Int) = (mp : Int) by rw [IntKind.wrap_i64]; omega]
        exact HB4.out.symm)
      have HNa : Hid (∀ w, Kept W w → Calls Try.prog 29 #[.agg #[.slice a n cp, .int .i64 r]] w fun e w' => e = .returned (.int .i64 (mF : Nat)) ∧ Kept w w') := Lib.hid fun w hk => by rw [HM.out.1]; exact rcount_in (HFI.out.kept hk)
      have HNb : Hid (∀ w, Kept W w → Calls Try.prog 29 #[.agg #[.slice b m cq, .int .i64 s]] w fun e w' => e = .returned (.int .i64 (mG : Nat)) ∧ Kept w w') := Lib.hid fun w hk => by rw [HM.out.2.1]; exact rcount_in (HGI.out.kept hk)
      have HNc : Hid (∀ w, Kept W w → Calls Try.prog 29 #[.agg #[.slice f l cr, .int .i64 t]] w fun e w' => e = .returned (.int .i64 (mH : Nat)) ∧ Kept w w') := Lib.hid fun w hk => by rw [HM.out.2.2.1]; exact rcount_in (HHI.out.kept hk)
      clear x0 x1 x2 x3 x4 x5
      go_region_held3 (fun X => X.cell? ⟨W.heap.size, 0, none⟩ = some (.slice a n cp) ∧ X.cell? ⟨W.heap.size, 1, none⟩ = some (.int .i64 r) ∧ X.cell? ⟨W.heap.size + 1, 0, none⟩ = some (.slice b m cq) ∧ X.cell? ⟨W.heap.size + 1, 1, none⟩ = some (.int .i64 s) ∧ X.cell? ⟨W.heap.size + 2, 0, none⟩ = some (.slice f l cr) ∧ X.cell? ⟨W.heap.size + 2, 1, none⟩ = some (.int .i64 t))
        (with_reducible first | exact HSX.out _ HKD.out | exact HSX.out _ (HKD.out.alloc _) | exact HSX.out _ (Kept.refl _).drew | exact HSX.out _ (Kept.refl _))
        (first
        | (go_at_call 10; (with_reducible refine (awake18 _).mono ?_); rintro e w5 ⟨rfl, hk5⟩; have HKD := Lib.hid ((Kept.refl _).drew.trans hk5); clear hk5)
        | (go_at_call 19; (with_reducible refine (HV.out _ (HK0.out.trans HKD.out)).mono ?_); rintro e w6 ⟨rfl, hk6⟩; have HKD := Lib.hid (HKD.out.trans hk6); clear hk6)
        | (go_at_call 29; (with_reducible refine (HNa.out _ (HK0.out.trans HKD.out)).mono ?_); rintro e w7 ⟨rfl, hk7⟩; have HKD := Lib.hid (HKD.out.trans hk7); clear hk7)
        | (go_at_call 29; (with_reducible refine (HNb.out _ (HK0.out.trans HKD.out)).mono ?_); rintro e w7 ⟨rfl, hk7⟩; have HKD := Lib.hid (HKD.out.trans hk7); clear hk7)
        | (go_at_call 29; (with_reducible refine (HNc.out _ (HK0.out.trans HKD.out)).mono ?_); rintro e w7 ⟨rfl, hk7⟩; have HKD := Lib.hid (HKD.out.trans hk7); clear hk7))
      all_goals go_wp2_with fail
      all_goals go_meet
      all_goals exact ⟨by rw [HBB.out]; exact congrArg Value.bool HW3.out, HKD⟩
  case rest =>
    obtain ⟨rfl, HK1⟩ := hcut
    obtain ⟨g1, rfl⟩ : ∃ g1 : World, g1 = wc := ⟨_, rfl⟩
    clear x0 x1 x2 x3 x4 x5
    cases bb with
    | true =>
      go_wp2_with fail
      refine (awake18 _).mono ?_
      rintro e g2 ⟨rfl, hk2⟩
      have HK2 := Lib.hid hk2
      clear hk2
      go_wp2_with fail
      go_ret
      exact ⟨rfl, (HK0.out.trans HK1.out).trans HK2.out⟩
    | false =>
      have hBt : B = true := by
        have := HBB.out
        cases hB : B with
        | true => rfl
        | false => rw [hB] at this; cases this
      obtain ⟨⟨rfl, hcF⟩, ⟨rfl, hcG⟩, rfl, hcH⟩ := HBF.out hBt
      have h400 : zcard F * (zcard G + zcard K) ≤ 400 := by
        have h1 := HBB.out
        rw [hBt, HB4.out] at h1
        have h2 : decide ((400 : Int) < (mp : Int)) = false := h1.symm
        have h3 := of_decide_eq_false h2
        have h4 := HM.out.2.2.2.2
        rw [HM.out.2.2.2.1, HM.out.1, HM.out.2.1, HM.out.2.2.1] at h4
        omega
      clear hBt
      have h401 : zcard F * zcard G ≤ 400 := Nat.le_trans (Nat.mul_le_mul_left _ (by omega)) h400
      have h402 : zcard F * zcard K ≤ 400 := Nat.le_trans (Nat.mul_le_mul_left _ (by omega)) h400
      have hFv := HFI.out.fv
      have hGv := HGI.out.fv
      have hHv := HHI.out.fv
      have hFf := hFv.frm
      have hGf := hGv.frm
      have hHf := hHv.frm
      have HBa : Hid (ZBox g0 W.heap.size a n cp r F) := Lib.hid ⟨HX.out.1.1, HX.out.1.2, (HFI.out.dia rfl).kept HK0.out⟩
      have HBb : Hid (ZBox g0 (W.heap.size + 1) b m cq s G) := Lib.hid ⟨HX.out.2.1.1, HX.out.2.1.2, (HGI.out.dia rfl).kept HK0.out⟩
      have HBc : Hid (ZBox g0 (W.heap.size + 2) f l cr t K) := Lib.hid ⟨HX.out.2.2.1, HX.out.2.2.2, (HHI.out.dia rfl).kept HK0.out⟩
      obtain ⟨X, hX⟩ : ∃ M : Nat → Bool, M = zjoin F G := ⟨_, rfl⟩
      obtain ⟨U, hU⟩ : ∃ M : Nat → Bool, M = fun s => or (G s) (K s) := ⟨_, rfl⟩
      obtain ⟨P, hP⟩ : ∃ M : Nat → Bool, M = zjoin F U := ⟨_, rfl⟩
      obtain ⟨Q, hQ⟩ : ∃ M : Nat → Bool, M = zjoin F K := ⟨_, rfl⟩
      have hUf : ZFrom 0 U := by rw [hU]; exact zfrom_or hGf hHf
      have hUc : zcard U ≤ zcard G + zcard K := by rw [hU]; exact zcard_or hGf hHf
      have hXf : ZFrom 0 X := by rw [hX]; exact zfrom_join hFf hGf
      have hPf : ZFrom 0 P := by rw [hP]; exact zfrom_join hFf hUf
      have hQf : ZFrom 0 Q := by rw [hQ]; exact zfrom_join hFf hHf
      have h403 : zcard F * zcard U ≤ 400 := Nat.le_trans (Nat.mul_le_mul_left _ hUc) h400
      have hUv : ZFv U := .of4 hUf (by omega)
      have hXv : ZFv X := .of4 hXf (by have := zcard_join hFf hGf; rw [hX]; omega)
      have hPv : ZFv P := .of4 hPf (by have := zcard_join hFf hUf; rw [hP]; omega)
      have hQv : ZFv Q := .of4 hQf (by have := zcard_join hFf hHf; rw [hQ]; omega)
      have hEv : ZFv zun := .of4 zun_from (by rw [zcard_un]; omega)
      have eY : zjoin G F = X := by rw [hX, zjoin_comm]
      have eR : (fun s => or (X s) (Q s)) = P := by rw [hX, hQ, hP, hU, zjoin_dist]
      have HC1 : Hid (∀ w v v', ZDia w v F → ZDia w v' G → Calls Try.prog 30 #[v, v'] w (OkRes X w)) := Lib.hid fun w v v' h h' => by
        have := zJoin_ok h h' hFv hGv (by omega) (by rw [← hX]; exact hXv)
        rwa [← hX] at this
      have HC2 : Hid (∀ w v v', ZDia w v G → ZDia w v' F → Calls Try.prog 30 #[v, v'] w (OkRes X w)) := Lib.hid fun w v v' h h' => by
        have := zJoin_ok h h' hGv hFv (by rw [Nat.mul_comm]; omega) (by rw [eY]; exact hXv)
        rwa [eY] at this
      have HC3 : Hid (∀ w v v', ZDia w v G → ZDia w v' K → Calls Try.prog 31 #[v, v'] w (OkRes U w)) := Lib.hid fun w v v' h h' => by
        have := zUnion_ok h h' hGv hHv (by rw [← hU]; exact hUv)
        rwa [← hU] at this
      have HC4 : Hid (∀ w v v', ZDia w v F → ZDia w v' U → Calls Try.prog 30 #[v, v'] w (OkRes P w)) := Lib.hid fun w v v' h h' => by
        have := zJoin_ok h h' hFv hUv (by omega) (by rw [← hP]; exact hPv)
        rwa [← hP] at this
      have HC5 : Hid (∀ w v v', ZDia w v F → ZDia w v' K → Calls Try.prog 30 #[v, v'] w (OkRes Q w)) := Lib.hid fun w v v' h h' => by
        have := zJoin_ok h h' hFv hHv (by omega) (by rw [← hQ]; exact hQv)
        rwa [← hQ] at this
      have HC6 : Hid (∀ w v v', ZDia w v X → ZDia w v' Q → Calls Try.prog 31 #[v, v'] w (OkRes P w)) := Lib.hid fun w v v' h h' => by
        have := zUnion_ok h h' hXv hQv (by rw [eR]; exact hPv)
        rwa [eR] at this
      have HC7 : Hid (∀ w v, ZDia w v F → Calls Try.prog 30 #[v, .agg #[.slice none 0 0, .int .i64 1]] w (OkRes F w)) := Lib.hid fun w v h => by
        have := zJoin_ok h (zdia_un w) hFv hEv (by rw [zcard_un]; omega) (by rw [zjoin_un]; exact hFv)
        rwa [zjoin_un] at this
      have HSX : Hid (∀ w v v', ZDia w v X → ZDia w v' X → Calls Try.prog 23 #[v, v'] w fun e w' => e = .returned (.bool true) ∧ Kept w w') := Lib.hid fun w v v' h h' => zsame_eq hXf h h'
      have HSP : Hid (∀ w v v', ZDia w v P → ZDia w v' P → Calls Try.prog 23 #[v, v'] w fun e w' => e = .returned (.bool true) ∧ Kept w w') := Lib.hid fun w v v' h h' => zsame_eq hPf h h'
      have HSF : Hid (∀ w v v', ZDia w v F → ZDia w v' F → Calls Try.prog 23 #[v, v'] w fun e w' => e = .returned (.bool true) ∧ Kept w w') := Lib.hid fun w v v' h h' => zsame_eq hFf h h'
      clear hFv hGv hHv hFf hGf hHf hX hU hP hQ hUf hUc hXf hPf hQf hUv hXv hPv hQv hEv eY eR h400 h401 h402 h403 hcF hcG hcH
      have q1 := HK1.out.cell HBa.out.c0
      have q2 := HK1.out.cell HBa.out.c1
      have q3 := HK1.out.cell HBb.out.c0
      have q4 := HK1.out.cell HBb.out.c1
      go_wp2_with fail
      refine (HC1.out _ _ _ (HBa.out.dia.kept HK1.out) (HBb.out.dia.kept HK1.out)).mono ?_
      rintro e g2x ⟨⟨a2, n2, c2, x2, rfl, hd⟩, hk⟩
      obtain ⟨g2, hg⟩ : ∃ g, g = g2x.alloc (.cells #[.slice a2 n2 c2, .int .i64 x2] 24) := ⟨_, rfl⟩
      obtain ⟨hb, hk2⟩ := ZBox.made hd hg
      have HG2 := Lib.hid hg
      have HBx := Lib.hid hb
      have HK2 := Lib.hid (hk.trans hk2)
      clear hg hb hk hk2 hd q1 q2 q3 q4
      go_upto_region 4 with fail
      rw [← HG2.out]
      have q5 := (HK1.out.trans HK2.out).cell HBb.out.c0
      have q6 := (HK1.out.trans HK2.out).cell HBb.out.c1
      have q7 := (HK1.out.trans HK2.out).cell HBa.out.c0
      have q8 := (HK1.out.trans HK2.out).cell HBa.out.c1
      go_wp2_with fail
      refine (HC2.out _ _ _ (HBb.out.dia.kept (HK1.out.trans HK2.out)) (HBa.out.dia.kept (HK1.out.trans HK2.out))).mono ?_
      rintro e g3x ⟨⟨a3, n3, c3, x3, rfl, hd⟩, hk⟩
      obtain ⟨g3, hg⟩ : ∃ g, g = g3x.alloc (.cells #[.slice a3 n3 c3, .int .i64 x3] 24) := ⟨_, rfl⟩
      obtain ⟨hb, hk2⟩ := ZBox.made hd hg
      have HG3 := Lib.hid hg
      have HBy := Lib.hid hb
      have HK3 := Lib.hid (hk.trans hk2)
      clear hg hb hk hk2 hd q5 q6 q7 q8
      go_upto_region 5 with fail
      rw [← HG3.out]
      have q9 := ((HK1.out.trans HK2.out).trans HK3.out).cell HBb.out.c0
      have q10 := ((HK1.out.trans HK2.out).trans HK3.out).cell HBb.out.c1
      have q11 := ((HK1.out.trans HK2.out).trans HK3.out).cell HBc.out.c0
      have q12 := ((HK1.out.trans HK2.out).trans HK3.out).cell HBc.out.c1
      go_wp2_with fail
      refine (HC3.out _ _ _ (HBb.out.dia.kept ((HK1.out.trans HK2.out).trans HK3.out)) (HBc.out.dia.kept ((HK1.out.trans HK2.out).trans HK3.out))).mono ?_
      rintro e g4x ⟨⟨a4, n4, c4, x4, rfl, hd⟩, hk⟩
      obtain ⟨g4, hg⟩ : ∃ g, g = g4x.alloc (.cells #[.slice a4 n4 c4, .int .i64 x4] 24) := ⟨_, rfl⟩
      obtain ⟨hb, hk2⟩ := ZBox.made hd hg
      have HG4 := Lib.hid hg
      have HBu := Lib.hid hb
      have HK4 := Lib.hid (hk.trans hk2)
      clear hg hb hk hk2 hd q9 q10 q11 q12
      go_upto_region 6 with fail
      rw [← HG4.out]
      have q13 := (((HK1.out.trans HK2.out).trans HK3.out).trans HK4.out).cell HBa.out.c0
      have q14 := (((HK1.out.trans HK2.out).trans HK3.out).trans HK4.out).cell HBa.out.c1
      have q15 := (Kept.refl _).cell HBu.out.c0
      have q16 := (Kept.refl _).cell HBu.out.c1
      go_wp2_with fail
      refine (HC4.out _ _ _ (HBa.out.dia.kept (((HK1.out.trans HK2.out).trans HK3.out).trans HK4.out)) (HBu.out.dia.kept (Kept.refl _))).mono ?_
      rintro e g5x ⟨⟨a5, n5, c5, x5, rfl, hd⟩, hk⟩
      obtain ⟨g5, hg⟩ : ∃ g, g = g5x.alloc (.cells #[.slice a5 n5 c5, .int .i64 x5] 24) := ⟨_, rfl⟩
      obtain ⟨hb, hk2⟩ := ZBox.made hd hg
      have HG5 := Lib.hid hg
      have HBp := Lib.hid hb
      have HK5 := Lib.hid (hk.trans hk2)
      clear hg hb hk hk2 hd q13 q14 q15 q16
      go_upto_region 7 with fail
      rw [← HG5.out]
      have q17 := ((((HK1.out.trans HK2.out).trans HK3.out).trans HK4.out).trans HK5.out).cell HBa.out.c0
      have q18 := ((((HK1.out.trans HK2.out).trans HK3.out).trans HK4.out).trans HK5.out).cell HBa.out.c1
      have q19 := ((((HK1.out.trans HK2.out).trans HK3.out).trans HK4.out).trans HK5.out).cell HBc.out.c0
      have q20 := ((((HK1.out.trans HK2.out).trans HK3.out).trans HK4.out).trans HK5.out).cell HBc.out.c1
      go_wp2_with fail
      refine (HC5.out _ _ _ (HBa.out.dia.kept ((((HK1.out.trans HK2.out).trans HK3.out).trans HK4.out).trans HK5.out)) (HBc.out.dia.kept ((((HK1.out.trans HK2.out).trans HK3.out).trans HK4.out).trans HK5.out))).mono ?_
      rintro e g6x ⟨⟨a6, n6, c6, x6, rfl, hd⟩, hk⟩
      obtain ⟨g6, hg⟩ : ∃ g, g = g6x.alloc (.cells #[.slice a6 n6 c6, .int .i64 x6] 24) := ⟨_, rfl⟩
      obtain ⟨hb, hk2⟩ := ZBox.made hd hg
      have HG6 := Lib.hid hg
      have HBq := Lib.hid hb
      have HK6 := Lib.hid (hk.trans hk2)
      clear hg hb hk hk2 hd q17 q18 q19 q20
      go_upto_region 8 with fail
      rw [← HG6.out]
      have q21 := (((HK3.out.trans HK4.out).trans HK5.out).trans HK6.out).cell HBx.out.c0
      have q22 := (((HK3.out.trans HK4.out).trans HK5.out).trans HK6.out).cell HBx.out.c1
      have q23 := (Kept.refl _).cell HBq.out.c0
      have q24 := (Kept.refl _).cell HBq.out.c1
      go_wp2_with fail
      refine (HC6.out _ _ _ (HBx.out.dia.kept (((HK3.out.trans HK4.out).trans HK5.out).trans HK6.out)) (HBq.out.dia.kept (Kept.refl _))).mono ?_
      rintro e g7x ⟨⟨a7, n7, c7, x7, rfl, hd⟩, hk⟩
      obtain ⟨g7, hg⟩ : ∃ g, g = g7x.alloc (.cells #[.slice a7 n7 c7, .int .i64 x7] 24) := ⟨_, rfl⟩
      obtain ⟨hb, hk2⟩ := ZBox.made hd hg
      have HG7 := Lib.hid hg
      have HBr := Lib.hid hb
      have HK7 := Lib.hid (hk.trans hk2)
      clear hg hb hk hk2 hd q21 q22 q23 q24
      go_upto_region 9 with fail
      rw [← HG7.out]
      have q25 := ((((((HK1.out.trans HK2.out).trans HK3.out).trans HK4.out).trans HK5.out).trans HK6.out).trans HK7.out).cell HBa.out.c0
      have q26 := ((((((HK1.out.trans HK2.out).trans HK3.out).trans HK4.out).trans HK5.out).trans HK6.out).trans HK7.out).cell HBa.out.c1
      go_wp2_with fail
      refine (HC7.out _ _ (HBa.out.dia.kept ((((((HK1.out.trans HK2.out).trans HK3.out).trans HK4.out).trans HK5.out).trans HK6.out).trans HK7.out))).mono ?_
      rintro e g8x ⟨⟨a8, n8, c8, x8, rfl, hd⟩, hk⟩
      obtain ⟨g8, hg⟩ : ∃ g, g = g8x.alloc (.cells #[.slice a8 n8 c8, .int .i64 x8] 24) := ⟨_, rfl⟩
      obtain ⟨hb, hk2⟩ := ZBox.made hd hg
      have HG8 := Lib.hid hg
      have HBs := Lib.hid hb
      have HK8 := Lib.hid (hk.trans hk2)
      clear hg hb hk hk2 hd q25 q26
      go_upto_region 10 with fail
      rw [← HG8.out]
      have q27 := (((((HK3.out.trans HK4.out).trans HK5.out).trans HK6.out).trans HK7.out).trans HK8.out).cell HBx.out.c0
      have q28 := (((((HK3.out.trans HK4.out).trans HK5.out).trans HK6.out).trans HK7.out).trans HK8.out).cell HBx.out.c1
      have q29 := ((((HK4.out.trans HK5.out).trans HK6.out).trans HK7.out).trans HK8.out).cell HBy.out.c0
      have q30 := ((((HK4.out.trans HK5.out).trans HK6.out).trans HK7.out).trans HK8.out).cell HBy.out.c1
      go_wp2_with fail
      refine (HSX.out _ _ _ (HBx.out.dia.kept (((((HK3.out.trans HK4.out).trans HK5.out).trans HK6.out).trans HK7.out).trans HK8.out)) (HBy.out.dia.kept ((((HK4.out.trans HK5.out).trans HK6.out).trans HK7.out).trans HK8.out))).mono ?_
      rintro e g9 ⟨rfl, hk⟩
      have HK9 := Lib.hid hk
      clear hk q27 q28 q29 q30 
      have q31 := (((HK6.out.trans HK7.out).trans HK8.out).trans HK9.out).cell HBp.out.c0
      have q32 := (((HK6.out.trans HK7.out).trans HK8.out).trans HK9.out).cell HBp.out.c1
      have q33 := (HK8.out.trans HK9.out).cell HBr.out.c0
      have q34 := (HK8.out.trans HK9.out).cell HBr.out.c1
      go_wp2_with fail
      refine (HSP.out _ _ _ (HBp.out.dia.kept (((HK6.out.trans HK7.out).trans HK8.out).trans HK9.out)) (HBr.out.dia.kept (HK8.out.trans HK9.out))).mono ?_
      rintro e g10 ⟨rfl, hk⟩
      have HK10 := Lib.hid hk
      clear hk q31 q32 q33 q34 
      have q35 := (HK9.out.trans HK10.out).cell HBs.out.c0
      have q36 := (HK9.out.trans HK10.out).cell HBs.out.c1
      have q37 := (((((((((HK1.out.trans HK2.out).trans HK3.out).trans HK4.out).trans HK5.out).trans HK6.out).trans HK7.out).trans HK8.out).trans HK9.out).trans HK10.out).cell HBa.out.c0
      have q38 := (((((((((HK1.out.trans HK2.out).trans HK3.out).trans HK4.out).trans HK5.out).trans HK6.out).trans HK7.out).trans HK8.out).trans HK9.out).trans HK10.out).cell HBa.out.c1
      go_wp2_with fail
      refine (HSF.out _ _ _ (HBs.out.dia.kept (HK9.out.trans HK10.out)) (HBa.out.dia.kept (((((((((HK1.out.trans HK2.out).trans HK3.out).trans HK4.out).trans HK5.out).trans HK6.out).trans HK7.out).trans HK8.out).trans HK9.out).trans HK10.out))).mono ?_
      rintro e g11 ⟨rfl, hk⟩
      have HK11 := Lib.hid hk
      clear hk q35 q36 q37 q38 
      go_wp2_with fail
      go_ret
      exact ⟨rfl, HK0.out.trans ((((((((((HK1.out.trans HK2.out).trans HK3.out).trans HK4.out).trans HK5.out).trans HK6.out).trans HK7.out).trans HK8.out).trans HK9.out).trans HK10.out).trans HK11.out)⟩
end Go.Proofs.Ytiplibgnfcdlkaa
