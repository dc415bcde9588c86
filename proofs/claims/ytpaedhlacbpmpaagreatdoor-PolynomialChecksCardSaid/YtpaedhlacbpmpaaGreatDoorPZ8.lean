import Derived.Test.YtpaedhlacbpmpaaGreatDoorPX1
import Derived.Test.YtpaedhlacbpmpaaGreatDoorPX2
import Derived.Test.YtpaedhlacbpmpaaGreatDoorPX3
import Derived.Test.YtpaedhlacbpmpaaGreatDoorPX4
import Derived.Test.YtpaedhlacbpmpaaGreatDoorPX5
import Derived.Test.YtpaedhlacbpmpaaGreatDoorPX6
import Derived.Test.YtpaedhlacbpmpaaGreatDoorPX7
import Derived.Test.YtpaedhlacbpmpaaGreatDoorPX8
import Derived.Test.YtpaedhlacbpmpaaGreatDoorPZ1
import Derived.Test.YtpaedhlacbpmpaaGreatDoorPZ2
import Derived.Test.YtpaedhlacbpmpaaGreatDoorPZ7
/-
  Walk: the law PolynomialChecks returns true, whatever the polynomial, the number and the event. Printed by gen_PH.py.
-/
namespace Go.Proofs.YtpaedhlacbpmpaaGreatDoor
open Go.RowKit

theorem chkT_le9 (ts : List Trm) : chkT ts ≤ 100 := by
  have h : ∀ k i, firstT ts k i ≤ 100 := by
    intro k
    induction k with
    | zero => intro i; exact Nat.zero_le _
    | succ k ih =>
      intro i
      unfold firstT
      split
      · exact ih _
      · unfold nodeT
        repeat' split
        all_goals omega
  unfold chkT
  split
  · omega
  · exact h _ _
set_option maxRecDepth 100000 in
set_option maxHeartbeats 16000000 in
theorem pchecks_true (v0 a1 b1 : Value) (x0 : List Trm) (x1 : Rw) (x2 : Int) (w : World) (g0 : TrmsRaw w v0 x0) (g1 : WdRaw w a1 x1.num) (k1 : WdRaw w b1 x1.den) (_ : (Lit.int .i64 x2).wf = true) :
    Calls Tryz.prog 6 #[v0, .agg #[.bool x1.neg, a1, b1], .int .i64 x2] w fun e w' => e = .returned (.bool true) ∧ Kept w w' := by
  have HA : Hid (∀ W, Calls Tryz.prog 10 #[] W fun e w' => e = .returned (.bool true) ∧ Kept W w') := Lib.hid fun W => awake20_ok W
  obtain ⟨ta0, tc0, hts0⟩ := g0.shape
  obtain ⟨tl0, htl0⟩ : ∃ l, l = x0.length := ⟨_, rfl⟩
  rw [← htl0] at hts0
  subst hts0
  clear htl0
  have HG0 := Lib.hid g0
  obtain ⟨Q0, hQ0⟩ : ∃ q, q = chkT x0 := ⟨_, rfl⟩
  have HQ0 := Lib.hid hQ0
  have HL : Hid (∀ W, Kept w W → Calls Tryz.prog 11 #[.slice (some ⟨W.heap.size, 0, none⟩) 1 1] (W.alloc (.cells #[.slice ta0 tl0 tc0] 22)) fun e w' => (∃ b, e = .returned (.bool b) ∧ Hid (b = false → NotLg x0)) ∧ Kept W w') := Lib.hid fun W hk => by
    have hka : Kept W (W.alloc (.cells #[.slice ta0 tl0 tc0] 22)) := (Kept.refl _).alloc _
    have h := large20_any [(.slice ta0 tl0 tc0, x0)] W.heap.size (W.alloc (.cells #[.slice ta0 tl0 tc0] 22)) (fun i hi => ?_) 1 rfl (by omega)
    · exact h.mono fun e w' ⟨⟨b, h1, h2⟩, h3⟩ => ⟨⟨b, h1, Lib.hid fun hb => h2 hb (.slice ta0 tl0 tc0, x0) (by simp)⟩, hka.trans h3⟩
    · match i, hi with
      | 0, _ => exact ⟨by simp, g0.kept (hk.trans hka)⟩
  have HCK0 : Hid (NotLg x0 → ∀ W, Kept w W → Calls Tryz.prog 21 #[.slice ta0 tl0 tc0] W fun e w' => e = .returned (errV Q0) ∧ Kept W w') := Lib.hid fun hn W hk => by
    rw [hQ0]
    exact pcheck20_any _ x0 W ((g0.small fun t ht => ⟨Nat.le_trans (hn.2 t ht).1 (by omega), Nat.le_trans (hn.2 t ht).2 (by omega)⟩).kept hk) fun t ht => ⟨Nat.le_trans (hn.2 t ht).1 (by omega), Nat.le_trans (hn.2 t ht).2 (by omega)⟩
  have HCR0 : Hid (NotLg x0 → ∀ W, Kept w W → Calls Tryz.prog 12 #[.slice ta0 tl0 tc0] W fun e w' => e = .returned (.int .i64 (Q0 : Nat)) ∧ Kept W w') := Lib.hid fun hn W hk => by
    rw [hQ0]
    exact refcheck20_any _ x0 W ((g0.small fun t ht => ⟨Nat.le_trans (hn.2 t ht).1 (by omega), Nat.le_trans (hn.2 t ht).2 (by omega)⟩).kept hk) fun t ht => ⟨Nat.le_trans (hn.2 t ht).1 (by omega), Nat.le_trans (hn.2 t ht).2 (by omega)⟩
  have HPS : Hid (NotLg x0 → ∀ W, Kept w W → TrmsAt W (.slice ta0 tl0 tc0) x0) := Lib.hid fun hn W hk => (g0.small fun t ht => ⟨Nat.le_trans (hn.2 t ht).1 (by omega), Nat.le_trans (hn.2 t ht).2 (by omega)⟩).kept hk
  have HQL : Hid (Q0 ≤ 100) := Lib.hid (by rw [hQ0]; exact chkT_le9 x0)
  clear g0 hQ0
  obtain ⟨ra, rc, rfl, _⟩ := g1.shape
  obtain ⟨rb, rd, rfl, _⟩ := k1.shape
  obtain ⟨L1, hL1⟩ : ∃ l, l = x1.num.length := ⟨_, rfl⟩
  obtain ⟨L2, hL2⟩ : ∃ l, l = x1.den.length := ⟨_, rfl⟩
  obtain ⟨NG, hNG⟩ : ∃ l, l = x1.neg := ⟨_, rfl⟩
  have HRW : Hid (L1 ≤ 4 → L2 ≤ 4 → RatAt w (.agg #[.bool NG, .slice ra L1 rc, .slice rb L2 rd]) x1 ∧ x1.Short 4) := Lib.hid fun h1 h2 => ⟨⟨_, _, by rw [hNG], by rw [hL1]; exact g1.small (by omega), by rw [hL2]; exact k1.small (by omega)⟩, ⟨by omega, by omega⟩⟩
  rw [← hL1, ← hL2, ← hNG]
  clear g1 k1 hL1 hL2 hNG
  obtain ⟨w0, hw0⟩ : ∃ w0, w0 = w.alloc (.cells #[.bool NG, .slice ra L1 rc, .slice rb L2 rd] 38) := ⟨_, rfl⟩
  have HX0 : Hid (RowAt w0 w.heap.size 38 [.bool NG, .slice ra L1 rc, .slice rb L2 rd]) := Lib.hid (by rw [hw0]; exact RowAt.made w #[.bool NG, .slice ra L1 rc, .slice rb L2 rd] 38)
  have HK0 : Hid (Kept w w0) := Lib.hid (by rw [hw0]; exact (Kept.refl _).alloc _)
  have HW0 := Lib.hid hw0
  clear hw0
  go_enter Tryz.func6, Tryz.ntmps6
  go_wp2_with fail
  rw [← HW0.out]
  refine (HA.out _).mono ?_
  rintro e w1 ⟨rfl, hk1⟩
  have HX1 := Lib.hid (HX0.out.kept hk1)
  have HK1 := Lib.hid (HK0.out.trans hk1)
  clear hk1
  go_wp2_with fail
  refine (HL.out _ HK1.out).mono ?_
  rintro e w2 ⟨⟨b, rfl, hnl⟩, hk2⟩
  have HX2 := Lib.hid (HX1.out.kept hk2)
  have HK2 := Lib.hid (HK1.out.trans hk2)
  clear hk2
  obtain ⟨c0, c1, c2⟩ := row3_at HX2.out
  cases b with
  | true =>
    go_wp2_with fail
    refine (HA.out _).mono ?_
    rintro e wz ⟨rfl, hkz⟩
    go_wp2
    go_ret
    exact ⟨rfl, HK2.out.trans hkz⟩
  | false =>
    by_cases h4 : 4 < L1
    · have h4i : (4 : Int) < (L1 : Int) := by omega
      go_wp2_with fail
      refine (HA.out _).mono ?_
      rintro e wz ⟨rfl, hkz⟩
      go_wp2
      go_ret
      exact ⟨rfl, HK2.out.trans hkz⟩
    · have h4i : ¬ (4 : Int) < (L1 : Int) := by omega
      by_cases h5 : 4 < L2
      · have h5i : (4 : Int) < (L2 : Int) := by omega
        go_wp2_with fail
        refine (HA.out _).mono ?_
        rintro e wz ⟨rfl, hkz⟩
        go_wp2
        go_ret
        exact ⟨rfl, HK2.out.trans hkz⟩
      · have h5i : ¬ (4 : Int) < (L2 : Int) := by omega
        have hn := hnl.out rfl
        have HCK := Lib.hid (HCK0.out hn)
        have HCR := Lib.hid (HCR0.out hn)
        have HPT := Lib.hid (HPS.out hn)
        have hrw := HRW.out (by omega) (by omega)
        have HRT := Lib.hid hrw.1
        obtain ⟨CP, hCP⟩ : ∃ P, P = constP (ratOf x1) := ⟨_, rfl⟩
        have HPC : Hid (∀ W u, RatAt W u x1 → Calls Tryz.prog 30 #[u] W fun e w' => (∃ v', e = .returned v' ∧ TrmsAt w' v' (polT CP)) ∧ Kept W w') := Lib.hid fun W u hu => by
          rw [hCP]
          exact pconst_any u x1 W hu ⟨Nat.le_trans hrw.2.1 (by omega), Nat.le_trans hrw.2.2 (by omega)⟩
        have HPR : Hid (∀ W u, RatAt W u x1 → Calls Tryz.prog 31 #[u] W fun e w' => (∃ v', e = .returned v' ∧ TrmsAt w' v' (polT CP)) ∧ Kept W w') := Lib.hid fun W u hu => by
          rw [hCP]
          exact rconst_any u x1 W hu ⟨Nat.le_trans hrw.2.1 (by omega), Nat.le_trans hrw.2.2 (by omega)⟩
        have HTM : Hid (∀ W u1 u2, TrmsAt W u1 (polT CP) → TrmsAt W u2 (polT CP) → Calls Tryz.prog 20 #[u1, u2] W fun e w' => e = .returned (.bool true) ∧ Kept W w') := Lib.hid fun W u1 u2 k1 k2 => terms_true u1 u2 _ W k1 k2
        have HNU : Hid (∀ W, Calls Tryz.prog 19 #[errV Q0] W fun e w' => e = .returned (.int .i64 Q0) ∧ Kept W w') := Lib.hid fun W => (num_eq Q0 W (by have := HQL.out; omega)).mono fun _ _ ⟨h1, h2⟩ => ⟨h1, by rw [← h2]; exact Kept.refl _⟩
        have HST : ShT 34359738368 x0 := fun t ht => ⟨Nat.le_trans (hn.2 t ht).1 (by omega), Nat.le_trans (hn.2 t ht).2 (by omega)⟩
        have HERR : Hid (Q0 ≠ 0 →
            Hid (∀ W, Kept w W → Calls Tryz.prog 13 #[.slice none 0 0, .slice ta0 tl0 tc0] W fun e w' => e = .returned (.tuple #[.slice none 0 0, .iface 50 (.int .i64 Q0)]) ∧ Kept W w') ∧
            Hid (∀ W, Kept w W → Calls Tryz.prog 14 #[.slice ta0 tl0 tc0, .slice none 0 0] W fun e w' => e = .returned (.tuple #[.slice none 0 0, .iface 50 (.int .i64 Q0)]) ∧ Kept W w') ∧
            Hid (∀ W, Kept w W → Calls Tryz.prog 15 #[.slice ta0 tl0 tc0, .slice ta0 tl0 tc0] W fun e w' => e = .returned (.tuple #[.slice none 0 0, .iface 50 (.int .i64 Q0)]) ∧ Kept W w') ∧
            Hid (∀ W, Kept w W → Calls Tryz.prog 34 #[.slice ta0 tl0 tc0, .slice none 0 0] W fun e w' => e = .returned (.tuple #[.agg #[.bool false, .slice none 0 0, .slice none 0 0], .iface 50 (.int .i64 Q0)]) ∧ Kept W w') ∧
            Hid (∀ W, Kept w W → Calls Tryz.prog 22 #[.slice ta0 tl0 tc0, .int .i64 (-1)] W fun e w' => e = .returned (.tuple #[.agg #[.bool false, .slice none 0 0, .slice none 0 0], .iface 50 (.int .i64 Q0)]) ∧ Kept W w') ∧
            Hid (∀ W, Kept w W → Calls Tryz.prog 27 #[.slice ta0 tl0 tc0, .int .i64 (-1)] W fun e w' => e = .returned (.tuple #[.slice none 0 0, .iface 50 (.int .i64 Q0)]) ∧ Kept W w') ∧
            Hid (∀ W, Kept w W → Calls Tryz.prog 28 #[.slice ta0 tl0 tc0, .int .i64 (-1), .bool true] W fun e w' => e = .returned (.tuple #[.slice none 0 0, .iface 50 (.int .i64 Q0)]) ∧ Kept W w')) := Lib.hid fun hq => by
          have hC : chkT x0 ≠ 0 := by rw [← HQ0.out]; exact hq
          have hN : ShT 34359738368 [] := fun t ht => by cases ht
          have e0 : chkT [] = 0 := by decide +kernel
          have e1 : bothE [] x0 = Q0 := by unfold bothE; rw [if_pos e0, HQ0.out]
          have e2 : bothE x0 [] = Q0 := by unfold bothE; rw [if_neg hC, HQ0.out]
          have e3 : bothE x0 x0 = Q0 := by unfold bothE; rw [if_neg hC, HQ0.out]
          have e4 : givenE x0 (-1) = Q0 := by unfold givenE; rw [if_neg hC, HQ0.out]
          have eV := errV_pos hq
          refine ⟨Lib.hid fun W hk => ?_, Lib.hid fun W hk => ?_, Lib.hid fun W hk => ?_, Lib.hid fun W hk => ?_, Lib.hid fun W hk => ?_, Lib.hid fun W hk => ?_, Lib.hid fun W hk => ?_⟩
          · have h := padd_err _ _ [] x0 W (TrmsAt.nil W) (HPT.out W hk) hN HST (by rw [e1]; exact hq)
            rw [e1, eV] at h
            exact h
          · have h := psub_err _ _ x0 [] W (HPT.out W hk) (TrmsAt.nil W) HST hN (by rw [e2]; exact hq)
            rw [e2, eV] at h
            exact h
          · have h := pmul_err _ _ x0 x0 W (HPT.out W hk) (HPT.out W hk) HST HST (by rw [e3]; exact hq)
            rw [e3, eV] at h
            exact h
          · have h := peval_err _ x0 (.slice none 0 0) W (HPT.out W hk) HST hC
            rw [← HQ0.out, eV] at h
            exact h
          · have h := pvalue_err _ x0 (-1) W (HPT.out W hk) HST hC
            rw [← HQ0.out, eV] at h
            exact h
          · have h := pderive_err _ x0 (-1) W (HPT.out W hk) HST (by rw [e4]; exact hq)
            rw [e4, eV] at h
            exact h
          · have h := prestrict_err _ x0 (-1) true W (HPT.out W hk) HST (by rw [e4]; exact hq)
            rw [e4, eV] at h
            exact h
        clear hn hnl hrw hCP HST HRW HCK0 HCR0 HPS HQ0
        by_cases hx : x2 < 0 ∨ 24 ≤ x2
        · have HEV : Hid (∀ W, Calls Tryz.prog 29 #[.int .i64 x2] W fun e w' => e = .returned (.tuple #[.slice none 0 0, .iface 50 (.int .i64 10)]) ∧ Kept W w') := Lib.hid fun W => pevent_err x2 W hx
          have HIS : Hid (∀ W, Calls Tryz.prog 32 #[.iface 50 (.int .i64 10), .int .i64 10] W fun e w' => e = .returned (.bool true) ∧ W = w') := Lib.hid fun W => by
            have h := is_any 10 10 (by decide) W
            exact h
          by_cases hx0 : x2 < 0
          · have hxd : decide (x2 < 0) = true := decide_eq_true hx0
            go_wp2_with fail
            refine (HCR.out _ HK2.out).mono ?_
            rintro e w3 ⟨rfl, hk3⟩
            have HX3 := Lib.hid (HX2.out.kept hk3)
            have HK3 := Lib.hid (HK2.out.trans hk3)
            clear hk3 c0 c1 c2
            go_wp2_with fail
            refine (HEV.out _).mono ?_
            rintro e w5 ⟨rfl, hk5⟩
            have HX5 := Lib.hid (HX3.out.kept hk5)
            have HK5 := Lib.hid (HK3.out.trans hk5)
            clear hk5
            obtain ⟨c0, c1, c2⟩ := row3_at HX5.out
            have HCL0 : Hid ((fun W : World => W.cell? ⟨w.heap.size, 0, none⟩ = some (.bool NG) ∧ W.cell? ⟨w.heap.size, 1, none⟩ = some (.slice ra L1 rc) ∧ W.cell? ⟨w.heap.size, 2, none⟩ = some (.slice rb L2 rd)) w5) := Lib.hid ⟨c0, c1, c2⟩
            have HSK : Hid (∀ W W' : World, Kept W W' → (fun W : World => W.cell? ⟨w.heap.size, 0, none⟩ = some (.bool NG) ∧ W.cell? ⟨w.heap.size, 1, none⟩ = some (.slice ra L1 rc) ∧ W.cell? ⟨w.heap.size, 2, none⟩ = some (.slice rb L2 rd)) W → (fun W : World => W.cell? ⟨w.heap.size, 0, none⟩ = some (.bool NG) ∧ W.cell? ⟨w.heap.size, 1, none⟩ = some (.slice ra L1 rc) ∧ W.cell? ⟨w.heap.size, 2, none⟩ = some (.slice rb L2 rd)) W') := Lib.hid fun W W' hk ⟨p0, p1, p2⟩ => ⟨hk.cell p0, hk.cell p1, hk.cell p2⟩
            have HCLd := Lib.hid (HSK.out w5 w5.drew (Kept.refl _).drew HCL0.out)
            clear c0 c1 c2
            go_wp2_with fail
            go_region_held3 (fun W => W.cell? ⟨w.heap.size, 0, none⟩ = some (.bool NG) ∧ W.cell? ⟨w.heap.size, 1, none⟩ = some (.slice ra L1 rc) ∧ W.cell? ⟨w.heap.size, 2, none⟩ = some (.slice rb L2 rd))
              (with_reducible first | exact HCL10.out | exact HCL9.out | exact HCL8.out | exact HCL7.out | exact HCL6.out | exact HCLd.out | exact HCL0.out)
              (first
              | (go_at_call 21; (with_reducible refine (HCK.out _ (HK5.out.trans (Kept.refl w5).drew)).mono ?_); rintro e w6 ⟨rfl, hk⟩; have K6 := Lib.hid ((Kept.refl w5).drew.trans hk); have HCL6 := Lib.hid (HSK.out _ _ K6.out HCL0.out); clear hk)
              | (go_at_call 19; (with_reducible refine (HNU.out _).mono ?_); rintro e w7 ⟨rfl, hk⟩; have K7 := Lib.hid (K6.out.trans hk); have HCL7 := Lib.hid (HSK.out _ _ K7.out HCL0.out); clear hk)
              | (go_at_call 30; (with_reducible refine (HPC.out _ _ (HRT.out.kept (HK5.out.trans K7.out))).mono ?_); rintro e w8 ⟨⟨v8, rfl, hv8⟩, hk⟩; have K8 := Lib.hid (K7.out.trans hk); have HV8 := Lib.hid hv8; have HCL8 := Lib.hid (HSK.out _ _ K8.out HCL0.out); clear hk hv8)
              | (go_at_call 31; (with_reducible refine (HPR.out _ _ (HRT.out.kept (HK5.out.trans K8.out))).mono ?_); rintro e w9 ⟨⟨v9, rfl, hv9⟩, hk⟩; have K9 := Lib.hid (K8.out.trans hk); have HV9 := Lib.hid hv9; have HV8' := Lib.hid (HV8.out.kept hk); have HCL9 := Lib.hid (HSK.out _ _ K9.out HCL0.out); clear hk hv9)
              | (go_at_call 20; (with_reducible refine (HTM.out _ _ _ HV8'.out HV9.out).mono ?_); rintro e w10 ⟨rfl, hk⟩; have K10 := Lib.hid (K9.out.trans hk); have HCL10 := Lib.hid (HSK.out _ _ K10.out HCL0.out); clear hk)
              | fail)
            have HK10 := Lib.hid (HK5.out.trans K10.out)
            go_wp2_with fail
            refine (HIS.out _).mono ?_
            rintro e w12 ⟨rfl, hk12⟩
            have HK12 : Hid (Kept w w12) := Lib.hid (by rw [← hk12]; exact HK10.out)
            clear hk12
            by_cases hq : Q0 = 0
            · have hqi : ((Q0 : Int) == 0) = true := by rw [hq]; rfl
              go_wp2
              go_ret
              exact ⟨rfl, HK12.out⟩
            · have hqi : ((Q0 : Int) == 0) = false := by simp; omega
              have HER := Lib.hid (HERR.out hq)
              obtain ⟨HE1, HE2, HE3, HE4, HE5, HE6, HE7⟩ := HER.out
              go_wp2_with fail
              refine (HE1.out _ HK12.out).mono ?_
              rintro e w13 ⟨rfl, hk⟩
              have HK13 := Lib.hid (HK12.out.trans hk)
              clear hk
              go_wp2_with fail
              refine (HE2.out _ HK13.out).mono ?_
              rintro e w14 ⟨rfl, hk⟩
              have HK14 := Lib.hid (HK13.out.trans hk)
              clear hk
              go_wp2_with fail
              refine (HE3.out _ HK14.out).mono ?_
              rintro e w15 ⟨rfl, hk⟩
              have HK15 := Lib.hid (HK14.out.trans hk)
              clear hk
              go_wp2_with fail
              refine (HE4.out _ HK15.out).mono ?_
              rintro e w16 ⟨rfl, hk⟩
              have HK16 := Lib.hid (HK15.out.trans hk)
              clear hk
              obtain ⟨w16b, hw16b⟩ : ∃ W, W = w16.alloc (.cells #[.bool false, .slice none 0 0, .slice none 0 0] 38) := ⟨_, rfl⟩
              have HWB16 := Lib.hid hw16b
              replace HK16 : Hid (Kept w w16b) := Lib.hid (by rw [hw16b]; exact HK16.out.alloc _)
              clear hw16b
              go_wp2_with fail
              rw [← HWB16.out]
              refine (HE5.out _ HK16.out).mono ?_
              rintro e w17 ⟨rfl, hk⟩
              have HK17 := Lib.hid (HK16.out.trans hk)
              clear hk
              obtain ⟨w17b, hw17b⟩ : ∃ W, W = w17.alloc (.cells #[.bool false, .slice none 0 0, .slice none 0 0] 38) := ⟨_, rfl⟩
              have HWB17 := Lib.hid hw17b
              replace HK17 : Hid (Kept w w17b) := Lib.hid (by rw [hw17b]; exact HK17.out.alloc _)
              clear hw17b
              go_wp2_with fail
              rw [← HWB17.out]
              refine (HE6.out _ HK17.out).mono ?_
              rintro e w18 ⟨rfl, hk⟩
              have HK18 := Lib.hid (HK17.out.trans hk)
              clear hk
              go_wp2_with fail
              refine (HE7.out _ HK18.out).mono ?_
              rintro e w19 ⟨rfl, hk⟩
              have HK19 := Lib.hid (HK18.out.trans hk)
              clear hk
              obtain ⟨w20, hw20⟩ : ∃ W, W = w19.alloc (.cells #[.iface 50 (.int .i64 Q0), .iface 50 (.int .i64 Q0), .iface 50 (.int .i64 Q0), .iface 50 (.int .i64 Q0), .iface 50 (.int .i64 Q0), .iface 50 (.int .i64 Q0), .iface 50 (.int .i64 Q0)] 27) := ⟨_, rfl⟩
              have hrow : RowAt w20 w19.heap.size 27 [.iface 50 (.int .i64 Q0), .iface 50 (.int .i64 Q0), .iface 50 (.int .i64 Q0), .iface 50 (.int .i64 Q0), .iface 50 (.int .i64 Q0), .iface 50 (.int .i64 Q0), .iface 50 (.int .i64 Q0)] := by rw [hw20]; exact RowAt.made w19 #[.iface 50 (.int .i64 Q0), .iface 50 (.int .i64 Q0), .iface 50 (.int .i64 Q0), .iface 50 (.int .i64 Q0), .iface 50 (.int .i64 Q0), .iface 50 (.int .i64 Q0), .iface 50 (.int .i64 Q0)] 27
              have HCE : Hid (∀ j : Nat, j < 7 → w20.cell? ⟨w19.heap.size, j, none⟩ = some (.iface 50 (.int .i64 Q0))) := Lib.hid fun j hj => by
                match j, hj with
                | 0, _ => exact hrow.cell (i := 0) (by simp)
                | 1, _ => exact hrow.cell (i := 1) (by simp)
                | 2, _ => exact hrow.cell (i := 2) (by simp)
                | 3, _ => exact hrow.cell (i := 3) (by simp)
                | 4, _ => exact hrow.cell (i := 4) (by simp)
                | 5, _ => exact hrow.cell (i := 5) (by simp)
                | 6, _ => exact hrow.cell (i := 6) (by simp)
              have HK20 : Hid (Kept w w20) := Lib.hid (by rw [hw20]; exact HK19.out.alloc _)
              have HW20 := Lib.hid hw20
              have HNE : Hid (∀ W, Calls Tryz.prog 19 #[.iface 50 (.int .i64 Q0)] W fun e w' => e = .returned (.int .i64 Q0) ∧ Kept W w') := Lib.hid fun W => by
                have h := HNU.out W
                rw [errV_pos hq] at h
                exact h
              clear hrow hw20
              go_wp2_with fail
              rw [← HW20.out]
              go_loopg [136] 7 (fun kx sj wr => ∃ j : Nat, j ≤ 7 ∧ sj = .int .i64 j ∧ 7 - j ≤ kx ∧ Hid (Kept w20 wr))
              case atStart => exact ⟨0, Nat.zero_le _, rfl, by omega, Lib.hid (Kept.refl _)⟩
              case round =>
                obtain ⟨j, hj, rfl, hjx, HKr⟩ := hrel
                obtain ⟨wi, rfl⟩ : ∃ wi : World, wi = wr := ⟨_, rfl⟩
                by_cases hlt : j < 7
                · have hjn : (j : Int) < 7 := by omega
                  have hj0 : (0 : Int) ≤ (j : Int) := by omega
                  have hce := HKr.out.cell (HCE.out j hlt)
                  go_wp2_with fail
                  refine (HNE.out _).mono ?_
                  rintro e w21 ⟨rfl, hk21⟩
                  have HK21 := Lib.hid (HKr.out.trans hk21)
                  clear hk21 hce
                  go_wp2_with fail
                  go_roundg (7 - (j + 1))
                  case measure => omega
                  case rel => exact ⟨j + 1, by omega, by go_num, Nat.le_refl _, HK21⟩
                · have hjn : ¬ (j : Int) < 7 := by omega
                  go_wp2
                  go_ret
                  exact ⟨rfl, HK20.out.trans HKr.out⟩
          · have hxd : decide (x2 < 0) = false := decide_eq_false hx0
            have hx24 : 24 ≤ x2 := by omega
            go_wp2_with fail
            refine (HCR.out _ HK2.out).mono ?_
            rintro e w3 ⟨rfl, hk3⟩
            have HX3 := Lib.hid (HX2.out.kept hk3)
            have HK3 := Lib.hid (HK2.out.trans hk3)
            clear hk3 c0 c1 c2
            go_wp2_with fail
            refine (HEV.out _).mono ?_
            rintro e w5 ⟨rfl, hk5⟩
            have HX5 := Lib.hid (HX3.out.kept hk5)
            have HK5 := Lib.hid (HK3.out.trans hk5)
            clear hk5
            obtain ⟨c0, c1, c2⟩ := row3_at HX5.out
            have HCL0 : Hid ((fun W : World => W.cell? ⟨w.heap.size, 0, none⟩ = some (.bool NG) ∧ W.cell? ⟨w.heap.size, 1, none⟩ = some (.slice ra L1 rc) ∧ W.cell? ⟨w.heap.size, 2, none⟩ = some (.slice rb L2 rd)) w5) := Lib.hid ⟨c0, c1, c2⟩
            have HSK : Hid (∀ W W' : World, Kept W W' → (fun W : World => W.cell? ⟨w.heap.size, 0, none⟩ = some (.bool NG) ∧ W.cell? ⟨w.heap.size, 1, none⟩ = some (.slice ra L1 rc) ∧ W.cell? ⟨w.heap.size, 2, none⟩ = some (.slice rb L2 rd)) W → (fun W : World => W.cell? ⟨w.heap.size, 0, none⟩ = some (.bool NG) ∧ W.cell? ⟨w.heap.size, 1, none⟩ = some (.slice ra L1 rc) ∧ W.cell? ⟨w.heap.size, 2, none⟩ = some (.slice rb L2 rd)) W') := Lib.hid fun W W' hk ⟨p0, p1, p2⟩ => ⟨hk.cell p0, hk.cell p1, hk.cell p2⟩
            have HCLd := Lib.hid (HSK.out w5 w5.drew (Kept.refl _).drew HCL0.out)
            clear c0 c1 c2
            go_wp2_with fail
            go_region_held3 (fun W => W.cell? ⟨w.heap.size, 0, none⟩ = some (.bool NG) ∧ W.cell? ⟨w.heap.size, 1, none⟩ = some (.slice ra L1 rc) ∧ W.cell? ⟨w.heap.size, 2, none⟩ = some (.slice rb L2 rd))
              (with_reducible first | exact HCL10.out | exact HCL9.out | exact HCL8.out | exact HCL7.out | exact HCL6.out | exact HCLd.out | exact HCL0.out)
              (first
              | (go_at_call 21; (with_reducible refine (HCK.out _ (HK5.out.trans (Kept.refl w5).drew)).mono ?_); rintro e w6 ⟨rfl, hk⟩; have K6 := Lib.hid ((Kept.refl w5).drew.trans hk); have HCL6 := Lib.hid (HSK.out _ _ K6.out HCL0.out); clear hk)
              | (go_at_call 19; (with_reducible refine (HNU.out _).mono ?_); rintro e w7 ⟨rfl, hk⟩; have K7 := Lib.hid (K6.out.trans hk); have HCL7 := Lib.hid (HSK.out _ _ K7.out HCL0.out); clear hk)
              | (go_at_call 30; (with_reducible refine (HPC.out _ _ (HRT.out.kept (HK5.out.trans K7.out))).mono ?_); rintro e w8 ⟨⟨v8, rfl, hv8⟩, hk⟩; have K8 := Lib.hid (K7.out.trans hk); have HV8 := Lib.hid hv8; have HCL8 := Lib.hid (HSK.out _ _ K8.out HCL0.out); clear hk hv8)
              | (go_at_call 31; (with_reducible refine (HPR.out _ _ (HRT.out.kept (HK5.out.trans K8.out))).mono ?_); rintro e w9 ⟨⟨v9, rfl, hv9⟩, hk⟩; have K9 := Lib.hid (K8.out.trans hk); have HV9 := Lib.hid hv9; have HV8' := Lib.hid (HV8.out.kept hk); have HCL9 := Lib.hid (HSK.out _ _ K9.out HCL0.out); clear hk hv9)
              | (go_at_call 20; (with_reducible refine (HTM.out _ _ _ HV8'.out HV9.out).mono ?_); rintro e w10 ⟨rfl, hk⟩; have K10 := Lib.hid (K9.out.trans hk); have HCL10 := Lib.hid (HSK.out _ _ K10.out HCL0.out); clear hk)
              | fail)
            have HK10 := Lib.hid (HK5.out.trans K10.out)
            go_wp2_with fail
            refine (HIS.out _).mono ?_
            rintro e w12 ⟨rfl, hk12⟩
            have HK12 : Hid (Kept w w12) := Lib.hid (by rw [← hk12]; exact HK10.out)
            clear hk12
            by_cases hq : Q0 = 0
            · have hqi : ((Q0 : Int) == 0) = true := by rw [hq]; rfl
              go_wp2
              go_ret
              exact ⟨rfl, HK12.out⟩
            · have hqi : ((Q0 : Int) == 0) = false := by simp; omega
              have HER := Lib.hid (HERR.out hq)
              obtain ⟨HE1, HE2, HE3, HE4, HE5, HE6, HE7⟩ := HER.out
              go_wp2_with fail
              refine (HE1.out _ HK12.out).mono ?_
              rintro e w13 ⟨rfl, hk⟩
              have HK13 := Lib.hid (HK12.out.trans hk)
              clear hk
              go_wp2_with fail
              refine (HE2.out _ HK13.out).mono ?_
              rintro e w14 ⟨rfl, hk⟩
              have HK14 := Lib.hid (HK13.out.trans hk)
              clear hk
              go_wp2_with fail
              refine (HE3.out _ HK14.out).mono ?_
              rintro e w15 ⟨rfl, hk⟩
              have HK15 := Lib.hid (HK14.out.trans hk)
              clear hk
              go_wp2_with fail
              refine (HE4.out _ HK15.out).mono ?_
              rintro e w16 ⟨rfl, hk⟩
              have HK16 := Lib.hid (HK15.out.trans hk)
              clear hk
              obtain ⟨w16b, hw16b⟩ : ∃ W, W = w16.alloc (.cells #[.bool false, .slice none 0 0, .slice none 0 0] 38) := ⟨_, rfl⟩
              have HWB16 := Lib.hid hw16b
              replace HK16 : Hid (Kept w w16b) := Lib.hid (by rw [hw16b]; exact HK16.out.alloc _)
              clear hw16b
              go_wp2_with fail
              rw [← HWB16.out]
              refine (HE5.out _ HK16.out).mono ?_
              rintro e w17 ⟨rfl, hk⟩
              have HK17 := Lib.hid (HK16.out.trans hk)
              clear hk
              obtain ⟨w17b, hw17b⟩ : ∃ W, W = w17.alloc (.cells #[.bool false, .slice none 0 0, .slice none 0 0] 38) := ⟨_, rfl⟩
              have HWB17 := Lib.hid hw17b
              replace HK17 : Hid (Kept w w17b) := Lib.hid (by rw [hw17b]; exact HK17.out.alloc _)
              clear hw17b
              go_wp2_with fail
              rw [← HWB17.out]
              refine (HE6.out _ HK17.out).mono ?_
              rintro e w18 ⟨rfl, hk⟩
              have HK18 := Lib.hid (HK17.out.trans hk)
              clear hk
              go_wp2_with fail
              refine (HE7.out _ HK18.out).mono ?_
              rintro e w19 ⟨rfl, hk⟩
              have HK19 := Lib.hid (HK18.out.trans hk)
              clear hk
              obtain ⟨w20, hw20⟩ : ∃ W, W = w19.alloc (.cells #[.iface 50 (.int .i64 Q0), .iface 50 (.int .i64 Q0), .iface 50 (.int .i64 Q0), .iface 50 (.int .i64 Q0), .iface 50 (.int .i64 Q0), .iface 50 (.int .i64 Q0), .iface 50 (.int .i64 Q0)] 27) := ⟨_, rfl⟩
              have hrow : RowAt w20 w19.heap.size 27 [.iface 50 (.int .i64 Q0), .iface 50 (.int .i64 Q0), .iface 50 (.int .i64 Q0), .iface 50 (.int .i64 Q0), .iface 50 (.int .i64 Q0), .iface 50 (.int .i64 Q0), .iface 50 (.int .i64 Q0)] := by rw [hw20]; exact RowAt.made w19 #[.iface 50 (.int .i64 Q0), .iface 50 (.int .i64 Q0), .iface 50 (.int .i64 Q0), .iface 50 (.int .i64 Q0), .iface 50 (.int .i64 Q0), .iface 50 (.int .i64 Q0), .iface 50 (.int .i64 Q0)] 27
              have HCE : Hid (∀ j : Nat, j < 7 → w20.cell? ⟨w19.heap.size, j, none⟩ = some (.iface 50 (.int .i64 Q0))) := Lib.hid fun j hj => by
                match j, hj with
                | 0, _ => exact hrow.cell (i := 0) (by simp)
                | 1, _ => exact hrow.cell (i := 1) (by simp)
                | 2, _ => exact hrow.cell (i := 2) (by simp)
                | 3, _ => exact hrow.cell (i := 3) (by simp)
                | 4, _ => exact hrow.cell (i := 4) (by simp)
                | 5, _ => exact hrow.cell (i := 5) (by simp)
                | 6, _ => exact hrow.cell (i := 6) (by simp)
              have HK20 : Hid (Kept w w20) := Lib.hid (by rw [hw20]; exact HK19.out.alloc _)
              have HW20 := Lib.hid hw20
              have HNE : Hid (∀ W, Calls Tryz.prog 19 #[.iface 50 (.int .i64 Q0)] W fun e w' => e = .returned (.int .i64 Q0) ∧ Kept W w') := Lib.hid fun W => by
                have h := HNU.out W
                rw [errV_pos hq] at h
                exact h
              clear hrow hw20
              go_wp2_with fail
              rw [← HW20.out]
              go_loopg [136] 7 (fun kx sj wr => ∃ j : Nat, j ≤ 7 ∧ sj = .int .i64 j ∧ 7 - j ≤ kx ∧ Hid (Kept w20 wr))
              case atStart => exact ⟨0, Nat.zero_le _, rfl, by omega, Lib.hid (Kept.refl _)⟩
              case round =>
                obtain ⟨j, hj, rfl, hjx, HKr⟩ := hrel
                obtain ⟨wi, rfl⟩ : ∃ wi : World, wi = wr := ⟨_, rfl⟩
                by_cases hlt : j < 7
                · have hjn : (j : Int) < 7 := by omega
                  have hj0 : (0 : Int) ≤ (j : Int) := by omega
                  have hce := HKr.out.cell (HCE.out j hlt)
                  go_wp2_with fail
                  refine (HNE.out _).mono ?_
                  rintro e w21 ⟨rfl, hk21⟩
                  have HK21 := Lib.hid (HKr.out.trans hk21)
                  clear hk21 hce
                  go_wp2_with fail
                  go_roundg (7 - (j + 1))
                  case measure => omega
                  case rel => exact ⟨j + 1, by omega, by go_num, Nat.le_refl _, HK21⟩
                · have hjn : ¬ (j : Int) < 7 := by omega
                  go_wp2
                  go_ret
                  exact ⟨rfl, HK20.out.trans HKr.out⟩
        · obtain ⟨i, rfl⟩ : ∃ i : Nat, x2 = i := ⟨x2.toNat, by omega⟩
          have hi : i < 24 := by omega
          have hx0 : ¬ (i : Int) < 0 := by omega
          have hx24 : ¬ (24 : Int) ≤ (i : Int) := by omega
          have HEV : Hid (∀ W, Calls Tryz.prog 29 #[.int .i64 i] W fun e w' => (∃ v', e = .returned (.tuple #[v', .nilIface]) ∧ TrmsAt w' v' (polT (eventP i))) ∧ Kept W w') := Lib.hid fun W => pevent_any i W hi
          have HRE : Hid (∀ W, Calls Tryz.prog 33 #[.int .i64 i] W fun e w' => (∃ v', e = .returned v' ∧ TrmsAt w' v' (polT (eventP i))) ∧ Kept W w') := Lib.hid fun W => revent_any i W hi
          have HTE : Hid (∀ W u1 u2, TrmsAt W u1 (polT (eventP i)) → TrmsAt W u2 (polT (eventP i)) → Calls Tryz.prog 20 #[u1, u2] W fun e w' => e = .returned (.bool true) ∧ Kept W w') := Lib.hid fun W u1 u2 k1 k2 => terms_true u1 u2 _ W k1 k2
          clear hi hx
          go_wp2_with fail
          refine (HCR.out _ HK2.out).mono ?_
          rintro e w3 ⟨rfl, hk3⟩
          have HX3 := Lib.hid (HX2.out.kept hk3)
          have HK3 := Lib.hid (HK2.out.trans hk3)
          clear hk3 c0 c1 c2
          go_wp2_with fail
          refine (HEV.out _).mono ?_
          rintro e w5 ⟨⟨v5, rfl, hv5⟩, hk5⟩
          obtain ⟨ea, el, ec, rfl⟩ := hv5.slc
          have HVE := Lib.hid hv5
          have HX5 := Lib.hid (HX3.out.kept hk5)
          have HK5 := Lib.hid (HK3.out.trans hk5)
          clear hk5 hv5
          obtain ⟨c0, c1, c2⟩ := row3_at HX5.out
          have HCL0 : Hid ((fun W : World => W.cell? ⟨w.heap.size, 0, none⟩ = some (.bool NG) ∧ W.cell? ⟨w.heap.size, 1, none⟩ = some (.slice ra L1 rc) ∧ W.cell? ⟨w.heap.size, 2, none⟩ = some (.slice rb L2 rd)) w5) := Lib.hid ⟨c0, c1, c2⟩
          have HSK : Hid (∀ W W' : World, Kept W W' → (fun W : World => W.cell? ⟨w.heap.size, 0, none⟩ = some (.bool NG) ∧ W.cell? ⟨w.heap.size, 1, none⟩ = some (.slice ra L1 rc) ∧ W.cell? ⟨w.heap.size, 2, none⟩ = some (.slice rb L2 rd)) W → (fun W : World => W.cell? ⟨w.heap.size, 0, none⟩ = some (.bool NG) ∧ W.cell? ⟨w.heap.size, 1, none⟩ = some (.slice ra L1 rc) ∧ W.cell? ⟨w.heap.size, 2, none⟩ = some (.slice rb L2 rd)) W') := Lib.hid fun W W' hk ⟨p0, p1, p2⟩ => ⟨hk.cell p0, hk.cell p1, hk.cell p2⟩
          have HCLd := Lib.hid (HSK.out w5 w5.drew (Kept.refl _).drew HCL0.out)
          clear c0 c1 c2
          go_wp2_with fail
          go_region_held3 (fun W => W.cell? ⟨w.heap.size, 0, none⟩ = some (.bool NG) ∧ W.cell? ⟨w.heap.size, 1, none⟩ = some (.slice ra L1 rc) ∧ W.cell? ⟨w.heap.size, 2, none⟩ = some (.slice rb L2 rd))
            (with_reducible first | exact HCL10.out | exact HCL9.out | exact HCL8.out | exact HCL7.out | exact HCL6.out | exact HCLd.out | exact HCL0.out)
            (first
            | (go_at_call 21; (with_reducible refine (HCK.out _ (HK5.out.trans (Kept.refl w5).drew)).mono ?_); rintro e w6 ⟨rfl, hk⟩; have K6 := Lib.hid ((Kept.refl w5).drew.trans hk); have HCL6 := Lib.hid (HSK.out _ _ K6.out HCL0.out); clear hk)
            | (go_at_call 19; (with_reducible refine (HNU.out _).mono ?_); rintro e w7 ⟨rfl, hk⟩; have K7 := Lib.hid (K6.out.trans hk); have HCL7 := Lib.hid (HSK.out _ _ K7.out HCL0.out); clear hk)
            | (go_at_call 30; (with_reducible refine (HPC.out _ _ (HRT.out.kept (HK5.out.trans K7.out))).mono ?_); rintro e w8 ⟨⟨v8, rfl, hv8⟩, hk⟩; have K8 := Lib.hid (K7.out.trans hk); have HV8 := Lib.hid hv8; have HCL8 := Lib.hid (HSK.out _ _ K8.out HCL0.out); clear hk hv8)
            | (go_at_call 31; (with_reducible refine (HPR.out _ _ (HRT.out.kept (HK5.out.trans K8.out))).mono ?_); rintro e w9 ⟨⟨v9, rfl, hv9⟩, hk⟩; have K9 := Lib.hid (K8.out.trans hk); have HV9 := Lib.hid hv9; have HV8' := Lib.hid (HV8.out.kept hk); have HCL9 := Lib.hid (HSK.out _ _ K9.out HCL0.out); clear hk hv9)
            | (go_at_call 20; (with_reducible refine (HTM.out _ _ _ HV8'.out HV9.out).mono ?_); rintro e w10 ⟨rfl, hk⟩; have K10 := Lib.hid (K9.out.trans hk); have HCL10 := Lib.hid (HSK.out _ _ K10.out HCL0.out); clear hk)
            | fail)
          have HK10 := Lib.hid (HK5.out.trans K10.out)
          have HVE10 := Lib.hid (HVE.out.kept K10.out)
          go_wp2_with fail
          refine (HRE.out _).mono ?_
          rintro e w11 ⟨⟨v11, rfl, hv11⟩, hk11⟩
          have HVE11 := Lib.hid (HVE10.out.kept hk11)
          have HV11 := Lib.hid hv11
          have HK11 := Lib.hid (HK10.out.trans hk11)
          clear hk11 hv11
          go_wp2_with fail
          refine (HTE.out _ _ _ HVE11.out HV11.out).mono ?_
          rintro e w12 ⟨rfl, hk12⟩
          have HK12 := Lib.hid (HK11.out.trans hk12)
          clear hk12
          by_cases hq : Q0 = 0
          · have hqi : ((Q0 : Int) == 0) = true := by rw [hq]; rfl
            go_wp2
            go_ret
            exact ⟨rfl, HK12.out⟩
          · have hqi : ((Q0 : Int) == 0) = false := by simp; omega
            have HER := Lib.hid (HERR.out hq)
            obtain ⟨HE1, HE2, HE3, HE4, HE5, HE6, HE7⟩ := HER.out
            go_wp2_with fail
            refine (HE1.out _ HK12.out).mono ?_
            rintro e w13 ⟨rfl, hk⟩
            have HK13 := Lib.hid (HK12.out.trans hk)
            clear hk
            go_wp2_with fail
            refine (HE2.out _ HK13.out).mono ?_
            rintro e w14 ⟨rfl, hk⟩
            have HK14 := Lib.hid (HK13.out.trans hk)
            clear hk
            go_wp2_with fail
            refine (HE3.out _ HK14.out).mono ?_
            rintro e w15 ⟨rfl, hk⟩
            have HK15 := Lib.hid (HK14.out.trans hk)
            clear hk
            go_wp2_with fail
            refine (HE4.out _ HK15.out).mono ?_
            rintro e w16 ⟨rfl, hk⟩
            have HK16 := Lib.hid (HK15.out.trans hk)
            clear hk
            obtain ⟨w16b, hw16b⟩ : ∃ W, W = w16.alloc (.cells #[.bool false, .slice none 0 0, .slice none 0 0] 38) := ⟨_, rfl⟩
            have HWB16 := Lib.hid hw16b
            replace HK16 : Hid (Kept w w16b) := Lib.hid (by rw [hw16b]; exact HK16.out.alloc _)
            clear hw16b
            go_wp2_with fail
            rw [← HWB16.out]
            refine (HE5.out _ HK16.out).mono ?_
            rintro e w17 ⟨rfl, hk⟩
            have HK17 := Lib.hid (HK16.out.trans hk)
            clear hk
            obtain ⟨w17b, hw17b⟩ : ∃ W, W = w17.alloc (.cells #[.bool false, .slice none 0 0, .slice none 0 0] 38) := ⟨_, rfl⟩
            have HWB17 := Lib.hid hw17b
            replace HK17 : Hid (Kept w w17b) := Lib.hid (by rw [hw17b]; exact HK17.out.alloc _)
            clear hw17b
            go_wp2_with fail
            rw [← HWB17.out]
            refine (HE6.out _ HK17.out).mono ?_
            rintro e w18 ⟨rfl, hk⟩
            have HK18 := Lib.hid (HK17.out.trans hk)
            clear hk
            go_wp2_with fail
            refine (HE7.out _ HK18.out).mono ?_
            rintro e w19 ⟨rfl, hk⟩
            have HK19 := Lib.hid (HK18.out.trans hk)
            clear hk
            obtain ⟨w20, hw20⟩ : ∃ W, W = w19.alloc (.cells #[.iface 50 (.int .i64 Q0), .iface 50 (.int .i64 Q0), .iface 50 (.int .i64 Q0), .iface 50 (.int .i64 Q0), .iface 50 (.int .i64 Q0), .iface 50 (.int .i64 Q0), .iface 50 (.int .i64 Q0)] 27) := ⟨_, rfl⟩
            have hrow : RowAt w20 w19.heap.size 27 [.iface 50 (.int .i64 Q0), .iface 50 (.int .i64 Q0), .iface 50 (.int .i64 Q0), .iface 50 (.int .i64 Q0), .iface 50 (.int .i64 Q0), .iface 50 (.int .i64 Q0), .iface 50 (.int .i64 Q0)] := by rw [hw20]; exact RowAt.made w19 #[.iface 50 (.int .i64 Q0), .iface 50 (.int .i64 Q0), .iface 50 (.int .i64 Q0), .iface 50 (.int .i64 Q0), .iface 50 (.int .i64 Q0), .iface 50 (.int .i64 Q0), .iface 50 (.int .i64 Q0)] 27
            have HCE : Hid (∀ j : Nat, j < 7 → w20.cell? ⟨w19.heap.size, j, none⟩ = some (.iface 50 (.int .i64 Q0))) := Lib.hid fun j hj => by
              match j, hj with
              | 0, _ => exact hrow.cell (i := 0) (by simp)
              | 1, _ => exact hrow.cell (i := 1) (by simp)
              | 2, _ => exact hrow.cell (i := 2) (by simp)
              | 3, _ => exact hrow.cell (i := 3) (by simp)
              | 4, _ => exact hrow.cell (i := 4) (by simp)
              | 5, _ => exact hrow.cell (i := 5) (by simp)
              | 6, _ => exact hrow.cell (i := 6) (by simp)
            have HK20 : Hid (Kept w w20) := Lib.hid (by rw [hw20]; exact HK19.out.alloc _)
            have HW20 := Lib.hid hw20
            have HNE : Hid (∀ W, Calls Tryz.prog 19 #[.iface 50 (.int .i64 Q0)] W fun e w' => e = .returned (.int .i64 Q0) ∧ Kept W w') := Lib.hid fun W => by
              have h := HNU.out W
              rw [errV_pos hq] at h
              exact h
            clear hrow hw20
            go_wp2_with fail
            rw [← HW20.out]
            go_loopg [136] 7 (fun kx sj wr => ∃ j : Nat, j ≤ 7 ∧ sj = .int .i64 j ∧ 7 - j ≤ kx ∧ Hid (Kept w20 wr))
            case atStart => exact ⟨0, Nat.zero_le _, rfl, by omega, Lib.hid (Kept.refl _)⟩
            case round =>
              obtain ⟨j, hj, rfl, hjx, HKr⟩ := hrel
              obtain ⟨wi, rfl⟩ : ∃ wi : World, wi = wr := ⟨_, rfl⟩
              by_cases hlt : j < 7
              · have hjn : (j : Int) < 7 := by omega
                have hj0 : (0 : Int) ≤ (j : Int) := by omega
                have hce := HKr.out.cell (HCE.out j hlt)
                go_wp2_with fail
                refine (HNE.out _).mono ?_
                rintro e w21 ⟨rfl, hk21⟩
                have HK21 := Lib.hid (HKr.out.trans hk21)
                clear hk21 hce
                go_wp2_with fail
                go_roundg (7 - (j + 1))
                case measure => omega
                case rel => exact ⟨j + 1, by omega, by go_num, Nat.le_refl _, HK21⟩
              · have hjn : ¬ (j : Int) < 7 := by omega
                go_wp2
                go_ret
                exact ⟨rfl, HK20.out.trans HKr.out⟩
end Go.Proofs.YtpaedhlacbpmpaaGreatDoor
