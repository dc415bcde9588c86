import Derived.Test.YtpaedhlacbpmpaaGreatDoorPX1
import Derived.Test.YtpaedhlacbpmpaaGreatDoorPX2
import Derived.Test.YtpaedhlacbpmpaaGreatDoorPX3
import Derived.Test.YtpaedhlacbpmpaaGreatDoorPX4
import Derived.Test.YtpaedhlacbpmpaaGreatDoorPX5
import Derived.Test.YtpaedhlacbpmpaaGreatDoorPX6
import Derived.Test.YtpaedhlacbpmpaaGreatDoorPX7
import Derived.Test.YtpaedhlacbpmpaaGreatDoorPX8
/-
  Walk: the law PolynomialTrue returns true, whatever the formula and the state. Printed by gen_PH.py.
-/
namespace Go.Proofs.YtpaedhlacbpmpaaGreatDoor
open Go.RowKit

set_option maxRecDepth 100000 in
set_option maxHeartbeats 16000000 in
theorem ptrue_true (u0 : Value) (f : Fm) (x2 : Int) (w : World) (hv : NodesAt w u0 f.nodes) (hfo : FmOk f) (g2 : (Lit.int .u16 x2).wf = true) :
    Calls Tryz.prog 9 #[fmV u0 f, .int .u16 x2] w fun e w' => e = .returned (.bool true) ∧ Kept w w' := by
  have HA : Hid (∀ W, Calls Tryz.prog 10 #[] W fun e w' => e = .returned (.bool true) ∧ Kept W w') := Lib.hid fun W => awake20_ok W
  obtain ⟨i, rfl, hi⟩ : ∃ i : Nat, x2 = i ∧ i < 65536 := by
    simp [Lit.wf, IntKind.min, IntKind.max, IntKind.signed, IntKind.bits] at g2
    exact ⟨x2.toNat, by omega, by omega⟩
  have ht : f.top ≤ 9223372036854775807 := hfo.2.1.2
  have hh : ∀ W, Kept w W → Calls Tryz.prog 41 #[fmV u0 f] W fun e w' => BoolE e ∧ Kept W w' := fun W hk => heavy20_any u0 f W (hv.kept hk)
  have hc : ∀ W, Kept w W → Calls Tryz.prog 42 #[fmV u0 f] W fun e w' => e = .returned (errV (chkF f)) ∧ Kept W w' := fun W hk => check_any u0 f W (hv.kept hk) ht
  have HOFF := Lib.hid fun V T (hok : Ok f V T) (hck : chkF f = 0) W (hk : Kept w W) => pof_ok u0 f V T W (hv.kept hk) hok hck
  have HVL := Lib.hid fun V T (hok : Ok f V T) (hck : chkF f = 0) s (hs : s < 2 ^ V) W (hk : Kept w W) => value_any u0 f V T s W (hv.kept hk) hok hck hs
  have hs : ∃ a n c, u0 = .slice a n c := by obtain ⟨a, c, h, _⟩ := hv; exact ⟨a, _, c, h⟩
  have HOK := Lib.hid fun (h : chkF f = 0) => ok_of f h
  obtain ⟨q, hq⟩ : ∃ q, q = chkF f := ⟨_, rfl⟩
  rw [← hq] at hc HOK HOFF HVL
  obtain ⟨a, n, c, rfl⟩ := hs
  obtain ⟨fs, hfs⟩ : ∃ fs, fs = f := ⟨_, rfl⟩
  have HFS := Lib.hid hfs
  clear hfs
  obtain ⟨vars, nodes, top⟩ := f
  have HH : Hid (∀ W, Kept w W → Calls Tryz.prog 41 #[.agg #[.int .i64 vars, .slice a n c, .int .i64 top]] W fun e w' => BoolE e ∧ Kept W w') := Lib.hid hh
  have HC : Hid (∀ W, Kept w W → Calls Tryz.prog 42 #[.agg #[.int .i64 vars, .slice a n c, .int .i64 top]] W fun e w' => e = .returned (errV q) ∧ Kept W w') := Lib.hid hc
  show Calls _ _ #[.agg #[.int .i64 vars, .slice a n c, .int .i64 top], .int .u16 i] _ _
  obtain ⟨w0, hw0⟩ : ∃ w0, w0 = w.alloc (.cells #[.int .i64 vars, .slice a n c, .int .i64 top] 67) := ⟨_, rfl⟩
  have HX0 : Hid (RowAt w0 w.heap.size 67 [.int .i64 vars, .slice a n c, .int .i64 top]) := Lib.hid (by rw [hw0]; exact RowAt.made w #[.int .i64 vars, .slice a n c, .int .i64 top] 67)
  have HK0 : Hid (Kept w w0) := Lib.hid (by rw [hw0]; exact (Kept.refl _).alloc _)
  have HW0 := Lib.hid hw0
  clear hv hh hc hq ht hfo hw0 g2
  go_enter Tryz.func9, Tryz.ntmps9
  go_wp2_with fail
  rw [← HW0.out]
  refine (HA.out _).mono ?_
  rintro e w1 ⟨rfl, hk1⟩
  have HX1 := Lib.hid (HX0.out.kept hk1)
  have HK1 := Lib.hid (HK0.out.trans hk1)
  obtain ⟨c0, c1, c2⟩ := row3_at HX1.out
  clear hk1
  go_wp2_with fail
  refine (HH.out _ HK1.out).mono ?_
  rintro e w2 ⟨⟨b, rfl⟩, hk2⟩
  have HX2 := Lib.hid (HX1.out.kept hk2)
  have HK2 := Lib.hid (HK1.out.trans hk2)
  clear hk2 c0 c1 c2
  cases b with
  | true =>
    go_wp2_with fail
    refine (HA.out _).mono ?_
    rintro e wz ⟨rfl, hkz⟩
    go_wp2
    go_ret
    exact ⟨rfl, HK2.out.trans hkz⟩
  | false =>
    obtain ⟨c0, c1, c2⟩ := row3_at HX2.out
    by_cases hq0 : q = 0
    · subst hq0
      rw [errV_zero] at HC
      obtain ⟨V, T, hok⟩ := HOK.out rfl
      have HOV := Lib.hid (HOFF.out V T hok rfl)
      have HVA := Lib.hid (HVL.out V T hok rfl)
      have HTV := Lib.hid fun r => topP_v (r := r) hok
      have e1 : vars = (V : Int) := hok.vars
      have e2 : top = (T : Int) := hok.top
      have hV24 := hok.v24
      subst e1 e2
      have HOK2 := Lib.hid hok
      clear hok
      go_wp2_with fail
      refine (HC.out _ HK2.out).mono ?_
      rintro e w4 ⟨rfl, hk4⟩
      have HX4 := Lib.hid (HX2.out.kept hk4)
      have HK4 := Lib.hid (HK2.out.trans hk4)
      clear c0 c1 c2 hk4
      obtain ⟨c0, c1, c2⟩ := row3_at HX4.out
      have hv0 : decide ((V : Int) < 0) = false := decide_eq_false (by omega)
      by_cases hV8 : V ≤ 8
      · have hv8 : decide ((8 : Int) < (V : Int)) = false := decide_eq_false (by omega)
        obtain ⟨R, hR⟩ : ∃ R, R = topP V T nodes := ⟨_, rfl⟩
        have HRV : Hid (∀ r, R = some r → PolV r (fun s => (valsK V s nodes).getD T false)) := Lib.hid fun r hr => HTV.out r (by rw [hR] at hr; exact hr)
        have HOR : Hid (∀ W, Kept w W → Calls Tryz.prog 44 #[.agg #[.int .i64 V, .slice a n c, .int .i64 T]] W fun e w' => TRes w' e R ∧ Kept W w') := Lib.hid fun W h => by rw [hR]; exact HOV.out W h
        clear hR HTV HOV
        cases R with
        | none =>
          have h4 : Hid (∀ W, Calls Tryz.prog 32 #[.iface 50 (.int .i64 4), .int .i64 4] W fun e w' => e = .returned (.bool true) ∧ W = w') := Lib.hid fun W => by
            have h := is_any 4 4 (by decide) W
            exact h
          go_wp2_with fail
          refine (HOR.out _ HK4.out).mono ?_
          rintro e w5 ⟨he, hk5⟩
          have HK5 := Lib.hid (HK4.out.trans hk5)
          have he : e = .returned (.tuple #[.slice none 0 0, .iface 50 (.int .i64 4)]) := he
          subst he
          clear c0 c1 c2 hk5
          go_wp2_with fail
          refine (h4.out _).mono ?_
          rintro e w6 ⟨rfl, rfl⟩
          go_wp2
          go_ret
          exact ⟨rfl, HK5.out⟩
        | some r =>
          have hpv := HRV.out r rfl
          obtain ⟨M, hM⟩ : ∃ M, M = 2 ^ V := ⟨_, rfl⟩
          have hM1 : 0 < M := by rw [hM]; exact Nat.two_pow_pos V
          have hM256 : M ≤ 256 := by rw [hM]; exact Nat.pow_le_pow_right (by decide) hV8
          have hsh : wrap64 ((2 : Int) ^ V) = (M : Int) := by rw [hM]; exact shlW V (by omega)
          obtain ⟨k, hk⟩ : ∃ k, k = i % M := ⟨_, rfl⟩
          have hkM : k < M := by rw [hk]; exact Nat.mod_lt _ hM1
          have hmod : (i : Int) % (M : Int) = (k : Int) := by rw [hk]; simp
          have hmod2 : (i : Int).tmod (M : Int) = (k : Int) := by rw [Int.tmod_eq_emod_of_nonneg (by omega)]; exact hmod
          have hM0 : ((M : Int) == 0) = false := by simp; omega
          have hM00 : ¬ (M : Int) = 0 := by omega
          obtain ⟨B, hB⟩ : ∃ B, B = (valsK V k nodes).getD T false := ⟨_, rfl⟩
          have HFV : Hid (∀ W, Kept w W → Calls Tryz.prog 45 #[.agg #[.int .i64 V, .slice a n c, .int .i64 T], .int .i64 k] W fun e w' => e = .returned (.tuple #[.bool B, .nilIface]) ∧ Kept W w') := Lib.hid fun W h => by
            rw [hB]
            exact HVA.out k (by rw [← hM]; exact hkM) W h
          have HPV : Hid (∀ W u, TrmsAt W u (polT r) → Calls Tryz.prog 22 #[u, .int .i64 k] W fun e w' => (∃ v', e = .returned (.tuple #[v', .nilIface]) ∧ RatAt w' v' (canR (ind B))) ∧ Kept W w') := Lib.hid fun W u hu => by
            have h1 := pvalue_any u r k W hu hpv.acc (hpv.sh.mono (by omega)) (by omega)
            rw [hpv.val, ← hB] at h1
            exact h1
          have HPC : Hid (∀ W u, TrmsAt W u (polT r) → Calls Tryz.prog 21 #[u] W fun e w' => e = .returned .nilIface ∧ Kept W w') := Lib.hid fun W u hu => by
            have h1 := pcheck20_any u (polT r) W hu (hpv.sh.mono (by omega)).t
            rw [chkT_pol hpv.acc, errV_zero] at h1
            exact h1
          have HCM : Hid (∀ W u1 u2, RatAt W u1 (canR (ind B)) → RatAt W u2 (canR (ind B)) → Calls Tryz.prog 23 #[u1, u2] W fun e w' => e = .returned (.int .i64 0) ∧ Kept W w') := Lib.hid fun W u1 u2 k1 k2 => by
            have z : (canR (ind B)).Short 1 := by cases B <;> exact ⟨by decide +kernel, by decide +kernel⟩
            have h1 := rcmp_any u1 u2 _ _ W k1 k2 ⟨Nat.le_trans z.1 (by omega), Nat.le_trans z.2 (by omega)⟩ ⟨Nat.le_trans z.1 (by omega), Nat.le_trans z.2 (by omega)⟩
            rw [Rat.sub_self] at h1
            exact h1
          have HO1 : Hid (B = true → ∀ W, Calls Tryz.prog 46 #[.int .i64 1] W fun e w' => (∃ v', e = .returned v' ∧ RatAt w' v' (canR (ind B))) ∧ Kept W w') := Lib.hid fun hb W => by
            rw [hb]
            exact rof_any 1 W (by omega) (by omega)
          have HO0 : Hid (B = false → ∀ W, Calls Tryz.prog 46 #[.int .i64 0] W fun e w' => (∃ v', e = .returned v' ∧ RatAt w' v' (canR (ind B))) ∧ Kept W w') := Lib.hid fun hb W => by
            rw [hb]
            exact rof_any 0 W (by omega) (by omega)
          clear hk hB hM hpv hkM HRV HVA HVL HOK HOFF
          go_wp2_with fail
          refine (HOR.out _ HK4.out).mono ?_
          rintro e w5 ⟨⟨v5, rfl, hv5⟩, hk5⟩
          obtain ⟨ra, rl, rc, rfl⟩ := hv5.slc
          have HV5 := Lib.hid hv5
          have HX5 := Lib.hid (HX4.out.kept hk5)
          have HK5 := Lib.hid (HK4.out.trans hk5)
          clear c0 c1 c2 hv5 hk5
          obtain ⟨c0, c1, c2⟩ := row3_at HX5.out
          go_wp2_with fail
          refine (HFV.out _ HK5.out).mono ?_
          rintro e w6 ⟨rfl, hk6⟩
          have HV6 := Lib.hid (HV5.out.kept hk6)
          have HK6 := Lib.hid (HK5.out.trans hk6)
          clear c0 c1 c2 hk6
          go_wp2_with fail
          refine (HPV.out _ _ HV6.out).mono ?_
          rintro e w7 ⟨⟨v, rfl, hv⟩, hk⟩
          obtain ⟨n7, l7, m7, a7, c7, b7, d7, w8, rfl, hw, hc, hk2, hr, _⟩ := hv.box
          have HC8 := Lib.hid hc
          have HW8 := Lib.hid hw
          have HV8 := Lib.hid (HV6.out.kept (hk.trans hk2))
          have HK8 := Lib.hid (HK6.out.trans (hk.trans hk2))
          clear hv hk hw hc hk2 hr
          obtain ⟨x1, x2, x3, x4, x5, x6, x7, yx0, yx1, yx2, hlx, HRx⟩ := HC8.out.read
          have HCL0 : Hid ((fun W : World => W.cell? ⟨w7.heap.size, 0, none⟩ = some (.bool x1) ∧ W.cell? ⟨w7.heap.size, 1, none⟩ = some (.slice x4 x2 x5) ∧ W.cell? ⟨w7.heap.size, 2, none⟩ = some (.slice x6 x3 x7)) w8) := Lib.hid ⟨yx0, yx1, yx2⟩
          have HSK : Hid (∀ W W' : World, Kept W W' → (fun W : World => W.cell? ⟨w7.heap.size, 0, none⟩ = some (.bool x1) ∧ W.cell? ⟨w7.heap.size, 1, none⟩ = some (.slice x4 x2 x5) ∧ W.cell? ⟨w7.heap.size, 2, none⟩ = some (.slice x6 x3 x7)) W → (fun W : World => W.cell? ⟨w7.heap.size, 0, none⟩ = some (.bool x1) ∧ W.cell? ⟨w7.heap.size, 1, none⟩ = some (.slice x4 x2 x5) ∧ W.cell? ⟨w7.heap.size, 2, none⟩ = some (.slice x6 x3 x7)) W') := Lib.hid fun W W' hk ⟨p0, p1, p2⟩ => ⟨hk.cell p0, hk.cell p1, hk.cell p2⟩
          have HCLd := Lib.hid (HSK.out w8 w8.drew (Kept.refl _).drew HCL0.out)
          clear yx0 yx1 yx2
          cases B with
          | true =>
            have HOW := Lib.hid (HO1.out rfl)
            clear HO0 HO1
            go_wp2_with fail
            rw [← HW8.out]
            go_region_held3 (fun W => W.cell? ⟨w7.heap.size, 0, none⟩ = some (.bool x1) ∧ W.cell? ⟨w7.heap.size, 1, none⟩ = some (.slice x4 x2 x5) ∧ W.cell? ⟨w7.heap.size, 2, none⟩ = some (.slice x6 x3 x7))
              (with_reducible first | exact HCL11.out | exact HCL10.out | exact HCL9.out | exact HCLd.out | exact HCL0.out)
              (first
              | (go_at_call 21; (with_reducible refine (HPC.out _ _ (HV8.out.kept (Kept.refl _).drew)).mono ?_); rintro e w9 ⟨rfl, hk⟩; have K9 := Lib.hid ((Kept.refl w8).drew.trans hk); have HCL9 := Lib.hid (HSK.out _ _ K9.out HCL0.out); clear hk)
              | (go_at_call 46; (with_reducible refine (HOW.out _).mono ?_); rintro e w10 ⟨⟨v10, rfl, hv⟩, hk⟩; have K10 := Lib.hid (K9.out.trans hk); obtain ⟨f1, f2, f3, f4, f5, f6, f7, rfl⟩ := hv.parts; have HV10 := Lib.hid hv; have HCL10 := Lib.hid (HSK.out _ _ K10.out HCL0.out); clear hv hk)
              | (go_at_call 23; (with_reducible refine (HCM.out _ _ _ (HRx.out.kept K10.out) HV10.out).mono ?_); rintro e w11 ⟨rfl, hk⟩; have K11 := Lib.hid (K10.out.trans hk); have HCL11 := Lib.hid (HSK.out _ _ K11.out HCL0.out); clear hk)
              | fail)
            go_wp2
            go_ret
            exact ⟨rfl, HK8.out.trans K11.out⟩
          | false =>
            have HOW := Lib.hid (HO0.out rfl)
            clear HO0 HO1
            go_wp2_with fail
            rw [← HW8.out]
            go_region_held3 (fun W => W.cell? ⟨w7.heap.size, 0, none⟩ = some (.bool x1) ∧ W.cell? ⟨w7.heap.size, 1, none⟩ = some (.slice x4 x2 x5) ∧ W.cell? ⟨w7.heap.size, 2, none⟩ = some (.slice x6 x3 x7))
              (with_reducible first | exact HCL11.out | exact HCL10.out | exact HCL9.out | exact HCLd.out | exact HCL0.out)
              (first
              | (go_at_call 21; (with_reducible refine (HPC.out _ _ (HV8.out.kept (Kept.refl _).drew)).mono ?_); rintro e w9 ⟨rfl, hk⟩; have K9 := Lib.hid ((Kept.refl w8).drew.trans hk); have HCL9 := Lib.hid (HSK.out _ _ K9.out HCL0.out); clear hk)
              | (go_at_call 46; (with_reducible refine (HOW.out _).mono ?_); rintro e w10 ⟨⟨v10, rfl, hv⟩, hk⟩; have K10 := Lib.hid (K9.out.trans hk); obtain ⟨f1, f2, f3, f4, f5, f6, f7, rfl⟩ := hv.parts; have HV10 := Lib.hid hv; have HCL10 := Lib.hid (HSK.out _ _ K10.out HCL0.out); clear hv hk)
              | (go_at_call 23; (with_reducible refine (HCM.out _ _ _ (HRx.out.kept K10.out) HV10.out).mono ?_); rintro e w11 ⟨rfl, hk⟩; have K11 := Lib.hid (K10.out.trans hk); have HCL11 := Lib.hid (HSK.out _ _ K11.out HCL0.out); clear hk)
              | fail)
            go_wp2
            go_ret
            exact ⟨rfl, HK8.out.trans K11.out⟩
      · have hv8 : decide ((8 : Int) < (V : Int)) = true := decide_eq_true (by omega)
        go_wp2_with fail
        refine (HA.out _).mono ?_
        rintro e wz ⟨rfl, hkz⟩
        go_wp2
        go_ret
        exact ⟨rfl, HK4.out.trans hkz⟩
    · rw [errV_pos hq0] at HC
      go_wp2_with fail
      refine (HC.out _ HK2.out).mono ?_
      rintro e w4 ⟨rfl, hk4⟩
      have HK4 := Lib.hid (HK2.out.trans hk4)
      clear c0 c1 c2 hk4
      go_wp2_with fail
      refine (HA.out _).mono ?_
      rintro e wz ⟨rfl, hkz⟩
      go_wp2
      go_ret
      exact ⟨rfl, HK4.out.trans hkz⟩
end Go.Proofs.YtpaedhlacbpmpaaGreatDoor
