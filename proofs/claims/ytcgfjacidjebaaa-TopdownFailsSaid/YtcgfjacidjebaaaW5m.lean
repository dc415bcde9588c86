import Derived.Test.YtcgfjacidjebaaaK5
import Derived.Test.YtcgfjacidjebaaaK6
/-
  The law TopdownFails returns true, whatever the formula and the state. (Printed by gen_W5.py.)
-/
namespace Go.Proofs.Ytcgfjacidjebaaa
open Go.RowKit Go.ChangeShapes Go.WideShapes Go.ChangeAt Go.Joins Go.Deep

set_option maxRecDepth 100000 in
set_option maxHeartbeats 8000000 in
theorem fails_true (w : World) (v : Value) (f : Fm) (x : Int) (hv : NodesAt w v f.nodes) (hfo : FmOk f) (hx : (Lit.int .u16 x).wf = true) :
    Calls Try.prog 11 #[fmV v f, .int .u16 x] w fun e w' => e = .returned (.bool true) ∧ Kept w w' := by
  obtain ⟨x0, x9⟩ := bounds_u16 hx
  obtain ⟨X, rfl⟩ := Int.eq_ofNat_of_zero_le x0
  have hX9 : X ≤ 65535 := by omega
  clear hx x0 x9
  have ht : f.top ≤ 9223372036854775807 := hfo.2.1.2
  have hh : ∀ W, Kept w W → Calls Try.prog 17 #[fmV v f] W fun e w' => (∃ b, e = .returned (.bool b)) ∧ Kept W w' := fun W hk => heavy_any v f W (hv.kept hk)
  have hc : ∀ W, Kept w W → Calls Try.prog 26 #[fmV v f] W fun e w' => e = .returned (errV (chkF f)) ∧ Kept W w' := fun W hk => check_any v f W (hv.kept hk) ht
  obtain ⟨q, hq⟩ : ∃ q, q = chkF f := ⟨_, rfl⟩
  rw [← hq] at hc
  have hsh : ∃ a n c, v = .slice a n c ∧ n = f.nodes.length := by obtain ⟨a, c, h, _⟩ := hv; exact ⟨a, _, c, h, rfl⟩
  have HQ := Lib.hid hq
  have HV := Lib.hid hv
  obtain ⟨a, n, c, rfl, hnn⟩ := hsh
  have HNN := Lib.hid hnn
  clear hnn
  obtain ⟨vars, nodes, top⟩ := f
  have HH : Hid (∀ W, Kept w W → Calls Try.prog 17 #[.agg #[.int .i64 vars, .slice a n c, .int .i64 top]] W fun e w' => (∃ b, e = .returned (.bool b)) ∧ Kept W w') := Lib.hid hh
  have HC : Hid (∀ W, Kept w W → Calls Try.prog 26 #[.agg #[.int .i64 vars, .slice a n c, .int .i64 top]] W fun e w' => e = .returned (errV q) ∧ Kept W w') := Lib.hid hc
  have HA : Hid (∀ W, Calls Try.prog 30 #[] W fun e w' => e = .returned (.bool true) ∧ Kept W w') := Lib.hid fun W => tawake_ok W
  show Calls _ _ #[.agg #[.int .i64 vars, .slice a n c, .int .i64 top], _] _ _
  clear hv hh hc hq ht hfo
  go_enter Try.func11, Try.ntmps11
  go_wp2_with (go_at_call 30; refine (HA.out _).mono ?_; rintro e w1 ⟨rfl, hk1⟩; obtain ⟨c0, c1, c2⟩ := fm_cells hk1)
  refine (HH.out _ (((Kept.refl _).alloc _).trans hk1)).mono ?_
  rintro e w2 ⟨⟨b, rfl⟩, hk2⟩
  have K2 := Lib.hid (hk1.trans hk2)
  clear hk1 hk2 c0 c1 c2
  obtain ⟨c0, c1, c2⟩ := fm_cells K2.out
  cases b with
  | true =>
    go_wp2_with (go_at_call 30; refine (HA.out _).mono ?_; rintro e w3 ⟨rfl, hk3⟩)
    go_ret
    exact ⟨rfl, (((Kept.refl _).alloc _).trans K2.out).trans hk3⟩
  | false =>
    go_wp2_with fail
    refine (HC.out _ (((Kept.refl _).alloc _).trans K2.out)).mono ?_
    rintro e w3 ⟨rfl, hk3⟩
    have K3 := Lib.hid (K2.out.trans hk3)
    clear hk3 c0 c1 c2
    obtain ⟨c0, c1, c2⟩ := fm_cells K3.out
    by_cases hq0 : q = 0
    · have hck := HQ.out.symm.trans hq0
      subst hq0
      rw [errV_zero]
      obtain ⟨V, T, hok⟩ := ok_of _ hck
      have e1 : vars = (V : Int) := hok.vars
      have e2 : top = (T : Int) := hok.top
      have hV := hok.v24
      have hN9 : nodes.length ≤ 128 := hok.n128
      have fc := top_cases (.slice a n c) ⟨vars, nodes, top⟩ V T hok hck ⟨a, n, c, rfl⟩
      subst e1 e2
      have HVK := Lib.hid (fun W (hk : Kept w3 W) => HV.out.kept (((((Kept.refl _).alloc _).trans K3.out)).trans hk))
      have HOK := Lib.hid hok
      have HCK := Lib.hid hck
      by_cases hV10 : V ≤ 10
      · have hVi : (V : Int) ≤ 10 := by omega
        rcases fc with ⟨q, hq, hfc⟩ | ⟨p, hl, hs, hfc⟩
        · have HF := Lib.hid (fun W hk => (hfc W (HVK.out W hk)).1)
          have hq : q = 4 ∨ q = 7 := hq.imp (fun h => h.1) fun h => h.1
          have HI : Hid (∀ W c, Calls Try.prog 27 #[errV q, .int .i64 (c : Nat)] W fun e w' => e = .returned (.bool (q == c)) ∧ W = w') := Lib.hid fun W c => is_any q c (by omega) W
          have I7 : Hid (∀ W, Calls Try.prog 27 #[errV q, .int .i64 7] W fun e w' => e = .returned (.bool (q == 7)) ∧ W = w') := Lib.hid fun W => HI.out W 7
          have I4 : Hid (∀ W, Calls Try.prog 27 #[errV q, .int .i64 4] W fun e w' => e = .returned (.bool (q == 4)) ∧ W = w') := Lib.hid fun W => HI.out W 4
          have hqe : errV q = .iface 45 (.int .i64 q) := errV_pos (by omega)
          rw [hqe] at HF I7 I4
          clear hfc hck hok HI hqe
          go_wp2_with fail
          refine (HF.out _ (Kept.refl _)).mono ?_
          rintro e w4 ⟨rfl, hk4⟩
          have K4 := Lib.hid (K3.out.trans hk4)
          clear c0 c1 c2 hk4
          rcases hq with hq | hq
          · rw [show (q == 7) = false by simp; omega] at I7
            rw [show (q == 4) = true by simp; omega] at I4
            clear hq
            go_wp2_with (first
              | (go_at_call 27; (with_reducible refine (I7.out _).mono ?_); rintro e w6 ⟨rfl, rfl⟩)
              | (go_at_call 27; (with_reducible refine (I4.out _).mono ?_); rintro e w6 ⟨rfl, rfl⟩))
            go_ret
            exact ⟨rfl, ((Kept.refl _).alloc _).trans K4.out⟩
          · rw [show (q == 7) = true by simp; omega] at I7
            clear hq
            go_wp2_with (go_at_call 27; (with_reducible refine (I7.out _).mono ?_); rintro e w6 ⟨rfl, rfl⟩)
            go_ret
            exact ⟨rfl, ((Kept.refl _).alloc _).trans K4.out⟩
        · obtain ⟨hgood, hmk, hsay⟩ := topK_says hok hs hl
          obtain ⟨z, hz⟩ : ∃ z, z = 2 ^ V := ⟨_, rfl⟩
          have ew := shlW V hV
          rw [← hz] at ew
          have hz0 : 0 < z := by rw [hz]; exact Nat.two_pow_pos V
          have hz9 : z ≤ 1024 := by rw [hz]; exact Nat.pow_le_pow_right (by omega) hV10
          obtain ⟨st, hst⟩ : ∃ st, st = X % z := ⟨_, rfl⟩
          have est : (X : Int) % (z : Int) = (st : Int) := by rw [hst]; simp
          have hstz : st < 2 ^ V := by rw [hst, ← hz]; exact Nat.mod_lt _ hz0
          have hcov : covB p.1 st = (valsK V st nodes).getD T false := by
            rw [Bool.eq_iff_iff, covB_up]; exact hsay st
          have HVA : Hid (∀ W, Kept w3 W → Calls Try.prog 40 #[.agg #[.int .i64 V, .slice a n c, .int .i64 T], .int .i64 st] W fun e w' => e = .returned (.tuple #[.bool (covB p.1 st), .nilIface]) ∧ Kept W w') := Lib.hid fun W hk => by
            rw [hcov]; exact value_any _ ⟨V, nodes, T⟩ V T st W (HVK.out W hk) hok hck hstz
          have HCO : Hid (∀ W va, SetsAt W va p.1 → Calls Try.prog 38 #[va, .int .i64 st] W fun e w' => e = .returned (.tuple #[.bool (covB p.1 st), .nilIface]) ∧ Kept W w') := Lib.hid fun W va h => covers_any va p.1 st W h (by unfold Mk; exact lt_pow24 hV hstz) hgood.2
          have HF := Lib.hid (fun W hk => (hfc W (HVK.out W hk)).1)
          have hzn : ((z : Int) == 0) = false := by simp; omega
          have hz0i : (0 : Int) < (z : Int) := by omega
          have etm : Int.tmod (X : Int) (z : Int) = (st : Int) := by rw [Int.tmod_eq_emod_of_nonneg (by omega), est]
          obtain ⟨cb, hcb⟩ : ∃ cb, cb = covB p.1 st := ⟨_, rfl⟩
          rw [← hcb] at HVA HCO
          have hbb : (cb == cb) = true := by cases cb <;> rfl
          clear hfc hck hok hl hs hst hstz hz HOK HCK hgood hmk hsay hcov hcb
          go_wp2_with fail
          refine (HF.out _ (Kept.refl _)).mono ?_
          rintro e w4 ⟨⟨v4, rfl, ho4⟩, hk4⟩
          have K4 := Lib.hid (K3.out.trans hk4)
          have HK34 := Lib.hid hk4
          have O4 := Lib.hid ho4
          obtain ⟨la, ln, lc, rfl⟩ := ho4.1.ints.shape
          clear c0 c1 c2 hk4 ho4
          obtain ⟨c0, c1, c2⟩ := fm_cells K4.out
          go_wp2_with fail
          refine (HVA.out _ HK34.out).mono ?_
          rintro e w5 ⟨rfl, hk5⟩
          have K5 := Lib.hid (K4.out.trans hk5)
          have O5 := Lib.hid (O4.out.kept hk5)
          clear c0 c1 c2 hk5 O4
          go_wp2_with fail
          refine (HCO.out _ _ O5.out.sets).mono ?_
          rintro e w6 ⟨rfl, hk6⟩
          go_wp2
          go_ret
          exact ⟨rfl, ((Kept.refl _).alloc _).trans (K5.out.trans hk6)⟩
      · have hVi : ¬ (V : Int) ≤ 10 := by omega
        clear fc hck hok
        go_wp2_with (go_at_call 30; refine (HA.out _).mono ?_; rintro e w4 ⟨rfl, hk4⟩)
        go_ret
        exact ⟨rfl, (((Kept.refl _).alloc _).trans K3.out).trans hk4⟩
    · have hqe : errV q = .iface 45 (.int .i64 q) := errV_pos hq0
      rw [hqe]
      clear hqe
      go_wp2_with (go_at_call 30; refine (HA.out _).mono ?_; rintro e w4 ⟨rfl, hk4⟩)
      go_ret
      exact ⟨rfl, (((Kept.refl _).alloc _).trans K3.out).trans hk4⟩
set_option maxRecDepth 100000 in
theorem topdownFails_lifted (os : Os) (started : os.Started) (H : Type) (enc : TypeId × Value → H) :
    ReturnsInHanded {} Try.checked os 11 .any (Rows.topdownFailsSpec.pre6 enc Try.prog Try.f11 Rows.topdownFailsRow.domain false) (Rows.topdownFailsSpec.post enc Try.prog Try.f11 false true false false) := by
  refine returnsInHanded_of_change_sized (C := Try.checked) ownK started (by kernel_rfl) Try.func11
    (ChangeSpec.witness6 (enc := enc) (C := Try.checked) false ⟨#[], #[.agg #[.int .i64 0, .slice none 0 0, .int .i64 0], .int .u16 0], []⟩ 8 (by kernel_rfl) (by kernel_rfl) (by kernel_rfl) (by kernel_rfl)) ?_
  intro W base args ds gs before hval hW _ hsz _
  exact lift2 11 Try.f11 53 .u16 Try.underlying53 (by kernel_rfl) (of_decide_eq_true (by kernel_rfl)) rfl (fun _ _ _ => rfl) Try.params11 (by kernel_rfl) fails_true W base args ds gs before hval hW hsz
theorem topdownFails_holds : Rows.TopdownFailsSaid :=
  OpenClaim.holds_of_wide 11 Try.f11 rfl rfl rfl rfl rfl rfl rfl ⟨rfl, rfl, rfl, rfl, rfl⟩ rfl rfl rfl rfl rfl (by kernel_rfl) Try.func11 (by kernel_rfl)
    (of_decide_eq_true (by kernel_rfl)) (by unfold Func.isWrapper; first | (rw [if_pos (by decide +kernel)]; kernel_rfl) | (rw [if_neg (by decide +kernel)]; exact ⟨rfl, rfl⟩))
    (fun os started H enc _ => topdownFails_lifted os started H enc)
end Go.Proofs.Ytcgfjacidjebaaa
