import Derived.Test.YtapniojbnochiaaX9m
import Derived.Test.YtapniojbnochiaaK5
import Derived.Test.YtapniojbnochiaaR6m
/-
  The laws TopdownCuts and TopdownSteps return true, whatever the formula: no condition.
-/
namespace Go.Proofs.Ytapniojbnochiaa
open Go.RowKit Go.ChangeShapes Go.WideShapes Go.ChangeAt Go.Joins Go.Deep

theorem tchkNd_le (b : Int) (x : Nd) : chkNd b x ≤ 100 := by
  unfold chkNd
  split
  · omega
  · split
    · omega
    · split
      · omega
      · unfold chkK
        split
        · split <;> omega
        · split
          · split <;> omega
          · split <;> omega
theorem tchkFrom_le (xs : List Nd) : ∀ b, chkFrom b xs ≤ 100 := by
  induction xs with
  | nil => intro b; unfold chkFrom; omega
  | cons x xs ih =>
    intro b
    unfold chkFrom
    split
    · exact ih _
    · exact tchkNd_le b x
theorem tchkF_le (f : Fm) : chkF f ≤ 100 := by
  unfold chkF
  split
  · omega
  · split
    · omega
    · split
      · split <;> omega
      · exact tchkFrom_le _ _
set_option maxRecDepth 100000 in
set_option maxHeartbeats 4000000 in
theorem tdcuts_true (w : World) (v : Value) (f : Fm) (hv : NodesAt w v f.nodes) (hfo : FmOk f) :
    Calls Try.prog 7 #[fmV v f] w fun e w' => e = .returned (.bool true) ∧ Kept w w' := by
  have ht : f.top ≤ 9223372036854775807 := hfo.2.1.2
  have hh : ∀ W, Kept w W → Calls Try.prog 18 #[fmV v f] W fun e w' => (∃ b, e = .returned (.bool b)) ∧ Kept W w' := fun W hk => heavy_any v f W (hv.kept hk)
  have hc : ∀ W, Kept w W → Calls Try.prog 20 #[fmV v f] W fun e w' => e = .returned (.int .i64 (chkF f)) ∧ Kept W w' := fun W hk => rcheck_any v f W (hv.kept hk) ht
  have hsh : ∃ a n c, v = .slice a n c := by obtain ⟨a, c, h, _⟩ := hv; exact ⟨a, _, c, h⟩
  have hbad : chkF f ≠ 0 → ∀ W, Kept w W → Calls Try.prog 32 #[fmV v f] W fun e w' => e = .returned (.tuple #[.slice none 0 0, errV (chkF f)]) ∧ Kept W w' := fun hck W hk => by
    have hrn : ∀ W', Kept W W' → Calls Try.prog 67 #[fmV v f] W' fun e w' => e = .returned (.tuple #[.slice none 0 0, .slice none 0 0, errV (chkF f)]) ∧ Kept W' w' := fun W' hk' => run_err v f (chkF f) hck W' hsh fun W2 hk2 => syntax_err v f W2 (((hv.kept hk).kept hk').kept hk2) ht hck
    have h1 := tcuts_err v f (chkF f) hck W hsh hrn
    have h2 := tsteps_err v f (chkF f) hck W hsh hrn
    exact h1
  have hq9 : chkF f ≤ 100 := tchkF_le f
  obtain ⟨q, hq⟩ : ∃ q, q = chkF f := ⟨_, rfl⟩
  rw [← hq] at hc hbad hq9
  have HQ := Lib.hid hq
  have HV := Lib.hid hv
  obtain ⟨a, n, c, rfl⟩ := hsh
  obtain ⟨vars, nodes, top⟩ := f
  have HH : Hid (∀ W, Kept w W → Calls Try.prog 18 #[.agg #[.int .i64 vars, .slice a n c, .int .i64 top]] W fun e w' => (∃ b, e = .returned (.bool b)) ∧ Kept W w') := Lib.hid hh
  have HC : Hid (∀ W, Kept w W → Calls Try.prog 20 #[.agg #[.int .i64 vars, .slice a n c, .int .i64 top]] W fun e w' => e = .returned (.int .i64 q) ∧ Kept W w') := Lib.hid hc
  have HB : Hid (q ≠ 0 → ∀ W, Kept w W → Calls Try.prog 32 #[.agg #[.int .i64 vars, .slice a n c, .int .i64 top]] W fun e w' => e = .returned (.tuple #[.slice none 0 0, errV q]) ∧ Kept W w') := Lib.hid hbad
  have HA : Hid (∀ W, Calls Try.prog 31 #[] W fun e w' => e = .returned (.bool true) ∧ Kept W w') := Lib.hid fun W => tawake_ok W
  show Calls _ _ #[.agg #[.int .i64 vars, .slice a n c, .int .i64 top]] _ _
  clear hv hh hc hq ht hfo hbad
  go_enter Try.func7, Try.ntmps7
  go_wp2_with (go_at_call 31; refine (HA.out _).mono ?_; rintro e w1 ⟨rfl, hk1⟩; obtain ⟨c0, c1, c2⟩ := fm_cells hk1)
  refine (HH.out _ (((Kept.refl _).alloc _).trans hk1)).mono ?_
  rintro e w2 ⟨⟨b, rfl⟩, hk2⟩
  have K2 := Lib.hid (hk1.trans hk2)
  clear hk1 hk2 c0 c1 c2
  obtain ⟨c0, c1, c2⟩ := fm_cells K2.out
  cases b with
  | true =>
    go_wp2_with (go_at_call 31; refine (HA.out _).mono ?_; rintro e w3 ⟨rfl, hk3⟩)
    go_ret
    exact ⟨rfl, (((Kept.refl _).alloc _).trans K2.out).trans hk3⟩
  | false =>
    by_cases hq0 : q = 0
    · have hck := HQ.out.symm.trans hq0
      subst hq0
      obtain ⟨V, T, hok⟩ := ok_of _ hck
      have e1 : vars = (V : Int) := hok.vars
      have e2 : top = (T : Int) := hok.top
      obtain ⟨q, X1, X2, hq, hfc⟩ := tboth_all (.slice a n c) ⟨vars, nodes, top⟩ V T hok hck ⟨a, n, c, rfl⟩
      subst e1 e2
      have HVK := Lib.hid (fun W (hk : Kept w2 W) => HV.out.kept (((((Kept.refl _).alloc _).trans K2.out)).trans hk))
      have HF : Hid (∀ W, Kept w2 W → Calls Try.prog 32 #[.agg #[.int .i64 V, .slice a n c, .int .i64 T]] W fun e w' => (∃ v', e = .returned (.tuple #[v', errV q]) ∧ IntsAt w' v' X1) ∧ Kept W w') := Lib.hid fun W hk => by
        have h := hfc W (HVK.out W hk)
        first | exact h.1 | exact h.2.2.1
      have HG : Hid (∀ W, Kept w2 W → Calls Try.prog 33 #[.agg #[.int .i64 V, .slice a n c, .int .i64 T]] W fun e w' => (∃ v', e = .returned (.tuple #[v', .int .i64 q]) ∧ IntsAt w' v' X1) ∧ Kept W w') := Lib.hid fun W hk => by
        have h := hfc W (HVK.out W hk)
        first | exact h.2.1 | exact h.2.2.2
      have HN : Hid (∀ W, Calls Try.prog 21 #[errV q] W fun e w' => e = .returned (.int .i64 q) ∧ W = w') := Lib.hid fun W => num_eq q W (by omega)
      clear hfc hck hok
      go_wp2_with fail
      refine (HF.out _ (Kept.refl _)).mono ?_
      rintro e w3 ⟨⟨va, rfl, hva⟩, hk3⟩
      have K3 := Lib.hid (K2.out.trans hk3)
      have HVA := Lib.hid hva
      clear c0 c1 c2 hva
      obtain ⟨c0, c1, c2⟩ := fm_cells K3.out
      go_wp2_with fail
      refine (HC.out _ (((Kept.refl _).alloc _).trans K3.out)).mono ?_
      rintro e w4 ⟨rfl, hk4⟩
      have K4 := Lib.hid (K3.out.trans hk4)
      clear c0 c1 c2
      obtain ⟨c0, c1, c2⟩ := fm_cells K4.out
      go_wp2_with fail
      refine (HG.out _ (hk3.trans hk4)).mono ?_
      rintro e w5 ⟨⟨vb, rfl, hvb⟩, hk5⟩
      have K5 := Lib.hid (K4.out.trans hk5)
      have HVB := Lib.hid hvb
      have HVA5 := Lib.hid (IntsAt.kept HVA.out (hk4.trans hk5))
      clear c0 c1 c2 hvb hk3 hk4 hk5
      go_wp2_with (first
        | (go_at_call 21; refine (HN.out _).mono ?_; rintro e w6 ⟨rfl, rfl⟩)
        | (go_at_call 23; refine (ints_true _ _ _ HVA5.out HVB.out).mono ?_; rintro e w7 ⟨rfl, hk7⟩))
      go_ret
      exact ⟨rfl, (((Kept.refl _).alloc _).trans K5.out).trans hk7⟩
    · have HF := Lib.hid (HB.out hq0)
      have HN : Hid (∀ W, Calls Try.prog 21 #[errV q] W fun e w' => e = .returned (.int .i64 q) ∧ W = w') := Lib.hid fun W => num_eq q W (by omega)
      have b1 : ((q : Int) == 0) = false := by simp; omega
      have b2 : ((q : Int) != 0) = true := by simp; omega
      clear hq0
      go_wp2_with fail
      refine (HF.out _ (((Kept.refl _).alloc _).trans K2.out)).mono ?_
      rintro e w3 ⟨rfl, hk3⟩
      have K3 := Lib.hid (K2.out.trans hk3)
      clear c0 c1 c2 hk3
      obtain ⟨c0, c1, c2⟩ := fm_cells K3.out
      go_wp2_with fail
      refine (HC.out _ (((Kept.refl _).alloc _).trans K3.out)).mono ?_
      rintro e w4 ⟨rfl, hk4⟩
      have K4 := Lib.hid (K3.out.trans hk4)
      clear c0 c1 c2 hk4
      go_wp2_with (go_at_call 21; refine (HN.out _).mono ?_; rintro e w6 ⟨rfl, rfl⟩)
      go_ret
      exact ⟨rfl, ((Kept.refl _).alloc _).trans K4.out⟩
set_option maxRecDepth 100000 in
theorem topdownCuts_lifted (os : Os) (started : os.Started) (H : Type) (enc : TypeId × Value → H) :
    ReturnsInHanded {} Try.checked os 7 .any (Rows.topdownCutsSpec.pre6 enc Try.prog Try.f7 Rows.topdownCutsRow.domain false) (Rows.topdownCutsSpec.post enc Try.prog Try.f7 false true false false) := by
  refine returnsInHanded_of_change_sized (C := Try.checked) ownK started (by kernel_rfl) Try.func7
    (ChangeSpec.witness6 (enc := enc) (C := Try.checked) false ⟨#[], #[.agg #[.int .i64 0, .slice none 0 0, .int .i64 0]], []⟩ 8 (by kernel_rfl) (by kernel_rfl) (by kernel_rfl) (by kernel_rfl)) ?_
  intro W base args ds gs before hval hW _ hsz _
  exact lift1 7 Try.f7 rfl (fun _ _ => rfl) Try.params7 (by kernel_rfl) tdcuts_true W base args ds gs before hval hW hsz
theorem topdownCuts_holds : Rows.TopdownCutsSaid :=
  OpenClaim.holds_of_wide 7 Try.f7 rfl rfl rfl rfl rfl rfl rfl ⟨rfl, rfl, rfl, rfl, rfl⟩ rfl rfl rfl rfl rfl (by kernel_rfl) Try.func7 (by kernel_rfl)
    (of_decide_eq_true (by kernel_rfl)) (by unfold Func.isWrapper; first | (rw [if_pos (by decide +kernel)]; kernel_rfl) | (rw [if_neg (by decide +kernel)]; exact ⟨rfl, rfl⟩))
    (fun os started H enc _ => topdownCuts_lifted os started H enc)
set_option maxRecDepth 100000 in
set_option maxHeartbeats 4000000 in
theorem tdsteps_true (w : World) (v : Value) (f : Fm) (hv : NodesAt w v f.nodes) (hfo : FmOk f) :
    Calls Try.prog 8 #[fmV v f] w fun e w' => e = .returned (.bool true) ∧ Kept w w' := by
  have ht : f.top ≤ 9223372036854775807 := hfo.2.1.2
  have hh : ∀ W, Kept w W → Calls Try.prog 18 #[fmV v f] W fun e w' => (∃ b, e = .returned (.bool b)) ∧ Kept W w' := fun W hk => heavy_any v f W (hv.kept hk)
  have hc : ∀ W, Kept w W → Calls Try.prog 20 #[fmV v f] W fun e w' => e = .returned (.int .i64 (chkF f)) ∧ Kept W w' := fun W hk => rcheck_any v f W (hv.kept hk) ht
  have hsh : ∃ a n c, v = .slice a n c := by obtain ⟨a, c, h, _⟩ := hv; exact ⟨a, _, c, h⟩
  have hbad : chkF f ≠ 0 → ∀ W, Kept w W → Calls Try.prog 34 #[fmV v f] W fun e w' => e = .returned (.tuple #[.slice none 0 0, errV (chkF f)]) ∧ Kept W w' := fun hck W hk => by
    have hrn : ∀ W', Kept W W' → Calls Try.prog 67 #[fmV v f] W' fun e w' => e = .returned (.tuple #[.slice none 0 0, .slice none 0 0, errV (chkF f)]) ∧ Kept W' w' := fun W' hk' => run_err v f (chkF f) hck W' hsh fun W2 hk2 => syntax_err v f W2 (((hv.kept hk).kept hk').kept hk2) ht hck
    have h1 := tcuts_err v f (chkF f) hck W hsh hrn
    have h2 := tsteps_err v f (chkF f) hck W hsh hrn
    exact h2
  have hq9 : chkF f ≤ 100 := tchkF_le f
  obtain ⟨q, hq⟩ : ∃ q, q = chkF f := ⟨_, rfl⟩
  rw [← hq] at hc hbad hq9
  have HQ := Lib.hid hq
  have HV := Lib.hid hv
  obtain ⟨a, n, c, rfl⟩ := hsh
  obtain ⟨vars, nodes, top⟩ := f
  have HH : Hid (∀ W, Kept w W → Calls Try.prog 18 #[.agg #[.int .i64 vars, .slice a n c, .int .i64 top]] W fun e w' => (∃ b, e = .returned (.bool b)) ∧ Kept W w') := Lib.hid hh
  have HC : Hid (∀ W, Kept w W → Calls Try.prog 20 #[.agg #[.int .i64 vars, .slice a n c, .int .i64 top]] W fun e w' => e = .returned (.int .i64 q) ∧ Kept W w') := Lib.hid hc
  have HB : Hid (q ≠ 0 → ∀ W, Kept w W → Calls Try.prog 34 #[.agg #[.int .i64 vars, .slice a n c, .int .i64 top]] W fun e w' => e = .returned (.tuple #[.slice none 0 0, errV q]) ∧ Kept W w') := Lib.hid hbad
  have HA : Hid (∀ W, Calls Try.prog 31 #[] W fun e w' => e = .returned (.bool true) ∧ Kept W w') := Lib.hid fun W => tawake_ok W
  show Calls _ _ #[.agg #[.int .i64 vars, .slice a n c, .int .i64 top]] _ _
  clear hv hh hc hq ht hfo hbad
  go_enter Try.func8, Try.ntmps8
  go_wp2_with (go_at_call 31; refine (HA.out _).mono ?_; rintro e w1 ⟨rfl, hk1⟩; obtain ⟨c0, c1, c2⟩ := fm_cells hk1)
  refine (HH.out _ (((Kept.refl _).alloc _).trans hk1)).mono ?_
  rintro e w2 ⟨⟨b, rfl⟩, hk2⟩
  have K2 := Lib.hid (hk1.trans hk2)
  clear hk1 hk2 c0 c1 c2
  obtain ⟨c0, c1, c2⟩ := fm_cells K2.out
  cases b with
  | true =>
    go_wp2_with (go_at_call 31; refine (HA.out _).mono ?_; rintro e w3 ⟨rfl, hk3⟩)
    go_ret
    exact ⟨rfl, (((Kept.refl _).alloc _).trans K2.out).trans hk3⟩
  | false =>
    by_cases hq0 : q = 0
    · have hck := HQ.out.symm.trans hq0
      subst hq0
      obtain ⟨V, T, hok⟩ := ok_of _ hck
      have e1 : vars = (V : Int) := hok.vars
      have e2 : top = (T : Int) := hok.top
      obtain ⟨q, X1, X2, hq, hfc⟩ := tboth_all (.slice a n c) ⟨vars, nodes, top⟩ V T hok hck ⟨a, n, c, rfl⟩
      subst e1 e2
      have HVK := Lib.hid (fun W (hk : Kept w2 W) => HV.out.kept (((((Kept.refl _).alloc _).trans K2.out)).trans hk))
      have HF : Hid (∀ W, Kept w2 W → Calls Try.prog 34 #[.agg #[.int .i64 V, .slice a n c, .int .i64 T]] W fun e w' => (∃ v', e = .returned (.tuple #[v', errV q]) ∧ IntsAt w' v' X2) ∧ Kept W w') := Lib.hid fun W hk => by
        have h := hfc W (HVK.out W hk)
        first | exact h.1 | exact h.2.2.1
      have HG : Hid (∀ W, Kept w2 W → Calls Try.prog 35 #[.agg #[.int .i64 V, .slice a n c, .int .i64 T]] W fun e w' => (∃ v', e = .returned (.tuple #[v', .int .i64 q]) ∧ IntsAt w' v' X2) ∧ Kept W w') := Lib.hid fun W hk => by
        have h := hfc W (HVK.out W hk)
        first | exact h.2.1 | exact h.2.2.2
      have HN : Hid (∀ W, Calls Try.prog 21 #[errV q] W fun e w' => e = .returned (.int .i64 q) ∧ W = w') := Lib.hid fun W => num_eq q W (by omega)
      clear hfc hck hok
      go_wp2_with fail
      refine (HF.out _ (Kept.refl _)).mono ?_
      rintro e w3 ⟨⟨va, rfl, hva⟩, hk3⟩
      have K3 := Lib.hid (K2.out.trans hk3)
      have HVA := Lib.hid hva
      clear c0 c1 c2 hva
      obtain ⟨c0, c1, c2⟩ := fm_cells K3.out
      go_wp2_with fail
      refine (HC.out _ (((Kept.refl _).alloc _).trans K3.out)).mono ?_
      rintro e w4 ⟨rfl, hk4⟩
      have K4 := Lib.hid (K3.out.trans hk4)
      clear c0 c1 c2
      obtain ⟨c0, c1, c2⟩ := fm_cells K4.out
      go_wp2_with fail
      refine (HG.out _ (hk3.trans hk4)).mono ?_
      rintro e w5 ⟨⟨vb, rfl, hvb⟩, hk5⟩
      have K5 := Lib.hid (K4.out.trans hk5)
      have HVB := Lib.hid hvb
      have HVA5 := Lib.hid (IntsAt.kept HVA.out (hk4.trans hk5))
      clear c0 c1 c2 hvb hk3 hk4 hk5
      go_wp2_with (first
        | (go_at_call 21; refine (HN.out _).mono ?_; rintro e w6 ⟨rfl, rfl⟩)
        | (go_at_call 23; refine (ints_true _ _ _ HVA5.out HVB.out).mono ?_; rintro e w7 ⟨rfl, hk7⟩))
      go_ret
      exact ⟨rfl, (((Kept.refl _).alloc _).trans K5.out).trans hk7⟩
    · have HF := Lib.hid (HB.out hq0)
      have HN : Hid (∀ W, Calls Try.prog 21 #[errV q] W fun e w' => e = .returned (.int .i64 q) ∧ W = w') := Lib.hid fun W => num_eq q W (by omega)
      have b1 : ((q : Int) == 0) = false := by simp; omega
      have b2 : ((q : Int) != 0) = true := by simp; omega
      clear hq0
      go_wp2_with fail
      refine (HF.out _ (((Kept.refl _).alloc _).trans K2.out)).mono ?_
      rintro e w3 ⟨rfl, hk3⟩
      have K3 := Lib.hid (K2.out.trans hk3)
      clear c0 c1 c2 hk3
      obtain ⟨c0, c1, c2⟩ := fm_cells K3.out
      go_wp2_with fail
      refine (HC.out _ (((Kept.refl _).alloc _).trans K3.out)).mono ?_
      rintro e w4 ⟨rfl, hk4⟩
      have K4 := Lib.hid (K3.out.trans hk4)
      clear c0 c1 c2 hk4
      go_wp2_with (go_at_call 21; refine (HN.out _).mono ?_; rintro e w6 ⟨rfl, rfl⟩)
      go_ret
      exact ⟨rfl, ((Kept.refl _).alloc _).trans K4.out⟩
set_option maxRecDepth 100000 in
theorem topdownSteps_lifted (os : Os) (started : os.Started) (H : Type) (enc : TypeId × Value → H) :
    ReturnsInHanded {} Try.checked os 8 .any (Rows.topdownStepsSpec.pre6 enc Try.prog Try.f8 Rows.topdownStepsRow.domain false) (Rows.topdownStepsSpec.post enc Try.prog Try.f8 false true false false) := by
  refine returnsInHanded_of_change_sized (C := Try.checked) ownK started (by kernel_rfl) Try.func8
    (ChangeSpec.witness6 (enc := enc) (C := Try.checked) false ⟨#[], #[.agg #[.int .i64 0, .slice none 0 0, .int .i64 0]], []⟩ 8 (by kernel_rfl) (by kernel_rfl) (by kernel_rfl) (by kernel_rfl)) ?_
  intro W base args ds gs before hval hW _ hsz _
  exact lift1 8 Try.f8 rfl (fun _ _ => rfl) Try.params8 (by kernel_rfl) tdsteps_true W base args ds gs before hval hW hsz
theorem topdownSteps_holds : Rows.TopdownStepsSaid :=
  OpenClaim.holds_of_wide 8 Try.f8 rfl rfl rfl rfl rfl rfl rfl ⟨rfl, rfl, rfl, rfl, rfl⟩ rfl rfl rfl rfl rfl (by kernel_rfl) Try.func8 (by kernel_rfl)
    (of_decide_eq_true (by kernel_rfl)) (by unfold Func.isWrapper; first | (rw [if_pos (by decide +kernel)]; kernel_rfl) | (rw [if_neg (by decide +kernel)]; exact ⟨rfl, rfl⟩))
    (fun os started H enc _ => topdownSteps_lifted os started H enc)
end Go.Proofs.Ytapniojbnochiaa
