/-
  The law BottomupTop returns true, whatever the formula: no condition.
-/
import Derived.Test.YtcgfjacidjebaaaF7
namespace Go.Proofs.Ytcgfjacidjebaaa
open Go.RowKit

set_option maxRecDepth 100000 in
set_option maxHeartbeats 4000000 in
theorem top_true (w : World) (v : Value) (f : Fm) (hv : NodesAt w v f.nodes) (hfo : FmOk f) :
    Calls Try.prog 5 #[fmV v f] w fun e w' => e = .returned (.bool true) ∧ Kept w w' := by
  have ht : f.top ≤ 9223372036854775807 := hfo.2.1.2
  have hh : ∀ W, Kept w W → Calls Try.prog 17 #[fmV v f] W fun e w' => (∃ b, e = .returned (.bool b)) ∧ Kept W w' := fun W hk => heavy_any v f W (hv.kept hk)
  have hc : ∀ W, Kept w W → Calls Try.prog 26 #[fmV v f] W fun e w' => e = .returned (errV (chkF f)) ∧ Kept W w' := fun W hk => check_any v f W (hv.kept hk) ht
  obtain ⟨q, hq⟩ : ∃ q, q = chkF f := ⟨_, rfl⟩
  rw [← hq] at hc
  have hsh : ∃ a n c, v = .slice a n c ∧ n = f.nodes.length := by obtain ⟨a, c, h, _⟩ := hv; exact ⟨a, _, c, h, rfl⟩
  have HQ := Lib.hid hq
  have HV := Lib.hid hv
  obtain ⟨a, n, c, rfl, hnn⟩ := hsh
  have HNN := Lib.hid hnn
  clear hnn
  obtain ⟨vars, nodes, top⟩ := f
  have HH : Hid (∀ W, Kept w W → Calls Try.prog 17 #[.agg #[.int .i64 vars, .slice a n c, .int .i64 top]] W fun e w' => (∃ b, e = .returned (.bool b)) ∧ Kept W w') := Lib.hid hh
  have HC : Hid (∀ W, Kept w W → Calls Try.prog 26 #[.agg #[.int .i64 vars, .slice a n c, .int .i64 top]] W fun e w' => e = .returned (errV q) ∧ Kept W w') := Lib.hid hc
  have HA : Hid (∀ W, Calls Try.prog 16 #[] W fun e w' => e = .returned (.bool true) ∧ Kept W w') := Lib.hid fun W => awake_ok W
  show Calls _ _ #[.agg #[.int .i64 vars, .slice a n c, .int .i64 top]] _ _
  clear hv hh hc hq ht hfo
  go_enter Try.func5, Try.ntmps5
  go_wp2_with (go_at_call 16; refine (HA.out _).mono ?_; rintro e w1 ⟨rfl, hk1⟩; obtain ⟨c0, c1, c2⟩ := fm_cells hk1)
  refine (HH.out _ (((Kept.refl _).alloc _).trans hk1)).mono ?_
  rintro e w2 ⟨⟨b, rfl⟩, hk2⟩
  have K2 := Lib.hid (hk1.trans hk2)
  clear hk1 hk2 c0 c1 c2
  obtain ⟨c0, c1, c2⟩ := fm_cells K2.out
  cases b with
  | true =>
    go_wp2_with (go_at_call 16; refine (HA.out _).mono ?_; rintro e w3 ⟨rfl, hk3⟩)
    go_ret
    exact ⟨rfl, (((Kept.refl _).alloc _).trans K2.out).trans hk3⟩
  | false =>
    go_wp2_with fail
    refine (HC.out _ (((Kept.refl _).alloc _).trans K2.out)).mono ?_
    rintro e w3 ⟨rfl, hk3⟩
    have K3 := Lib.hid (K2.out.trans hk3)
    clear hk3 c0 c1 c2
    obtain ⟨c0, c1, c2⟩ := fm_cells K3.out
    by_cases hq0 : q = 0
    · have hck := HQ.out.symm.trans hq0
      subst hq0
      rw [errV_zero]
      obtain ⟨V, T, hok⟩ := ok_of _ hck
      have e1 : vars = (V : Int) := hok.vars
      have e2 : top = (T : Int) := hok.top
      have hT := hok.tlt
      have hV := hok.v24
      have hN9 : nodes.length ≤ 128 := hok.n128
      simp only at hT
      have fc := fam_cases (.slice a n c) ⟨vars, nodes, top⟩ V T hok hck ⟨a, n, c, rfl⟩
      subst e1 e2
      have HVK := Lib.hid (fun W (hk : Kept w3 W) => HV.out.kept (((((Kept.refl _).alloc _).trans K3.out)).trans hk))
      rcases fc with ⟨q, hq, hfc⟩ | ⟨l, hl, hs, hfc⟩
      · have hqe : errV q = .iface 45 (.int .i64 q) := errV_pos (by omega)
        have HF := Lib.hid (fun W hk => (hfc W (HVK.out W hk)).1)
        have HG := Lib.hid (fun W hk => (hfc W (HVK.out W hk)).2)
        rw [hqe] at HF HG
        have HN : Hid (∀ W, Calls Try.prog 20 #[.iface 45 (.int .i64 q)] W fun e w' => e = .returned (.int .i64 q) ∧ W = w') := Lib.hid fun W => by
          have := num_eq q W (by omega)
          rw [hqe] at this
          exact this
        clear hfc hqe hq hck hok
        go_wp2_with fail
        refine (HF.out _ (Kept.refl _)).mono ?_
        rintro e w4 ⟨rfl, hk4⟩
        have K4 := Lib.hid (K3.out.trans hk4)
        clear c0 c1 c2
        obtain ⟨c0, c1, c2⟩ := fm_cells K4.out
        go_wp2_with fail
        refine (HG.out _ hk4).mono ?_
        rintro e w5 ⟨rfl, hk5⟩
        have K5 := Lib.hid (K4.out.trans hk5)
        clear c0 c1 c2 hk4 hk5
        go_wp2_with (go_at_call 20; refine (HN.out _).mono ?_; rintro e w6 ⟨rfl, rfl⟩)
        go_ret
        exact ⟨rfl, ((Kept.refl _).alloc _).trans K5.out⟩
      · have HF := Lib.hid (fun W hk => (hfc W (HVK.out W hk)).1)
        have HG := Lib.hid (fun W hk => (hfc W (HVK.out W hk)).2)
        have HN : Hid (∀ W, Calls Try.prog 20 #[.nilIface] W fun e w' => e = .returned (.int .i64 0) ∧ W = w') := Lib.hid fun W => num_eq 0 W (by omega)
        have hll : l.length = nodes.length := len_famsUp V _ nodes nodes.length l hl
        have HLL := Lib.hid hll
        clear hfc hck hok hll hl hs
        go_wp2_with fail
        refine (HF.out _ (Kept.refl _)).mono ?_
        rintro e w4 ⟨⟨v4, rfl, ho4⟩, hk4⟩
        have K4 := Lib.hid (K3.out.trans hk4)
        clear c0 c1 c2
        obtain ⟨c0, c1, c2⟩ := fm_cells K4.out
        have O4 := Lib.hid ho4
        clear ho4
        go_wp2_with fail
        refine (HG.out _ hk4).mono ?_
        rintro e w5 ⟨⟨v5, rfl, ho5⟩, hk5⟩
        have K5 := Lib.hid (K4.out.trans hk5)
        have O5 := Lib.hid ho5
        clear c0 c1 c2 hk4
        obtain ⟨c0, c1, c2⟩ := fm_cells K5.out
        by_cases hTV : T < V
        · have ho6 := O5.out
          rw [if_pos hTV] at ho6
          have O6 := Lib.hid ho6
          clear ho6 O5
          obtain ⟨a5, n5, k5, rfl⟩ := O6.out.1.ints.shape
          have h1 : (T : Int) < (V : Int) := by omega
          have HI : Hid (∀ va W, Kept w5 W → SetsAt W va [2 ^ T] → Calls Try.prog 22 #[.slice a5 n5 k5, va] W fun e w' => e = .returned (.bool true) ∧ Kept W w') := Lib.hid fun va W hk hs => ints_true _ _ W (O6.out.1.ints.kept hk) hs.1
          go_wp2_with (first
            | (go_at_call 20; refine (HN.out _).mono ?_; rintro e w6 ⟨rfl, rfl⟩)
            | (go_at_call 22; refine (HI.out _ _ ((Kept.refl _).alloc _) (OwnSets.shl w5 T (by omega)).sets).mono ?_; rintro e w6 ⟨rfl, hk6⟩))
          go_ret
          exact ⟨rfl, ((((Kept.refl _).alloc _).trans K5.out).alloc _).trans hk6⟩
        · have ho6 := O5.out
          rw [if_neg hTV] at ho6
          have O6 := Lib.hid ho6
          clear ho6 O5
          obtain ⟨a5, n5, k5, rfl⟩ := O6.out.1.ints.shape
          have h1 : ¬ (T : Int) < (V : Int) := by omega
          obtain ⟨Z, hZ⟩ : ∃ Z, T = V + Z := ⟨T - V, by omega⟩
          subst hZ
          have hz9 : Z ≤ 128 := by have := hN9; omega
          have hnl : n = l.length := HNN.out.trans HLL.out.symm
          have hZl : Z < l.length := by have := HLL.out; omega
          obtain ⟨g4, cap4, rfl, _, _, hcap⟩ := O4.out.shape (fun e => by rw [e] at hZl; simp at hZl)
          obtain ⟨uz, hcz, huz⟩ := O4.out.cell Z hZl
          have hcz5 := hk5.cell hcz
          obtain ⟨za, zn, zc, rfl⟩ := huz.1.ints.shape
          have huz5 := huz.kept hk5
          have hzz : (Z : Int) < (n : Int) := by omega
          have hgd : l.getD (V + Z - V) [] = l[Z] := by rw [show V + Z - V = Z by omega, List.getD_eq_getElem?_getD, List.getElem?_eq_getElem hZl]; rfl
          have HI : Hid (∀ W, Kept w5 W → Calls Try.prog 22 #[.slice a5 n5 k5, .slice za zn zc] W fun e w' => e = .returned (.bool true) ∧ Kept W w') := Lib.hid fun W hk => by
            have h6 := O6.out.1.ints.kept hk
            rw [hgd] at h6
            exact ints_true _ _ W h6 (huz5.1.ints.kept hk)
          rw [← hnl]
          clear hnl hZl hcap hcz huz huz5 hgd O4 O6 hk5
          go_wp2_with (first
            | (go_at_call 20; refine (HN.out _).mono ?_; rintro e w6 ⟨rfl, rfl⟩)
            | (go_at_call 22; refine (HI.out _ (Kept.refl _)).mono ?_; rintro e w6 ⟨rfl, hk6⟩))
          go_ret
          exact ⟨rfl, (((Kept.refl _).alloc _).trans K5.out).trans hk6⟩
    · have hqe : errV q = .iface 45 (.int .i64 q) := errV_pos hq0
      rw [hqe]
      clear hqe
      go_wp2_with (go_at_call 16; refine (HA.out _).mono ?_; rintro e w4 ⟨rfl, hk4⟩)
      go_ret
      exact ⟨rfl, (((Kept.refl _).alloc _).trans K3.out).trans hk4⟩
set_option maxRecDepth 100000 in
theorem bottomupTop_lifted (os : Os) (started : os.Started) (H : Type) (enc : TypeId × Value → H) :
    ReturnsInHanded {} Try.checked os 5 .any (Rows.bottomupTopSpec.pre6 enc Try.prog Try.f5 Rows.bottomupTopRow.domain false) (Rows.bottomupTopSpec.post enc Try.prog Try.f5 false true false false) := by
  refine returnsInHanded_of_change_sized (C := Try.checked) ownK started (by kernel_rfl) Try.func5
    (ChangeSpec.witness6 (enc := enc) (C := Try.checked) false ⟨#[], #[.agg #[.int .i64 0, .slice none 0 0, .int .i64 0]], []⟩ 8 (by kernel_rfl) (by kernel_rfl) (by kernel_rfl) (by kernel_rfl)) ?_
  intro W base args ds gs before hval hW _ hsz _
  exact lift1 5 Try.f5 rfl (fun _ _ => rfl) Try.params5 (by kernel_rfl) (top_true) W base args ds gs before hval hW hsz
theorem bottomupTop_holds : Rows.BottomupTopSaid :=
  OpenClaim.holds_of_wide 5 Try.f5 rfl rfl rfl rfl rfl rfl rfl ⟨rfl, rfl, rfl, rfl, rfl⟩ rfl rfl rfl rfl rfl (by kernel_rfl) Try.func5 (by kernel_rfl)
    (of_decide_eq_true (by kernel_rfl)) (by unfold Func.isWrapper; first | (rw [if_pos (by decide +kernel)]; kernel_rfl) | (rw [if_neg (by decide +kernel)]; exact ⟨rfl, rfl⟩))
    (fun os started H enc _ => bottomupTop_lifted os started H enc)
end Go.Proofs.Ytcgfjacidjebaaa
