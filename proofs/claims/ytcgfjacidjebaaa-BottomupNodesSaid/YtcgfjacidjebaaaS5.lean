/-
  The law BottomupNodes returns true, whatever the formula and the state: no condition.
-/
import Derived.Test.YtcgfjacidjebaaaS2
import Derived.Test.YtcgfjacidjebaaaS3
import Derived.Test.YtcgfjacidjebaaaS4
namespace Go.Proofs.Ytcgfjacidjebaaa
open Go.RowKit Go.ChangeShapes Go.WideShapes Go.ChangeAt Go.Joins Go.Deep

set_option maxRecDepth 100000 in
set_option maxHeartbeats 8000000 in
theorem nodes_true (w : World) (v : Value) (f : Fm) (x : Int) (hv : NodesAt w v f.nodes) (hfo : FmOk f) (hx : (Lit.int .u16 x).wf = true) :
    Calls Try.prog 10 #[fmV v f, .int .u16 x] w fun e w' => e = .returned (.bool true) ∧ Kept w w' := by
  obtain ⟨x0, x9⟩ := bounds_u16 hx
  obtain ⟨X, rfl⟩ := Int.eq_ofNat_of_zero_le x0
  have hX9 : X ≤ 65535 := by omega
  clear hx x0 x9
  have ht : f.top ≤ 9223372036854775807 := hfo.2.1.2
  have hh : ∀ W, Kept w W → Calls Try.prog 17 #[fmV v f] W fun e w' => (∃ b, e = .returned (.bool b)) ∧ Kept W w' := fun W hk => heavy_any v f W (hv.kept hk)
  have hc : ∀ W, Kept w W → Calls Try.prog 26 #[fmV v f] W fun e w' => e = .returned (errV (chkF f)) ∧ Kept W w' := fun W hk => check_any v f W (hv.kept hk) ht
  obtain ⟨q, hq⟩ : ∃ q, q = chkF f := ⟨_, rfl⟩
  rw [← hq] at hc
  have hsh : ∃ a n c, v = .slice a n c ∧ n = f.nodes.length := by obtain ⟨a, c, h, _⟩ := hv; exact ⟨a, _, c, h, rfl⟩
  have HQ := Lib.hid hq
  have HV := Lib.hid hv
  obtain ⟨a, n, c, rfl, hnn⟩ := hsh
  have HNN := Lib.hid hnn
  clear hnn
  obtain ⟨vars, nodes, top⟩ := f
  have HH : Hid (∀ W, Kept w W → Calls Try.prog 17 #[.agg #[.int .i64 vars, .slice a n c, .int .i64 top]] W fun e w' => (∃ b, e = .returned (.bool b)) ∧ Kept W w') := Lib.hid hh
  have HC : Hid (∀ W, Kept w W → Calls Try.prog 26 #[.agg #[.int .i64 vars, .slice a n c, .int .i64 top]] W fun e w' => e = .returned (errV q) ∧ Kept W w') := Lib.hid hc
  have HA : Hid (∀ W, Calls Try.prog 16 #[] W fun e w' => e = .returned (.bool true) ∧ Kept W w') := Lib.hid fun W => awake_ok W
  show Calls _ _ #[.agg #[.int .i64 vars, .slice a n c, .int .i64 top], _] _ _
  clear hv hh hc hq ht hfo
  go_enter Try.func10, Try.ntmps10
  go_wp2_with (go_at_call 16; refine (HA.out _).mono ?_; rintro e w1 ⟨rfl, hk1⟩; obtain ⟨c0, c1, c2⟩ := fm_cells hk1)
  refine (HH.out _ (((Kept.refl _).alloc _).trans hk1)).mono ?_
  rintro e w2 ⟨⟨b, rfl⟩, hk2⟩
  have K2 := Lib.hid (hk1.trans hk2)
  clear hk1 hk2 c0 c1 c2
  obtain ⟨c0, c1, c2⟩ := fm_cells K2.out
  cases b with
  | true =>
    go_wp2_with (go_at_call 16; refine (HA.out _).mono ?_; rintro e w3 ⟨rfl, hk3⟩)
    go_ret
    exact ⟨rfl, (((Kept.refl _).alloc _).trans K2.out).trans hk3⟩
  | false =>
    go_wp2_with fail
    refine (HC.out _ (((Kept.refl _).alloc _).trans K2.out)).mono ?_
    rintro e w3 ⟨rfl, hk3⟩
    have K3 := Lib.hid (K2.out.trans hk3)
    clear hk3 c0 c1 c2
    obtain ⟨c0, c1, c2⟩ := fm_cells K3.out
    by_cases hq0 : q = 0
    · have hck := HQ.out.symm.trans hq0
      subst hq0
      rw [errV_zero]
      obtain ⟨V, T, hok⟩ := ok_of _ hck
      have e1 : vars = (V : Int) := hok.vars
      have e2 : top = (T : Int) := hok.top
      have hV := hok.v24
      have hN9 : nodes.length ≤ 128 := hok.n128
      have fc := fam_cases (.slice a n c) ⟨vars, nodes, top⟩ V T hok hck ⟨a, n, c, rfl⟩
      subst e1 e2
      have HVK := Lib.hid (fun W (hk : Kept w3 W) => HV.out.kept (((((Kept.refl _).alloc _).trans K3.out)).trans hk))
      have HOK := Lib.hid hok
      have HCK := Lib.hid hck
      by_cases hV10 : V ≤ 10
      · have hVi : (V : Int) ≤ 10 := by omega
        rcases fc with ⟨q, hq, hfc⟩ | ⟨l, hl, hs, hfc⟩
        · have HF := Lib.hid (fun W hk => (hfc W (HVK.out W hk)).1)
          have HI : Hid (∀ W c, Calls Try.prog 27 #[errV q, .int .i64 (c : Nat)] W fun e w' => e = .returned (.bool (q == c)) ∧ W = w') := Lib.hid fun W c => is_any q c (by omega) W
          have I7 : Hid (∀ W, Calls Try.prog 27 #[errV q, .int .i64 7] W fun e w' => e = .returned (.bool (q == 7)) ∧ W = w') := Lib.hid fun W => HI.out W 7
          have I4 : Hid (∀ W, Calls Try.prog 27 #[errV q, .int .i64 4] W fun e w' => e = .returned (.bool (q == 4)) ∧ W = w') := Lib.hid fun W => HI.out W 4
          have hqe : errV q = .iface 45 (.int .i64 q) := errV_pos (by omega)
          rw [hqe] at HF I7 I4
          clear hfc hck hok HI hqe
          go_wp2_with fail
          refine (HF.out _ (Kept.refl _)).mono ?_
          rintro e w4 ⟨rfl, hk4⟩
          have K4 := Lib.hid (K3.out.trans hk4)
          clear c0 c1 c2 hk4
          rcases hq with hq | hq
          · rw [show (q == 7) = false by simp; omega] at I7
            rw [show (q == 4) = true by simp; omega] at I4
            clear hq
            go_wp2_with (first
              | (go_at_call 27; (with_reducible refine (I7.out _).mono ?_); rintro e w6 ⟨rfl, rfl⟩)
              | (go_at_call 27; (with_reducible refine (I4.out _).mono ?_); rintro e w6 ⟨rfl, rfl⟩))
            go_ret
            exact ⟨rfl, ((Kept.refl _).alloc _).trans K4.out⟩
          · rw [show (q == 7) = true by simp; omega] at I7
            clear hq
            go_wp2_with (go_at_call 27; (with_reducible refine (I7.out _).mono ?_); rintro e w6 ⟨rfl, rfl⟩)
            go_ret
            exact ⟨rfl, ((Kept.refl _).alloc _).trans K4.out⟩
        · have hT := hok.tlt
          simp only at hT
          obtain ⟨z, hz⟩ : ∃ z, z = 2 ^ V := ⟨_, rfl⟩
          have ew := shlW V hV
          rw [← hz] at ew
          have hz0 : 0 < z := by rw [hz]; exact Nat.two_pow_pos V
          have hz9 : z ≤ 1024 := by rw [hz]; exact Nat.pow_le_pow_right (by omega) hV10
          obtain ⟨st, hst⟩ : ∃ st, st = X % z := ⟨_, rfl⟩
          have est : (X : Int) % (z : Int) = (st : Int) := by rw [hst]; simp
          have hstz : st < 2 ^ V := by rw [hst, ← hz]; exact Nat.mod_lt _ hz0
          have hlen : l.length = nodes.length := len_famsUp V _ nodes nodes.length l hl
          have hnl : n = l.length := HNN.out.trans hlen.symm
          have HVA : Hid (∀ W, Kept w3 W → Calls Try.prog 36 #[.agg #[.int .i64 V, .slice a n c, .int .i64 T], .int .i64 st] W fun e w' => (∃ v', e = .returned (.tuple #[v', .nilIface]) ∧ BoolsAt w' v' ((valsK V st nodes).drop V)) ∧ Kept W w') := Lib.hid fun W hk => valuesN_any _ ⟨V, nodes, T⟩ V T st W (HVK.out W hk) hok hck hstz
          have HBE : Hid (∀ W, Kept w3 W → Calls Try.prog 37 #[.agg #[.int .i64 V, .slice a n c, .int .i64 T]] W fun e w' => ∃ g, e = .returned (.slice (some ⟨g, 0, none⟩) (V + n) (V + n)) ∧ W.heap.size ≤ g ∧ RowAt w' g 4 ((belowK V T nodes).map .bool) ∧ Kept W w') := Lib.hid fun W hk => by
            have := refBelow_any _ ⟨V, nodes, T⟩ V T W (HVK.out W hk) hok
            rw [show (⟨V, nodes, T⟩ : Fm).nodes.length = n from HNN.out.symm] at this
            exact this
          have HF := Lib.hid (fun W hk => (hfc W (HVK.out W hk)).1)
          have hsem : ∀ i (hi : i < l.length), ((belowK V T nodes).getD (V + i) false = true → covB l[i] st = ((valsK V st nodes).drop V).getD i false) ∧ ((belowK V T nodes).getD (V + i) false = false → l[i] = []) := by
            intro i hi
            have hget : l.getD i [] = l[i] := by simp [List.getD_eq_getElem?_getD, hi]
            refine ⟨fun hm => ?_, fun hm => ?_⟩
            · have h1 := up_famsK hok hs hl st i (by rw [← hlen]; exact hi) hm
              rw [hget, ← covB_up] at h1
              have h2 : ((valsK V st nodes).drop V).getD i false = (valsK V st nodes).getD (V + i) false := by simp [List.getD_eq_getElem?_getD]
              rw [h2]
              exact Bool.eq_iff_iff.2 h1
            · rw [← hget]
              exact fams_unmarked V _ nodes nodes.length l hl i hm
          have hgood : ∀ i (hi : i < l.length), Good l[i] := fun i hi => good_famsUp V _ nodes nodes.length l hl _ (List.getElem_mem hi)
          have hvl : ((valsK V st nodes).drop V).length = n := by rw [List.length_drop, show (valsK V st nodes).length = V + nodes.length from len_valsUp V st nodes nodes.length, HNN.out]; simp
          have hml : (belowK V T nodes).length = V + n := by rw [len_belowK, HNN.out]
          obtain ⟨bs, hbs⟩ : ∃ bs, bs = (valsK V st nodes).drop V := ⟨_, rfl⟩
          obtain ⟨mark, hmark⟩ : ∃ m, m = belowK V T nodes := ⟨_, rfl⟩
          rw [← hbs] at HVA hsem hvl
          rw [← hmark] at HBE hsem hml
          have HSEM := Lib.hid hsem
          have HGD := Lib.hid hgood
          have HVL := Lib.hid hvl
          have HML := Lib.hid hml
          have HNL := Lib.hid hnl
          have HMK : Hid (Mk st) := Lib.hid (by unfold Mk; exact lt_pow24 hV hstz)
          have hzn : ((z : Int) == 0) = false := by simp; omega
          have hz0i : (0 : Int) < (z : Int) := by omega
          have etm : Int.tmod (X : Int) (z : Int) = (st : Int) := by rw [Int.tmod_eq_emod_of_nonneg (by omega), est]
          have hn9 : n ≤ 128 := by have := HNN.out; omega
          clear hfc hck hok hl hs hlen hnl hsem hgood hvl hml hbs hmark hst hstz hz HOK HCK
          go_wp2_with fail
          refine (HF.out _ (Kept.refl _)).mono ?_
          rintro e w4 ⟨⟨v4, rfl, ho4⟩, hk4⟩
          have K4 := Lib.hid (K3.out.trans hk4)
          have HK34 := Lib.hid hk4
          clear c0 c1 c2 hk4
          obtain ⟨c0, c1, c2⟩ := fm_cells K4.out
          have O4 := Lib.hid ho4
          obtain ⟨la, ln, lc, rfl⟩ := ho4.sliceS
          clear ho4
          go_wp2_with fail
          refine (HVA.out _ HK34.out).mono ?_
          rintro e w5 ⟨⟨v5, rfl, hv5⟩, hk5⟩
          have K5 := Lib.hid (K4.out.trans hk5)
          have HK35 := Lib.hid (HK34.out.trans hk5)
          have O5 := Lib.hid (O4.out.kept hk5)
          have HV5 := Lib.hid hv5
          obtain ⟨ba, bc, rfl, _⟩ := hv5
          obtain ⟨la', lc', hle, _⟩ := (OwnFams.at O4.out)
          injection hle with h1 h2 h3
          subst h1 h2 h3
          have hbn : bs.length = n := HVL.out
          have hln : l.length = n := HNL.out.symm
          rw [hbn, hln]
          rw [hbn] at HV5
          rw [hln] at O5
          clear c0 c1 c2 hk5 hbn hln O4
          obtain ⟨c0, c1, c2⟩ := fm_cells K5.out
          go_wp2_with fail
          refine (HBE.out _ HK35.out).mono ?_
          rintro e w6 ⟨gm, rfl, hgm, hrm, hk6⟩
          have K6 := Lib.hid (K5.out.trans hk6)
          have O6 := Lib.hid (O5.out.kept hk6)
          have HV6 := Lib.hid (HV5.out.kept hk6)
          have HRM := Lib.hid hrm
          clear c0 c1 c2 hk6 hrm O5 HV5
          obtain ⟨c0, c1, c2⟩ := fm_cells K6.out
          go_wp2_with fail
          go_loopw [11, 12, 13, 75] (fun _ _ _ i wr => ∃ k : Nat, k ≤ n ∧ i = .int .i64 k ∧ Kept w6 wr) (fun _ _ _ i _ => n - (intOf i).toNat)
          case atStart => exact ⟨0, Nat.zero_le _, rfl, Kept.refl _⟩
          case round =>
            obtain ⟨k, hk, rfl, hK⟩ := hrel
            have HKr := Lib.hid hK
            have K7 := Lib.hid (K6.out.trans hK)
            clear c0 c1 c2
            obtain ⟨c0, c1, c2⟩ := fm_cells K7.out
            by_cases hlt : k < n
            · have hkl : k < l.length := by have := HNL.out; omega
              have hmc := (HRM.out.kept hK).cell (i := V + k) (by simp [HML.out]; omega)
              rw [getD_map_bool mark (V + k) (by rw [HML.out]; omega)] at hmc
              have hs := HSEM.out k hkl
              have hg := HGD.out k hkl
              have O7 := O6.out.kept hK
              obtain ⟨g, cap, hge, _, _, _⟩ := O7.shape (by intro e; rw [e] at hkl; simp at hkl)
              injection hge with h1 h2 h3
              subst h1 h3
              clear h2
              obtain ⟨uk, hck, huk⟩ := O7.cell k hkl
              obtain ⟨b5, o5, rfl, hc5⟩ := (by
                obtain ⟨a', c', he, _, _, h⟩ := HV6.out.kept hK
                injection he with h1 h2 h3
                subst h1 h3
                obtain ⟨b, o, h4, h5⟩ := h k (by have := HVL.out; omega)
                exact ⟨b, o, h4, h5⟩ : ∃ b o, ba = some ⟨b, o, none⟩ ∧ wr.cell? ⟨b, o + k, none⟩ = some (.bool (bs.getD k false)))
              obtain ⟨fam, hfam⟩ : ∃ x, x = l[k] := ⟨_, rfl⟩
              rw [← hfam] at huk hs hg
              have HG := Lib.hid hg
              have HU := Lib.hid huk
              have hi1 : (V : Int) + (k : Int) < (V : Int) + (n : Int) := by omega
              have hi2 : (V : Int) + (k : Int) < ((V + n : Nat) : Int) := by omega
              have hi3 : (k : Int) < (n : Int) := by omega
              clear O7 hg hfam hK
              cases hmk : mark.getD (V + k) false with
              | false =>
                rw [hmk] at hmc
                have hf0 := hs.2 hmk
                subst hf0
                obtain ⟨ua, un, uc, hue⟩ := huk.1.ints.shape
                have hun : un = 0 := by
                  obtain ⟨_, _, h, _⟩ := huk.1.ints
                  rw [hue] at h
                  injection h
                subst hun
                rw [hue] at hck
                clear hmk hs hue huk
                go_wp2
                go_roundw
                case rel => exact ⟨k + 1, by omega, by go_num, HKr.out⟩
                case measure => simp [intOf]; omega
              | true =>
                rw [hmk] at hmc
                have hcb := hs.1 hmk
                obtain ⟨bv, hbv⟩ : ∃ x, x = bs.getD k false := ⟨_, rfl⟩
                rw [← hbv] at hcb hc5
                have HCV : Hid (∀ W, Kept wr W → Calls Try.prog 38 #[uk, .int .i64 st] W fun e w' => e = .returned (.tuple #[.bool bv, .nilIface]) ∧ Kept W w') := Lib.hid fun W hk => by
                  have := covers_any uk fam st W (HU.out.kept hk).sets HMK.out HG.out.2
                  rw [hcb] at this
                  exact this
                have HCH : Hid (∀ W, Kept wr W → Calls Try.prog 39 #[uk] W fun e w' => e = .returned .nilIface ∧ Kept W w') := Lib.hid fun W hk => fcheck_good uk fam W (HU.out.kept hk).sets HG.out
                obtain ⟨ua, un, uc, rfl⟩ := huk.1.ints.shape
                clear hmk hs hcb hbv huk
                go_wp2_with fail
                refine (HCV.out _ (Kept.refl _)).mono ?_
                rintro e w8 ⟨rfl, hk8⟩
                have hck8 := hk8.cell hck
                have hc58 := hk8.cell hc5
                go_wp2_with fail
                refine (HCH.out _ hk8).mono ?_
                rintro e w9 ⟨rfl, hk9⟩
                have hc59 := hk9.cell hc58
                have hbb : (bv != bv) = false := by simp
                go_wp2
                go_roundw
                case rel => exact ⟨k + 1, by omega, by go_num, (HKr.out.trans hk8).trans hk9⟩
                case measure => simp [intOf]; omega
            · clear hK
              go_wp2
              go_ret
              exact ⟨rfl, ((Kept.refl _).alloc _).trans K7.out⟩
      · have hVi : ¬ (V : Int) ≤ 10 := by omega
        clear fc hck hok
        go_wp2_with (go_at_call 16; refine (HA.out _).mono ?_; rintro e w4 ⟨rfl, hk4⟩)
        go_ret
        exact ⟨rfl, (((Kept.refl _).alloc _).trans K3.out).trans hk4⟩
    · have hqe : errV q = .iface 45 (.int .i64 q) := errV_pos hq0
      rw [hqe]
      clear hqe
      go_wp2_with (go_at_call 16; refine (HA.out _).mono ?_; rintro e w4 ⟨rfl, hk4⟩)
      go_ret
      exact ⟨rfl, (((Kept.refl _).alloc _).trans K3.out).trans hk4⟩
set_option maxRecDepth 100000 in
theorem bottomupNodes_lifted (os : Os) (started : os.Started) (H : Type) (enc : TypeId × Value → H) :
    ReturnsInHanded {} Try.checked os 10 .any (Rows.bottomupNodesSpec.pre6 enc Try.prog Try.f10 Rows.bottomupNodesRow.domain false) (Rows.bottomupNodesSpec.post enc Try.prog Try.f10 false true false false) := by
  refine returnsInHanded_of_change_sized (C := Try.checked) ownK started (by kernel_rfl) Try.func10
    (ChangeSpec.witness6 (enc := enc) (C := Try.checked) false ⟨#[], #[.agg #[.int .i64 0, .slice none 0 0, .int .i64 0], .int .u16 0], []⟩ 8 (by kernel_rfl) (by kernel_rfl) (by kernel_rfl) (by kernel_rfl)) ?_
  intro W base args ds gs before hval hW _ hsz _
  exact lift2 10 Try.f10 53 .u16 Try.underlying53 (by kernel_rfl) (of_decide_eq_true (by kernel_rfl)) rfl (fun _ _ _ => rfl) Try.params10 (by kernel_rfl) nodes_true W base args ds gs before hval hW hsz
theorem bottomupNodes_holds : Rows.BottomupNodesSaid :=
  OpenClaim.holds_of_wide 10 Try.f10 rfl rfl rfl rfl rfl rfl rfl ⟨rfl, rfl, rfl, rfl, rfl⟩ rfl rfl rfl rfl rfl (by kernel_rfl) Try.func10 (by kernel_rfl)
    (of_decide_eq_true (by kernel_rfl)) (by unfold Func.isWrapper; first | (rw [if_pos (by decide +kernel)]; kernel_rfl) | (rw [if_neg (by decide +kernel)]; exact ⟨rfl, rfl⟩))
    (fun os started H enc _ => bottomupNodes_lifted os started H enc)
end Go.Proofs.Ytcgfjacidjebaaa
