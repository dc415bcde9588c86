import Derived.Test.YtapniojbnochiaaZ1m
import Derived.Test.YtapniojbnochiaaK5
/-
  The law TopdownNeeds returns true, whatever the formula. (Printed by gen_Z2.py.)
-/
namespace Go.Proofs.Ytapniojbnochiaa
open Go.RowKit Go.ChangeShapes Go.WideShapes Go.ChangeAt Go.Joins Go.Deep

theorem valsUp_same (V s t : Nat) (nodes : List Nd) (h : ∀ i, i < V → s.testBit i = t.testBit i) : ∀ k, valsUp V s nodes k = valsUp V t nodes k := by
  intro k
  induction k with
  | zero => unfold valsUp; exact List.map_congr_left fun i hi => h i (by simpa using hi)
  | succ k ih => unfold valsUp; rw [ih]
theorem sub_modV (r V : Nat) : subN (r % 2 ^ V) r = true := subN_iff.2 fun i hi => by
  rw [Nat.testBit_mod_two_pow] at hi; simp at hi; exact hi.2
/-- Events of the cut sets are below the number of events. -/
theorem topK_below {V T : Nat} {f : Fm} (hok : Ok f V T) (hs : synK V T f = true) {p : List Nat × List Nat} (h : topK V T f.nodes = some p) : ∀ r ∈ p.1, r < 2 ^ V := by
  obtain ⟨h1, _, h3⟩ := topK_says hok hs h
  intro r hr
  have hv := (h3 r).1 ⟨r, hr, subN_refl r⟩
  have he : valsK V (r % 2 ^ V) f.nodes = valsK V r f.nodes := valsUp_same V _ _ f.nodes (fun i hi => by rw [Nat.testBit_mod_two_pow]; simp [hi]) _
  rw [← he] at hv
  obtain ⟨t, ht, hsub⟩ := (h3 _).2 hv
  have htr : t = r := by
    have hc := h1.1
    rw [← hc] at hr
    exact ((mem_minK_iff p.1 r).1 hr).2 t ht (subN_tr hsub (sub_modV r V))
  subst htr
  have := subN_anti hsub (sub_modV t V)
  rw [this]
  exact Nat.mod_lt _ (Nat.two_pow_pos V)
theorem needs_none {V T : Nat} {f : Fm} (hok : Ok f V T) (hs : synK V T f = true) {p : List Nat × List Nat} (h : topK V T f.nodes = some p) : (valsK V 0 f.nodes).getD T false = decide (ofN p.1 = [0]) := by
  obtain ⟨h1, _, h3⟩ := topK_says hok hs h
  rw [Bool.eq_iff_iff, ← h3, decide_eq_true_eq]
  constructor
  · rintro ⟨t, ht, hsub⟩
    have ht0 : t = 0 := subN_anti hsub (zero_sub t)
    subst ht0
    have : p.1 = [0] := can_eq h1.1 (good_one 0).1 fun s => ⟨fun _ => ⟨0, by simp, zero_sub s⟩, fun _ => ⟨0, ht, zero_sub s⟩⟩
    rw [this]; rfl
  · intro e
    have : p.1 = [0] := by
      cases hp : p.1 with
      | nil => rw [hp] at e; cases e
      | cons a l =>
        rw [hp] at e
        simp [ofN] at e
        rw [e.1, e.2]
    rw [this]
    exact ⟨0, by simp, subN_refl 0⟩
theorem needs_all {V T : Nat} {f : Fm} (hok : Ok f V T) (hs : synK V T f = true) {p : List Nat × List Nat} (h : topK V T f.nodes = some p) : (valsK V (2 ^ V - 1) f.nodes).getD T false = decide (0 < p.1.length) := by
  obtain ⟨_, _, h3⟩ := topK_says hok hs h
  have hlt := topK_below hok hs h
  rw [Bool.eq_iff_iff, ← h3, decide_eq_true_eq]
  constructor
  · rintro ⟨t, ht, _⟩
    exact List.length_pos_of_mem ht
  · intro hl
    obtain ⟨t, ht⟩ := List.exists_mem_of_length_pos hl
    refine ⟨t, ht, subN_iff.2 fun i hi => ?_⟩
    rw [Nat.testBit_two_pow_sub_one]
    simpa using rowLt_of_num (hlt t ht) i hi
theorem lit_zero (W : World) : IntsAt (W.alloc (.cells #[.int .i64 0] 3)) (.slice (some ⟨W.heap.size, 0, none⟩) 1 1) [0] :=
  RowAt.ints (xs := [0]) (RowAt.made W #[.int .i64 0] 3) (by simp) (by simp)
set_option maxRecDepth 100000 in
set_option maxHeartbeats 8000000 in
theorem needs_true (w : World) (v : Value) (f : Fm) (hv : NodesAt w v f.nodes) (hfo : FmOk f) :
    Calls Try.prog 12 #[fmV v f] w fun e w' => e = .returned (.bool true) ∧ Kept w w' := by
  have ht : f.top ≤ 9223372036854775807 := hfo.2.1.2
  have hh : ∀ W, Kept w W → Calls Try.prog 18 #[fmV v f] W fun e w' => (∃ b, e = .returned (.bool b)) ∧ Kept W w' := fun W hk => heavy_any v f W (hv.kept hk)
  have hc : ∀ W, Kept w W → Calls Try.prog 27 #[fmV v f] W fun e w' => e = .returned (errV (chkF f)) ∧ Kept W w' := fun W hk => check_any v f W (hv.kept hk) ht
  obtain ⟨q, hq⟩ : ∃ q, q = chkF f := ⟨_, rfl⟩
  rw [← hq] at hc
  have hsh : ∃ a n c, v = .slice a n c ∧ n = f.nodes.length := by obtain ⟨a, c, h, _⟩ := hv; exact ⟨a, _, c, h, rfl⟩
  have HQ := Lib.hid hq
  have HV := Lib.hid hv
  obtain ⟨a, n, c, rfl, hnn⟩ := hsh
  have HNN := Lib.hid hnn
  clear hnn
  obtain ⟨vars, nodes, top⟩ := f
  have HH : Hid (∀ W, Kept w W → Calls Try.prog 18 #[.agg #[.int .i64 vars, .slice a n c, .int .i64 top]] W fun e w' => (∃ b, e = .returned (.bool b)) ∧ Kept W w') := Lib.hid hh
  have HC : Hid (∀ W, Kept w W → Calls Try.prog 27 #[.agg #[.int .i64 vars, .slice a n c, .int .i64 top]] W fun e w' => e = .returned (errV q) ∧ Kept W w') := Lib.hid hc
  have HA : Hid (∀ W, Calls Try.prog 31 #[] W fun e w' => e = .returned (.bool true) ∧ Kept W w') := Lib.hid fun W => tawake_ok W
  show Calls _ _ #[.agg #[.int .i64 vars, .slice a n c, .int .i64 top]] _ _
  clear hv hh hc hq ht hfo
  go_enter Try.func12, Try.ntmps12
  go_wp2_with (go_at_call 31; refine (HA.out _).mono ?_; rintro e w1 ⟨rfl, hk1⟩; obtain ⟨c0, c1, c2⟩ := fm_cells hk1)
  refine (HH.out _ (((Kept.refl _).alloc _).trans hk1)).mono ?_
  rintro e w2 ⟨⟨b, rfl⟩, hk2⟩
  have K2 := Lib.hid (hk1.trans hk2)
  clear hk1 hk2 c0 c1 c2
  obtain ⟨c0, c1, c2⟩ := fm_cells K2.out
  cases b with
  | true =>
    go_wp2_with (go_at_call 31; refine (HA.out _).mono ?_; rintro e w3 ⟨rfl, hk3⟩)
    go_ret
    exact ⟨rfl, (((Kept.refl _).alloc _).trans K2.out).trans hk3⟩
  | false =>
    go_wp2_with fail
    refine (HC.out _ (((Kept.refl _).alloc _).trans K2.out)).mono ?_
    rintro e w3 ⟨rfl, hk3⟩
    have K3 := Lib.hid (K2.out.trans hk3)
    clear hk3 c0 c1 c2
    obtain ⟨c0, c1, c2⟩ := fm_cells K3.out
    by_cases hq0 : q = 0
    · have hck := HQ.out.symm.trans hq0
      subst hq0
      rw [errV_zero]
      obtain ⟨V, T, hok⟩ := ok_of _ hck
      have e1 : vars = (V : Int) := hok.vars
      have e2 : top = (T : Int) := hok.top
      have hV := hok.v24
      have hN9 : nodes.length ≤ 128 := hok.n128
      have fc := top_cases (.slice a n c) ⟨vars, nodes, top⟩ V T hok hck ⟨a, n, c, rfl⟩
      subst e1 e2
      have HVK := Lib.hid (fun W (hk : Kept w3 W) => HV.out.kept (((((Kept.refl _).alloc _).trans K3.out)).trans hk))
      have HOK := Lib.hid hok
      have HCK := Lib.hid hck
      by_cases hV10 : V ≤ 10
      · have hVi : (V : Int) ≤ 10 := by omega
        rcases fc with ⟨q, hq, hfc⟩ | ⟨p, hl, hs, hfc⟩
        · have HF := Lib.hid (fun W hk => (hfc W (HVK.out W hk)).1)
          have hq : q = 4 ∨ q = 7 := hq.imp (fun h => h.1) fun h => h.1
          have HI : Hid (∀ W c, Calls Try.prog 28 #[errV q, .int .i64 (c : Nat)] W fun e w' => e = .returned (.bool (q == c)) ∧ W = w') := Lib.hid fun W c => is_any q c (by omega) W
          have I7 : Hid (∀ W, Calls Try.prog 28 #[errV q, .int .i64 7] W fun e w' => e = .returned (.bool (q == 7)) ∧ W = w') := Lib.hid fun W => HI.out W 7
          have I4 : Hid (∀ W, Calls Try.prog 28 #[errV q, .int .i64 4] W fun e w' => e = .returned (.bool (q == 4)) ∧ W = w') := Lib.hid fun W => HI.out W 4
          have hqe : errV q = .iface 45 (.int .i64 q) := errV_pos (by omega)
          rw [hqe] at HF I7 I4
          clear hfc hck hok HI hqe
          go_wp2_with fail
          refine (HF.out _ (Kept.refl _)).mono ?_
          rintro e w4 ⟨rfl, hk4⟩
          have K4 := Lib.hid (K3.out.trans hk4)
          clear c0 c1 c2 hk4
          rcases hq with hq | hq
          · rw [show (q == 7) = false by simp; omega] at I7
            rw [show (q == 4) = true by simp; omega] at I4
            clear hq
            go_wp2_with (first
              | (go_at_call 28; (with_reducible refine (I7.out _).mono ?_); rintro e w6 ⟨rfl, rfl⟩)
              | (go_at_call 28; (with_reducible refine (I4.out _).mono ?_); rintro e w6 ⟨rfl, rfl⟩))
            go_ret
            exact ⟨rfl, ((Kept.refl _).alloc _).trans K4.out⟩
          · rw [show (q == 7) = true by simp; omega] at I7
            clear hq
            go_wp2_with (go_at_call 28; (with_reducible refine (I7.out _).mono ?_); rintro e w6 ⟨rfl, rfl⟩)
            go_ret
            exact ⟨rfl, ((Kept.refl _).alloc _).trans K4.out⟩
        · obtain ⟨hgood, hmk, hsay⟩ := topK_says hok hs hl
          have hsub := orTo_sub hok (topK_below hok hs hl) (topK_marked hok hl)
          have hnone := needs_none hok hs hl
          have hall := needs_all hok hs hl
          have hmt := markTo_lt (belowK V T nodes) V hV
          have hot := orTo_lt (l := p.1) fun x hx => by have := hmk x hx; unfold Mk at this; omega
          obtain ⟨z, hz⟩ : ∃ z, z = 2 ^ V := ⟨_, rfl⟩
          have hz9 : z ≤ 1024 := by rw [hz]; exact Nat.pow_le_pow_right (by omega) hV10
          have hz0 : 0 < z := by rw [hz]; exact Nat.two_pow_pos V
          have ew2 : IntKind.i64.wrap ((2 : Int) ^ V) = (z : Int) := by
            rw [show (2 : Int) ^ V = (z : Int) by rw [hz]; simp, IntKind.wrap_i64]; omega
          obtain ⟨z1, hz1⟩ : ∃ z1, z1 = z - 1 := ⟨_, rfl⟩
          have ez1 : (z : Int) - 1 = (z1 : Int) := by omega
          have ez2 : IntKind.i64.wrap ((z : Int) - 1) = (z1 : Int) := by rw [IntKind.wrap_i64]; omega
          have ez3 : IntKind.i64.wrap (z1 : Int) = (z1 : Int) := by rw [IntKind.wrap_i64]; omega
          rw [← hz, ← hz1] at hall
          obtain ⟨nv, hnv⟩ : ∃ nv, nv = (valsK V 0 nodes).getD T false := ⟨_, rfl⟩
          obtain ⟨av, hav⟩ : ∃ av, av = (valsK V z1 nodes).getD T false := ⟨_, rfl⟩
          have HV0 : Hid (∀ W, Kept w3 W → Calls Try.prog 41 #[.agg #[.int .i64 V, .slice a n c, .int .i64 T], .int .i64 0] W fun e w' => e = .returned (.tuple #[.bool nv, .nilIface]) ∧ Kept W w') := Lib.hid fun W hk => by
            rw [hnv]; exact value_any _ ⟨V, nodes, T⟩ V T 0 W (HVK.out W hk) hok hck (Nat.two_pow_pos V)
          have HV1 : Hid (∀ W, Kept w3 W → Calls Try.prog 41 #[.agg #[.int .i64 V, .slice a n c, .int .i64 T], .int .i64 z1] W fun e w' => e = .returned (.tuple #[.bool av, .nilIface]) ∧ Kept W w') := Lib.hid fun W hk => by
            rw [hav]; exact value_any _ ⟨V, nodes, T⟩ V T z1 W (HVK.out W hk) hok hck (by omega)
          obtain ⟨m1, hm1⟩ : ∃ m, m = markTo (belowK V T nodes) V := ⟨_, rfl⟩
          obtain ⟨o1, ho1⟩ : ∃ o, o = orTo p.1 := ⟨_, rfl⟩
          have HFS : Hid (∀ W, Kept w3 W → Calls Try.prog 42 #[.agg #[.int .i64 V, .slice a n c, .int .i64 T]] W fun e w' => e = .returned (.tuple #[.int .i64 m1, .nilIface]) ∧ Kept W w') := Lib.hid fun W hk => by
            rw [hm1]; exact fsupport_any _ ⟨V, nodes, T⟩ V T W (HVK.out W hk) hok hck
          have HLS : Hid (∀ (W : World) (va : Value), SetsAt W va p.1 → Calls Try.prog 43 #[va] W fun e w' => e = .returned (.tuple #[.int .i64 o1, .nilIface]) ∧ Kept W w') := Lib.hid fun W va h => by
            rw [ho1]; exact famsupport_any va p.1 W h hgood.2
          have HSB : Hid (∀ (W : World), Calls Try.prog 44 #[.int .i64 o1, .int .i64 m1] W fun e w' => e = .returned (.bool true) ∧ W = w') := Lib.hid fun W => by
            have := subset_any (o1 : Int) (m1 : Int) W
            rw [subB_subN (by unfold Mk; omega) (by unfold Mk; omega), ho1, hm1, hsub] at this
            rw [ho1, hm1]
            exact this
          have HF := Lib.hid (fun W hk => (hfc W (HVK.out W hk)).1)
          simp only at hnone hall
          rw [← hnv] at hnone
          rw [← hav] at hall
          obtain ⟨ln, hln⟩ : ∃ ln, ln = p.1.length := ⟨_, rfl⟩
          rw [← hln] at hall
          have HLN := Lib.hid hln
          have hln9 : ln ≤ 1024 := by rw [hln]; exact hgood.2
          have HIN : Hid (∀ (W : World) (va : Value), IntsAt (W.alloc (.cells #[.int .i64 0] 3)) va (ofN p.1) → Calls Try.prog 23 #[va, .slice (some ⟨W.heap.size, 0, none⟩) 1 1] (W.alloc (.cells #[.int .i64 0] 3)) fun e w' => e = .returned (.bool nv) ∧ Kept (W.alloc (.cells #[.int .i64 0] 3)) w') := Lib.hid fun W va h => by
            rw [hnone]; exact ints_at _ _ va _ _ h (lit_zero W)
          have hnn : (nv == nv) = true := by cases nv <;> rfl
          have HAL : Hid ((av == decide (0 < ln)) = true) := Lib.hid (by rw [hall]; simp)
          clear hfc hck hok hl hs hgood hmk hsay hsub hnone hall hmt hot hz hz1 hnv hav hm1 ho1 hln HOK HCK
          go_wp2_with fail
          refine (HF.out _ (Kept.refl _)).mono ?_
          rintro e w4 ⟨⟨v4, rfl, ho4⟩, hk4⟩
          have K4 := Lib.hid (K3.out.trans hk4)
          have HK34 := Lib.hid hk4
          have O4 := Lib.hid ho4
          obtain ⟨la, lc, h4, hx4⟩ := ho4.1.ints
          have hol : (ofN p.1).length = ln := by rw [HLN.out]; simp [ofN]
          rw [hol] at h4
          subst h4
          clear c0 c1 c2 hk4 ho4 hx4 hol
          obtain ⟨c0, c1, c2⟩ := fm_cells K4.out
          go_wp2_with fail
          refine (HFS.out _ HK34.out).mono ?_
          rintro e w5 ⟨rfl, hk5⟩
          have K5 := Lib.hid (K4.out.trans hk5)
          have HK35 := Lib.hid (HK34.out.trans hk5)
          have O5 := Lib.hid (O4.out.kept hk5)
          clear c0 c1 c2 hk5 O4
          obtain ⟨c0, c1, c2⟩ := fm_cells K5.out
          go_wp2_with fail
          refine (HLS.out _ _ O5.out.sets).mono ?_
          rintro e w6 ⟨rfl, hk6⟩
          have K6 := Lib.hid (K5.out.trans hk6)
          have HK36 := Lib.hid (HK35.out.trans hk6)
          have O6 := Lib.hid (O5.out.kept hk6)
          clear c0 c1 c2 hk6 O5
          obtain ⟨c0, c1, c2⟩ := fm_cells K6.out
          go_wp2_with fail
          refine (HV0.out _ HK36.out).mono ?_
          rintro e w7 ⟨rfl, hk7⟩
          have K7 := Lib.hid (K6.out.trans hk7)
          have HK37 := Lib.hid (HK36.out.trans hk7)
          have O7 := Lib.hid (O6.out.kept hk7)
          clear c0 c1 c2 hk7 O6
          obtain ⟨c0, c1, c2⟩ := fm_cells K7.out
          go_wp2_with fail
          go_cut [11, 12] (fun p11 p12 wx => p11 = .bool av ∧ p12 = .nilIface ∧ Hid (Kept w7 wx))
          case first =>
            have hV0 : ¬ (V : Int) < 0 := by omega
            go_region_with (go_at_call 41; (with_reducible refine (HV1.out _ (HK37.out.trans (Kept.refl _).drew)).mono ?_); rintro e w8 ⟨rfl, hk8⟩; have y0 := hk8.cell (((Kept.refl w7).drew).cell c0); have y1 := hk8.cell (((Kept.refl w7).drew).cell c1); have y2 := hk8.cell (((Kept.refl w7).drew).cell c2))
            all_goals (go_wp2_with fail; go_meet; exact ⟨rfl, rfl, Lib.hid ((Kept.refl _).drew.trans hk8)⟩)
          case rest =>
            obtain ⟨rfl, rfl, HKX⟩ := hcut
            clear c0 c1 c2
            go_wp2_with (first
              | (go_at_call 44; refine (HSB.out _).mono ?_; rintro e w9 ⟨rfl, rfl⟩)
              | (go_at_call 23; refine (HIN.out _ _ ((O7.out.kept HKX.out).1.ints.kept ((Kept.refl _).alloc _))).mono ?_; rintro e w9 ⟨rfl, hk9⟩))
            go_ret
            exact ⟨by show Ending.returned (Value.bool (av == decide (0 < ln))) = _; rw [HAL.out], ((Kept.refl _).alloc _).trans (K7.out.trans (HKX.out.trans (((Kept.refl _).alloc _).trans hk9)))⟩
      · have hVi : ¬ (V : Int) ≤ 10 := by omega
        clear fc hck hok
        go_wp2_with (go_at_call 31; refine (HA.out _).mono ?_; rintro e w4 ⟨rfl, hk4⟩)
        go_ret
        exact ⟨rfl, (((Kept.refl _).alloc _).trans K3.out).trans hk4⟩
    · have hqe : errV q = .iface 45 (.int .i64 q) := errV_pos hq0
      rw [hqe]
      clear hqe
      go_wp2_with (go_at_call 31; refine (HA.out _).mono ?_; rintro e w4 ⟨rfl, hk4⟩)
      go_ret
      exact ⟨rfl, (((Kept.refl _).alloc _).trans K3.out).trans hk4⟩
set_option maxRecDepth 100000 in
theorem topdownNeeds_lifted (os : Os) (started : os.Started) (H : Type) (enc : TypeId × Value → H) :
    ReturnsInHanded {} Try.checked os 12 .any (Rows.topdownNeedsSpec.pre6 enc Try.prog Try.f12 Rows.topdownNeedsRow.domain false) (Rows.topdownNeedsSpec.post enc Try.prog Try.f12 false true false false) := by
  refine returnsInHanded_of_change_sized (C := Try.checked) ownK started (by kernel_rfl) Try.func12
    (ChangeSpec.witness6 (enc := enc) (C := Try.checked) false ⟨#[], #[.agg #[.int .i64 0, .slice none 0 0, .int .i64 0]], []⟩ 8 (by kernel_rfl) (by kernel_rfl) (by kernel_rfl) (by kernel_rfl)) ?_
  intro W base args ds gs before hval hW _ hsz _
  exact lift1 12 Try.f12 rfl (fun _ _ => rfl) Try.params12 (by kernel_rfl) needs_true W base args ds gs before hval hW hsz
theorem topdownNeeds_holds : Rows.TopdownNeedsSaid :=
  OpenClaim.holds_of_wide 12 Try.f12 rfl rfl rfl rfl rfl rfl rfl ⟨rfl, rfl, rfl, rfl, rfl⟩ rfl rfl rfl rfl rfl (by kernel_rfl) Try.func12 (by kernel_rfl)
    (of_decide_eq_true (by kernel_rfl)) (by unfold Func.isWrapper; first | (rw [if_pos (by decide +kernel)]; kernel_rfl) | (rw [if_neg (by decide +kernel)]; exact ⟨rfl, rfl⟩))
    (fun os started H enc _ => topdownNeeds_lifted os started H enc)
end Go.Proofs.Ytapniojbnochiaa
