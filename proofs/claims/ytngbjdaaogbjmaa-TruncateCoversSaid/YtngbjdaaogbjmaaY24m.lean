import Derived.Test.YtngbjdaaogbjmaaY18m
import Derived.Test.YtngbjdaaogbjmaaK3
/-
  The law TruncateCovers returns true, whatever the arguments: no condition.
-/
namespace Go.Proofs.Ytngbjdaaogbjmaa
open Go.RowKit Go.ChangeShapes Go.WideShapes Go.ChangeAt Go.Joins Go.Deep

theorem byR_cases' (V T : Nat) (f : Fm) (m : Nat) (hm : m ≤ 24) : ∃ q R F, Tr.byR V T f m = (q, R, F) ∧ ((q = 0 ∧ synK V T f = true ∧ topT V T (Tr.overP m) f.nodes = some (R, F)) ∨ ((q = 4 ∨ q = 7) ∧ R = [] ∧ F = [])) := by
  unfold Tr.byR
  cases hs : synK V T f with
  | false => exact ⟨7, [], [], by simp, .inr ⟨.inr rfl, rfl, rfl⟩⟩
  | true =>
    rw [if_neg (by simp), if_neg (by omega)]
    cases ht : topT V T (Tr.overP m) f.nodes with
    | none => exact ⟨4, [], [], rfl, .inr ⟨.inl rfl, rfl, rfl⟩⟩
    | some p => exact ⟨0, p.1, p.2, rfl, .inl ⟨rfl, rfl, rfl⟩⟩
set_option maxRecDepth 100000 in
set_option maxHeartbeats 8000000 in
theorem covers_true (w : World) (v : Value) (f : Fm) (x y : Int) (hv : NodesAt w v f.nodes) (hfo : FmOk f) (hx : (Lit.int .u8 x).wf = true) (hy : (Lit.int .u16 y).wf = true) :
    Calls Try.prog 10 #[fmV v f, .int .u8 x, .int .u16 y] w fun e w' => e = .returned (.bool true) ∧ Kept w w' := by
  obtain ⟨x0, x9⟩ := bounds_u8 hx
  obtain ⟨X, rfl⟩ := Int.eq_ofNat_of_zero_le x0
  have hX9 : X ≤ 255 := by omega
  obtain ⟨y0, y9⟩ := bounds_u16 hy
  obtain ⟨Y, rfl⟩ := Int.eq_ofNat_of_zero_le y0
  have hY9 : Y ≤ 65535 := by omega
  clear hx x0 x9 hy y0 y9
  have ht : f.top ≤ 9223372036854775807 := hfo.2.1.2
  have hh : ∀ W, Kept w W → Calls Try.prog 44 #[fmV v f] W fun e w' => (∃ b, e = .returned (.bool b)) ∧ Kept W w' := fun W hk => heavy_any v f W (hv.kept hk)
  have hc : ∀ W, Kept w W → Calls Try.prog 45 #[fmV v f] W fun e w' => e = .returned (errV (chkF f)) ∧ Kept W w' := fun W hk => check_any v f W (hv.kept hk) ht
  obtain ⟨q, hq⟩ : ∃ q, q = chkF f := ⟨_, rfl⟩
  rw [← hq] at hc
  have hsh : ∃ a n c, v = .slice a n c ∧ n = f.nodes.length := by obtain ⟨a, c, h, _⟩ := hv; exact ⟨a, _, c, h, rfl⟩
  have HQ := Lib.hid hq
  have HV := Lib.hid hv
  obtain ⟨a, n, c, rfl, hnn⟩ := hsh
  clear hnn
  obtain ⟨vars, nodes, top⟩ := f
  have HH : Hid (∀ W, Kept w W → Calls Try.prog 44 #[.agg #[.int .i64 vars, .slice a n c, .int .i64 top]] W fun e w' => (∃ b, e = .returned (.bool b)) ∧ Kept W w') := Lib.hid hh
  have HC : Hid (∀ W, Kept w W → Calls Try.prog 45 #[.agg #[.int .i64 vars, .slice a n c, .int .i64 top]] W fun e w' => e = .returned (errV q) ∧ Kept W w') := Lib.hid hc
  have HA : Hid (∀ W, Calls Try.prog 43 #[] W fun e w' => e = .returned (.bool true) ∧ Kept W w') := Lib.hid fun W => wawake_ok W
  show Calls _ _ #[.agg #[.int .i64 vars, .slice a n c, .int .i64 top], _, _] _ _
  clear hv hh hc hq ht hfo
  go_enter Try.func10, Try.ntmps10
  go_wp2_with (go_at_call 43; refine (HA.out _).mono ?_; rintro e w1 ⟨rfl, hk1⟩; obtain ⟨c0, c1, c2⟩ := fm_cells hk1)
  refine (HH.out _ (((Kept.refl _).alloc _).trans hk1)).mono ?_
  rintro e w2 ⟨⟨b, rfl⟩, hk2⟩
  have K2 := Lib.hid (hk1.trans hk2)
  clear hk1 hk2 c0 c1 c2
  obtain ⟨c0, c1, c2⟩ := fm_cells K2.out
  cases b with
  | true =>
    go_wp2_with (go_at_call 43; refine (HA.out _).mono ?_; rintro e w3 ⟨rfl, hk3⟩)
    go_ret
    exact ⟨rfl, (((Kept.refl _).alloc _).trans K2.out).trans hk3⟩
  | false =>
    go_wp2_with fail
    refine (HC.out _ (((Kept.refl _).alloc _).trans K2.out)).mono ?_
    rintro e w3 ⟨rfl, hk3⟩
    have K3 := Lib.hid (K2.out.trans hk3)
    clear hk3 c0 c1 c2
    obtain ⟨c0, c1, c2⟩ := fm_cells K3.out
    by_cases hq0 : q = 0
    · have hck := HQ.out.symm.trans hq0
      subst hq0
      rw [errV_zero]
      obtain ⟨V, T, hok⟩ := ok_of _ hck
      have e1 : vars = (V : Int) := hok.vars
      have e2 : top = (T : Int) := hok.top
      have hV := hok.v24
      obtain ⟨m, hm⟩ : ∃ m, m = X % 5 := ⟨_, rfl⟩
      have hm5 : m ≤ 4 := by omega
      have em : (X : Int) % 5 = (m : Int) := by omega
      obtain ⟨qb, R, F, hby, hcs⟩ := byR_cases' V T ⟨vars, nodes, top⟩ m (by omega)
      subst e1 e2
      have HVK := Lib.hid (fun W (hk : Kept w3 W) => HV.out.kept (((((Kept.refl _).alloc _).trans K3.out)).trans hk))
      have HB : Hid (∀ W, Kept w3 W → Calls Try.prog 46 #[.agg #[.int .i64 V, .slice a n c, .int .i64 T], .int .i64 m] W fun e w' => (∃ kv fv, e = .returned (.tuple #[.agg #[kv, fv], errV qb]) ∧ IntsAt w' kv (ofN R) ∧ IntsAt w' fv (ofN F)) ∧ Kept W w') := Lib.hid fun W hk => by
        have h := Tr.tby_any (.slice a n c) ⟨V, nodes, T⟩ V T m W (HVK.out W hk) hok hck
        rw [hby] at h
        exact h
      have hv0 : ¬ (V : Int) < 0 := by omega
      by_cases hV10 : V ≤ 10
      · have hVi : (V : Int) ≤ 10 := by omega
        obtain ⟨z, hz⟩ : ∃ z, z = 2 ^ V := ⟨_, rfl⟩
        have ew := shlW V hV
        rw [← hz] at ew
        have hz0 : 0 < z := by rw [hz]; exact Nat.two_pow_pos V
        have hz9 : z ≤ 1024 := by rw [hz]; exact Nat.pow_le_pow_right (by omega) hV10
        obtain ⟨st, hst⟩ : ∃ st, st = Y % z := ⟨_, rfl⟩
        have est : (Y : Int) % (z : Int) = (st : Int) := by rw [hst]; simp
        have hstz : st < 2 ^ V := by rw [hst, ← hz]; exact Nat.mod_lt _ hz0
        have hst24 : Mk st := lt_pow24 hV hstz
        have HVAL := Lib.hid (fun W (hk : Kept w3 W) => value_any (.slice a n c) ⟨V, nodes, T⟩ V T st W (HVK.out W hk) hok hck hstz)
        obtain ⟨E1, hE1⟩ : ∃ E, E = errV qb := ⟨_, rfl⟩
        rw [← hE1] at HB
        have HE1 := Lib.hid hE1
        have hqb : qb = 0 ∨ (qb = 4 ∨ qb = 7) := hcs.elim (fun h => .inl h.1) (fun h => .inr h.1)
        obtain ⟨tv, htv⟩ : ∃ tv, tv = (valsK V st nodes).getD T false := ⟨_, rfl⟩
        have hkc : qb = 0 → Good R ∧ Good F ∧ (∀ r ∈ R, Mk r) ∧ (∀ r ∈ F, Mk r) ∧ (covB R st = true → tv = true) ∧ (tv = true → covB R st = true ∨ covB F st = true) := by
          intro h1
          rcases hcs with ⟨_, hs, htt⟩ | ⟨h, _⟩
          · have hT : TopT V T ⟨V, nodes, T⟩ (Tr.overP m) R F := topT_says hok hs _ htt
            refine ⟨hT.goodR, hT.goodF, hT.mkR, hT.mkF, fun h => ?_, fun h => ?_⟩
            · rw [htv]; exact hT.sound st ((covB_up R st).1 h)
            · rw [htv] at h
              exact (hT.covers st h).imp (covB_up R st).2 (covB_up F st).2
          · omega
        rw [show (valsK V st (⟨V, nodes, T⟩ : Fm).nodes).getD T false = tv from htv.symm] at HVAL
        have HKC := Lib.hid hkc
        have HST := Lib.hid hst24
        clear hby hcs hok hck hkc hm hE1 hst hz hstz hst24 htv
        go_wp2_with fail
        refine (HB.out _ (Kept.refl _)).mono ?_
        rintro e w4 ⟨⟨kv, fv, rfl, hkv, hfv⟩, hk4⟩
        obtain ⟨ka, kn, kc, rfl⟩ := hkv.shape
        obtain ⟨fa, fn, fc, rfl⟩ := hfv.shape
        have K4 := Lib.hid (K3.out.trans hk4)
        have HK34 := Lib.hid hk4
        have HKV := Lib.hid hkv
        have HFV := Lib.hid hfv
        clear c0 c1 c2 hkv hfv hk4
        obtain ⟨c0, c1, c2⟩ := fm_cells (K4.out.alloc (.cells #[.slice ka kn kc, .slice fa fn fc] 69))
        have hE1 := HE1.out
        clear HE1
        rcases hqb with hqb | hqb
        · rw [hqb, errV_zero] at hE1
          obtain ⟨hg1, hg2, hm1, hm2, hsound, hcov⟩ := HKC.out hqb
          subst hE1
          have HCA := Lib.hid (fun W (hk : Kept w4 W) => covers_any (.slice ka kn kc) R st W ⟨HKV.out.kept hk, hm1⟩ HST.out hg1.2)
          have HCB := Lib.hid (fun W (hk : Kept w4 W) => covers_any (.slice fa fn fc) F st W ⟨HFV.out.kept hk, hm2⟩ HST.out hg2.2)
          obtain ⟨ca, hca⟩ : ∃ ca, ca = covB R st := ⟨_, rfl⟩
          obtain ⟨cb, hcb⟩ : ∃ cb, cb = covB F st := ⟨_, rfl⟩
          rw [← hca] at HCA hsound hcov
          rw [← hcb] at HCB hcov
          have hfin : (tv = false ∧ ca = false) ∨ (tv = true ∧ ca = true) ∨ (tv = true ∧ ca = false ∧ cb = true) := by
            cases tv <;> cases ca <;> cases cb <;> simp_all
          clear hqb hg1 hg2 hm1 hm2 hsound hcov hca hcb
          go_wp2_with fail
          refine (HVAL.out _ (HK34.out.alloc _)).mono ?_
          rintro e w5 ⟨rfl, hk5⟩
          have K5 := Lib.hid (((Kept.refl w4).alloc _).trans hk5)
          obtain ⟨d0, d1⟩ : w5.cell? ⟨w4.heap.size, 0, none⟩ = some (.slice ka kn kc) ∧ w5.cell? ⟨w4.heap.size, 1, none⟩ = some (.slice fa fn fc) := ⟨hk5.cell (by simp), hk5.cell (by simp)⟩
          clear hk5 c0 c1 c2
          go_wp2_with fail
          refine (HCA.out _ K5.out).mono ?_
          rintro e w6 ⟨rfl, hk6⟩
          have K6 := Lib.hid (K5.out.trans hk6)
          have d1' := hk6.cell d1
          clear hk6 d0 d1
          go_wp2_with fail
          refine (HCB.out _ K6.out).mono ?_
          rintro e w7 ⟨rfl, hk7⟩
          rcases hfin with ⟨rfl, rfl⟩ | ⟨rfl, rfl⟩ | ⟨rfl, rfl, rfl⟩
          all_goals
            go_wp2
            go_ret
            exact ⟨rfl, ((((Kept.refl _).alloc _).trans K4.out).trans K6.out).trans hk7⟩
        · rw [errV_pos (by omega)] at hE1
          have HR1 : Hid (∀ W, Calls Try.prog 47 #[.iface 56 (.int .i64 (qb : Nat))] W fun e w' => e = .returned (.bool true) ∧ W = w') := Lib.hid fun W => by
            have h := refused_any qb hqb W
            rw [errV_pos (by omega)] at h
            exact h
          subst hE1
          clear hqb
          go_wp2_with (go_at_call 47; refine (HR1.out _).mono ?_; rintro e w6 ⟨rfl, rfl⟩)
          go_ret
          exact ⟨rfl, (((Kept.refl _).alloc _).trans K4.out).alloc _⟩
      · have hVi : ¬ (V : Int) ≤ 10 := by omega
        clear hby hcs hok hck hm
        go_wp2_with (go_at_call 43; refine (HA.out _).mono ?_; rintro e w4 ⟨rfl, hk4⟩)
        go_ret
        exact ⟨rfl, (((Kept.refl _).alloc _).trans K3.out).trans hk4⟩
    · have hqe : errV q = .iface 56 (.int .i64 q) := errV_pos hq0
      rw [hqe]
      clear hqe
      go_wp2_with (go_at_call 43; refine (HA.out _).mono ?_; rintro e w4 ⟨rfl, hk4⟩)
      go_ret
      exact ⟨rfl, (((Kept.refl _).alloc _).trans K3.out).trans hk4⟩
set_option maxRecDepth 100000 in
/-- A law of a formula and two numbers of two kinds: from its walk to its row's step. -/
theorem lift3b {s : ChangeSpec} (F : FuncId) (fn : Func) (t2 t3 : TypeId) (k2 k3 : IntKind) (ht2 : Try.prog.underlying t2 = some (.int k2)) (hr2 : Try.prog.readableRec t2 = true) (hlt2 : t2 < Try.prog.types.size) (ht3 : Try.prog.underlying t3 = some (.int k3)) (hr3 : Try.prog.readableRec t3 = true) (hlt3 : t3 < Try.prog.types.size) (hs1 : s.vars = []) (hs2 : ∀ (H : Type) (d1 d2 d3 : DataW H), s.fn H [d1, d2, d3] = { results := [.lit (.bool true)], args := [d1, d2, d3] })
    (hp : fn.params = #[64, t2, t3]) (hr : fn.resultTypes = #[4])
    (walk : ∀ (W : World) (u : Value) (f : Fm) (x y : Int), NodesAt W u f.nodes → FmOk f → (Lit.int k2 x).wf = true → (Lit.int k3 y).wf = true → Calls Try.prog F #[fmV u f, .int k2 x, .int k3 y] W fun e w' => e = .returned (.bool true) ∧ Kept W w')
    {H : Type} {enc : TypeId × Value → H} (W : World) (base : Nat) (args : Array Value) (ds gs : List (DataW H)) (before : List MemPlace)
    (hval : ∀ (j : Nat) t v, fn.params[j]? = some t → args[j]? = some v → Value.okWide Try.prog W .any base t v)
    (hW : DataW.Whole enc Try.prog fn.params.toList s.vars false W args.toList ds gs before)
    (hsz : (DataW.weightsEach Try.prog (fn.params.toList ++ s.plain.varTypes Try.prog) (ds ++ gs)).all (· ≤ reachBytes) = true) :
    Calls Try.prog F args W fun e W' => ∃ v, e = .returned v ∧ s.post enc Try.prog fn false true false false W args v W' := by
  have hW' := hW
  obtain ⟨p, q, hA, hV, rfl, hfz, _⟩ := hW
  rw [hs1] at hV
  obtain ⟨rfl, rfl⟩ := trodVars_none hV
  rw [hp] at hA hval hsz
  obtain ⟨v0, v1, v2, d0, d1, d2, p0, p1, p2, rfl, rfl, rfl, h0, h1, h2⟩ := trodAll_three hA
  have h0k := h0
  have h1k := h1
  have h2k := h2
  obtain ⟨u, f, rfl, hn, hok⟩ := fm_open (hval 0 _ _ rfl rfl) (fun n hn => by
    have := List.all_eq_true.1 hsz n (DataW.weights_mem_each (j := 0) rfl rfl n hn)
    simpa using this) h0
  obtain ⟨x, rfl, rfl, rfl, wx⟩ := open_int ht2 (hval 1 _ _ rfl rfl) h1
  obtain ⟨y, rfl, rfl, rfl, wy⟩ := open_int ht3 (hval 2 _ _ rfl rfl) h2
  have hlt : ∀ x ∈ p0, x.block < W.heap.size := fun x hx => hW'.lt x (by simp [hx])
  refine (walk W u f x y hn hok wx wy).mono fun e W' ⟨he, hk⟩ => ?_
  subst he
  refine ⟨_, rfl, [d0, .lit (.int k2 x), .lit (.int k3 y)], [], ((p0 ++ []) ++ []) ++ [], [], p0 ++ ([] ++ []), [], hW', ?_, ?_, ?_, Below.frame hk _, fun h => by cases h⟩
  · rw [hr]
    simp only [List.append_nil, hs2]
    exact trodAll_mk1 (shut_bool Try.underlying4 _)
  · rw [hp]
    simp only [List.append_nil, hs2]
    have := trodAll_mk3 (Below.trod laidOutK (by kernel_rfl) (of_decide_eq_true (by kernel_rfl)) h0k hk hlt) (Below.trod laidOutK hr2 hlt2 h1k hk (fun x hx => by cases hx)) (Below.trod laidOutK hr3 hlt3 h2k hk (fun x hx => by cases hx))
    simpa using this
  · rw [hs1]
    simp only [List.append_nil, hs2]
    rfl
set_option maxRecDepth 100000 in
theorem truncateCovers_lifted (os : Os) (started : os.Started) (H : Type) (enc : TypeId × Value → H) :
    ReturnsInHanded {} Try.checked os 10 .any (Rows.truncateCoversSpec.pre6 enc Try.prog Try.f10 Rows.truncateCoversRow.domain false) (Rows.truncateCoversSpec.post enc Try.prog Try.f10 false true false false) := by
  refine returnsInHanded_of_change_sized (C := Try.checked) ownK started (by kernel_rfl) Try.func10
    (ChangeSpec.witness6 (enc := enc) (C := Try.checked) false ⟨#[], #[.agg #[.int .i64 0, .slice none 0 0, .int .i64 0], .int .u8 0, .int .u16 0], []⟩ 8 (by kernel_rfl) (by kernel_rfl) (by kernel_rfl) (by kernel_rfl)) ?_
  intro W base args ds gs before hval hW _ hsz _
  exact lift3b 10 Try.f10 5 65 .u8 .u16 Try.underlying5 (by kernel_rfl) (of_decide_eq_true (by kernel_rfl)) Try.underlying65 (by kernel_rfl) (of_decide_eq_true (by kernel_rfl)) rfl (fun _ _ _ _ => rfl) Try.params10 (by kernel_rfl) covers_true W base args ds gs before hval hW hsz
theorem truncateCovers_holds : Rows.TruncateCoversSaid :=
  OpenClaim.holds_of_wide 10 Try.f10 rfl rfl rfl rfl rfl rfl rfl ⟨rfl, rfl, rfl, rfl, rfl⟩ rfl rfl rfl rfl rfl (by kernel_rfl) Try.func10 (by kernel_rfl)
    (of_decide_eq_true (by kernel_rfl)) (by unfold Func.isWrapper; first | (rw [if_pos (by decide +kernel)]; kernel_rfl) | (rw [if_neg (by decide +kernel)]; exact ⟨rfl, rfl⟩))
    (fun os started H enc _ => truncateCovers_lifted os started H enc)
end Go.Proofs.Ytngbjdaaogbjmaa
