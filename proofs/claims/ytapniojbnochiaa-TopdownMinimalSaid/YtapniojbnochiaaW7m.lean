import Derived.Test.YtapniojbnochiaaK5
import Derived.Test.YtapniojbnochiaaK6
/-
  The law TopdownMinimal returns true, whatever the formula. (Printed by gen_W7.py.)
-/
namespace Go.Proofs.Ytapniojbnochiaa
open Go.RowKit Go.ChangeShapes Go.WideShapes Go.ChangeAt Go.Joins Go.Deep

theorem valsUp_congr (V s t : Nat) (nodes : List Nd) (h : ∀ i, i < V → s.testBit i = t.testBit i) : ∀ k, valsUp V s nodes k = valsUp V t nodes k := by
  intro k
  induction k with
  | zero => unfold valsUp; exact List.map_congr_left fun i hi => h i (by simpa using hi)
  | succ k ih => unfold valsUp; rw [ih]
theorem sub_mod (r V : Nat) : subN (r % 2 ^ V) r = true := subN_iff.2 fun i hi => by
  rw [Nat.testBit_mod_two_pow] at hi; simp at hi; exact hi.2
theorem can_least {R : List Nat} (h : Can R) {r t : Nat} (hr : r ∈ R) (ht : t ∈ R) (hs : subN t r = true) : t = r := by
  rw [← h] at hr
  exact ((mem_minK_iff R r).1 hr).2 t ht hs
/-- Events of the cut sets are below the number of events. -/
theorem topK_lt {V T : Nat} {f : Fm} (hok : Ok f V T) (hs : synK V T f = true) {p : List Nat × List Nat} (h : topK V T f.nodes = some p) : ∀ r ∈ p.1, r < 2 ^ V := by
  obtain ⟨h1, _, h3⟩ := topK_says hok hs h
  intro r hr
  have hv := (h3 r).1 ⟨r, hr, subN_refl r⟩
  have he : valsK V (r % 2 ^ V) f.nodes = valsK V r f.nodes := valsUp_congr V _ _ f.nodes (fun i hi => by rw [Nat.testBit_mod_two_pow]; simp [hi]) _
  rw [← he] at hv
  obtain ⟨t, ht, hsub⟩ := (h3 _).2 hv
  have htr := can_least h1.1 hr ht (subN_tr hsub (sub_mod r V))
  subst htr
  have := subN_anti hsub (sub_mod t V)
  rw [this]
  exact Nat.mod_lt _ (Nat.two_pow_pos V)
theorem topK_cut {V T : Nat} {f : Fm} (hok : Ok f V T) (hs : synK V T f = true) {p : List Nat × List Nat} (h : topK V T f.nodes = some p) {r : Nat} (hr : r ∈ p.1) : (valsK V r f.nodes).getD T false = true := by
  obtain ⟨_, _, h3⟩ := topK_says hok hs h
  exact (h3 r).1 ⟨r, hr, subN_refl r⟩
theorem topK_less {V T : Nat} {f : Fm} (hok : Ok f V T) (hs : synK V T f = true) {p : List Nat × List Nat} (h : topK V T f.nodes = some p) {r i : Nat} (hr : r ∈ p.1) (hi : r.testBit i = true) : (valsK V (sdiff r (2 ^ i)) f.nodes).getD T false = false := by
  obtain ⟨h1, _, h3⟩ := topK_says hok hs h
  cases hv : (valsK V (sdiff r (2 ^ i)) f.nodes).getD T false with
  | false => rfl
  | true =>
    obtain ⟨t, ht, hsub⟩ := (h3 _).2 hv
    have hsr : subN (sdiff r (2 ^ i)) r = true := subN_iff.2 fun j hj => by rw [sdiff_bit] at hj; simp at hj; exact hj.1
    have htr := can_least h1.1 hr ht (subN_tr hsub hsr)
    subst htr
    have := subN_iff.1 hsub i hi
    rw [sdiff_bit, Nat.testBit_two_pow] at this
    simp at this
theorem sdiff_le (a b : Nat) : sdiff a b ≤ a := by
  have h : subN (sdiff a b) a = true := subN_iff.2 fun j hj => by rw [sdiff_bit] at hj; simp at hj; exact hj.1
  by_cases hle : sdiff a b ≤ a
  · exact hle
  · have := Nat.and_le_right (n := sdiff a b) (m := a)
    have e : sdiff a b &&& a = sdiff a b := Nat.eq_of_testBit_eq fun j => by
      rw [Nat.testBit_and]
      cases hb : (sdiff a b).testBit j with
      | false => rfl
      | true => rw [subN_iff.1 h j hb]; rfl
    omega
set_option maxRecDepth 100000 in
theorem bitHas_any (c i : Nat) (hc : c < 16777216) (hi : i < 24) (w : World) : Calls Try.prog 50 #[.int .i64 c, .int .i64 i] w fun e w' => e = .returned (.bool (c.testBit i)) ∧ Kept w w' := by
  have e := bit_val c i hc
  have h1 : (0 : Int) ≤ (i : Int) := by omega
  have h2 : (i : Int) < 24 := by omega
  have E := Lib.hid e
  clear e hc
  go_enter Try.func50, Try.ntmps50
  go_wp2
  go_ret
  exact ⟨by rw [← E.out]; rfl, Kept.refl _⟩
set_option maxRecDepth 100000 in
set_option maxHeartbeats 8000000 in
theorem minimal_true (w : World) (v : Value) (f : Fm) (hv : NodesAt w v f.nodes) (hfo : FmOk f) :
    Calls Try.prog 15 #[fmV v f] w fun e w' => e = .returned (.bool true) ∧ Kept w w' := by
  have ht : f.top ≤ 9223372036854775807 := hfo.2.1.2
  have hh : ∀ W, Kept w W → Calls Try.prog 18 #[fmV v f] W fun e w' => (∃ b, e = .returned (.bool b)) ∧ Kept W w' := fun W hk => heavy_any v f W (hv.kept hk)
  have hc : ∀ W, Kept w W → Calls Try.prog 27 #[fmV v f] W fun e w' => e = .returned (errV (chkF f)) ∧ Kept W w' := fun W hk => check_any v f W (hv.kept hk) ht
  obtain ⟨q, hq⟩ : ∃ q, q = chkF f := ⟨_, rfl⟩
  rw [← hq] at hc
  have hsh : ∃ a n c, v = .slice a n c ∧ n = f.nodes.length := by obtain ⟨a, c, h, _⟩ := hv; exact ⟨a, _, c, h, rfl⟩
  have HQ := Lib.hid hq
  have HV := Lib.hid hv
  obtain ⟨a, n, c, rfl, hnn⟩ := hsh
  have HNN := Lib.hid hnn
  clear hnn
  obtain ⟨vars, nodes, top⟩ := f
  have HH : Hid (∀ W, Kept w W → Calls Try.prog 18 #[.agg #[.int .i64 vars, .slice a n c, .int .i64 top]] W fun e w' => (∃ b, e = .returned (.bool b)) ∧ Kept W w') := Lib.hid hh
  have HC : Hid (∀ W, Kept w W → Calls Try.prog 27 #[.agg #[.int .i64 vars, .slice a n c, .int .i64 top]] W fun e w' => e = .returned (errV q) ∧ Kept W w') := Lib.hid hc
  have HA : Hid (∀ W, Calls Try.prog 31 #[] W fun e w' => e = .returned (.bool true) ∧ Kept W w') := Lib.hid fun W => tawake_ok W
  show Calls _ _ #[.agg #[.int .i64 vars, .slice a n c, .int .i64 top]] _ _
  clear hv hh hc hq ht hfo
  go_enter Try.func15, Try.ntmps15
  go_wp2_with (go_at_call 31; refine (HA.out _).mono ?_; rintro e w1 ⟨rfl, hk1⟩; obtain ⟨c0, c1, c2⟩ := fm_cells hk1)
  refine (HH.out _ (((Kept.refl _).alloc _).trans hk1)).mono ?_
  rintro e w2 ⟨⟨b, rfl⟩, hk2⟩
  have K2 := Lib.hid (hk1.trans hk2)
  clear hk1 hk2 c0 c1 c2
  obtain ⟨c0, c1, c2⟩ := fm_cells K2.out
  cases b with
  | true =>
    go_wp2_with (go_at_call 31; refine (HA.out _).mono ?_; rintro e w3 ⟨rfl, hk3⟩)
    go_ret
    exact ⟨rfl, (((Kept.refl _).alloc _).trans K2.out).trans hk3⟩
  | false =>
    go_wp2_with fail
    refine (HC.out _ (((Kept.refl _).alloc _).trans K2.out)).mono ?_
    rintro e w3 ⟨rfl, hk3⟩
    have K3 := Lib.hid (K2.out.trans hk3)
    clear hk3 c0 c1 c2
    obtain ⟨c0, c1, c2⟩ := fm_cells K3.out
    by_cases hq0 : q = 0
    · have hck := HQ.out.symm.trans hq0
      subst hq0
      rw [errV_zero]
      obtain ⟨V, T, hok⟩ := ok_of _ hck
      have e1 : vars = (V : Int) := hok.vars
      have e2 : top = (T : Int) := hok.top
      have hV := hok.v24
      have hN9 : nodes.length ≤ 128 := hok.n128
      have fc := top_cases (.slice a n c) ⟨vars, nodes, top⟩ V T hok hck ⟨a, n, c, rfl⟩
      subst e1 e2
      have HVK := Lib.hid (fun W (hk : Kept w3 W) => HV.out.kept (((((Kept.refl _).alloc _).trans K3.out)).trans hk))
      have HOK := Lib.hid hok
      have HCK := Lib.hid hck
      rcases fc with ⟨q, hq, hfc⟩ | ⟨p, hl, hs, hfc⟩
      · have HF := Lib.hid (fun W hk => (hfc W (HVK.out W hk)).1)
        have hq : q = 4 ∨ q = 7 := hq.imp (fun h => h.1) fun h => h.1
        have HI : Hid (∀ W c, Calls Try.prog 28 #[errV q, .int .i64 (c : Nat)] W fun e w' => e = .returned (.bool (q == c)) ∧ W = w') := Lib.hid fun W c => is_any q c (by omega) W
        have I7 : Hid (∀ W, Calls Try.prog 28 #[errV q, .int .i64 7] W fun e w' => e = .returned (.bool (q == 7)) ∧ W = w') := Lib.hid fun W => HI.out W 7
        have I4 : Hid (∀ W, Calls Try.prog 28 #[errV q, .int .i64 4] W fun e w' => e = .returned (.bool (q == 4)) ∧ W = w') := Lib.hid fun W => HI.out W 4
        have hqe : errV q = .iface 45 (.int .i64 q) := errV_pos (by omega)
        rw [hqe] at HF I7 I4
        clear hfc hck hok HI hqe
        go_wp2_with fail
        refine (HF.out _ (Kept.refl _)).mono ?_
        rintro e w4 ⟨rfl, hk4⟩
        have K4 := Lib.hid (K3.out.trans hk4)
        clear c0 c1 c2 hk4
        rcases hq with hq | hq
        · rw [show (q == 7) = false by simp; omega] at I7
          rw [show (q == 4) = true by simp; omega] at I4
          clear hq
          go_wp2_with (first
            | (go_at_call 28; (with_reducible refine (I7.out _).mono ?_); rintro e w6 ⟨rfl, rfl⟩)
            | (go_at_call 28; (with_reducible refine (I4.out _).mono ?_); rintro e w6 ⟨rfl, rfl⟩))
          go_ret
          exact ⟨rfl, ((Kept.refl _).alloc _).trans K4.out⟩
        · rw [show (q == 7) = true by simp; omega] at I7
          clear hq
          go_wp2_with (go_at_call 28; (with_reducible refine (I7.out _).mono ?_); rintro e w6 ⟨rfl, rfl⟩)
          go_ret
          exact ⟨rfl, ((Kept.refl _).alloc _).trans K4.out⟩
      · obtain ⟨hgood, hmk, hx3⟩ := topK_says hok hs hl
        clear hx3
        have HF := Lib.hid (fun W hk => (hfc W (HVK.out W hk)).1)
        have HVA : Hid (∀ (W : World) (s : Nat), Kept w3 W → s < 2 ^ V → Calls Try.prog 41 #[.agg #[.int .i64 V, .slice a n c, .int .i64 T], .int .i64 s] W fun e w' => e = .returned (.tuple #[.bool ((valsK V s nodes).getD T false), .nilIface]) ∧ Kept W w') := Lib.hid fun W s hk hs => value_any _ ⟨V, nodes, T⟩ V T s W (HVK.out W hk) hok hck hs
        have HLT := Lib.hid (topK_lt hok hs hl)
        have HCT := Lib.hid (fun r (hr : r ∈ p.1) => topK_cut hok hs hl hr)
        have HLS := Lib.hid (fun r i (hr : r ∈ p.1) hi => topK_less (i := i) hok hs hl hr hi)
        have HGD := Lib.hid hgood
        have HMK := Lib.hid hmk
        simp only at HCT HLS
        clear hfc hck hok hl hs HOK HCK hgood hmk
        go_wp2_with fail
        refine (HF.out _ (Kept.refl _)).mono ?_
        rintro e w4 ⟨⟨v4, rfl, ho4⟩, hk4⟩
        have HK34 := Lib.hid hk4
        have O4 := Lib.hid ho4
        obtain ⟨ln, hln⟩ : ∃ ln, ln = (ofN p.1).length := ⟨_, rfl⟩
        obtain ⟨la, lc, h4, hx4⟩ := ho4.1.ints
        clear hx4
        rw [← hln] at h4
        subst h4
        have HLN := Lib.hid hln
        have hlb : ln ≤ 1024 := by have := HGD.out.2; rw [hln]; simpa [ofN] using this
        have HFC := Lib.hid (fcheck_good _ p.1 w4 ho4.sets HGD.out)
        clear c0 c1 c2 hk4 ho4 hln
        go_wp2_with fail
        refine HFC.out.mono ?_
        rintro e w5 ⟨rfl, hk5⟩
        have HK35 := Lib.hid (HK34.out.trans hk5)
        have O5 := Lib.hid (O4.out.kept hk5)
        clear hk5 O4
        go_wp2
        go_loopg [42] ln (fun kx s42 wr => ∃ k : Nat, s42 = .int .i64 k ∧ k ≤ ln ∧ ln - k ≤ kx ∧ Hid (Kept w5 wr))
        case atStart => exact ⟨0, rfl, Nat.zero_le _, by omega, Lib.hid (Kept.refl _)⟩
        case round =>
          obtain ⟨wo, rfl⟩ : ∃ wo : World, wo = wr := ⟨_, rfl⟩
          obtain ⟨k, rfl, hk, hkx, HKO⟩ := hrel
          have K5 := Lib.hid (K3.out.trans (HK35.out.trans HKO.out))
          have HK3o := Lib.hid (HK35.out.trans HKO.out)
          obtain ⟨c0, c1, c2⟩ := fm_cells K5.out
          by_cases hlt : k < ln
          · have hkl : k < (ofN p.1).length := by have := HLN.out; omega
            have hkp : k < p.1.length := by simpa [ofN] using hkl
            obtain ⟨b, o, rfl, hcell⟩ : ∃ b o, la = some ⟨b, o, none⟩ ∧ wo.cell? ⟨b, o + k, none⟩ = some (.int .i64 ((p.1[k] : Nat) : Int)) := by
              obtain ⟨a', c', h1, _, _, h4⟩ := (O5.out.kept HKO.out).1.ints
              injection h1 with h1 h2 h3
              subst h1
              obtain ⟨b, o, h5, h6⟩ := h4 k hkl
              exact ⟨b, o, h5, by simpa [ofN] using h6⟩
            have hmem : p.1[k] ∈ p.1 := List.getElem_mem _
            have hr2 := HLT.out _ hmem
            have hr24 : p.1[k] < 16777216 := lt_pow24 hV hr2
            have hct := HCT.out _ hmem
            have HLS2 := Lib.hid (fun i hi => HLS.out _ i hmem hi)
            obtain ⟨r, hrr⟩ : ∃ r, r = p.1[k] := ⟨_, rfl⟩
            rw [← hrr] at hcell hr2 hr24 hct HLS2
            have HV1 : Hid (Calls Try.prog 41 #[.agg #[.int .i64 V, .slice a n c, .int .i64 T], .int .i64 r] wo fun e w' => e = .returned (.tuple #[.bool true, .nilIface]) ∧ Kept wo w') := Lib.hid (by
              have := HVA.out wo r HK3o.out hr2
              rw [hct] at this
              exact this)
            have HR2 := Lib.hid hr2
            have hkn : (k : Int) < (ln : Int) := by omega
            clear hmem hrr hct hr2 HF HFC
            go_wp2_with fail
            refine HV1.out.mono ?_
            rintro e w6 ⟨rfl, hk6⟩
            have HK6 := Lib.hid hk6
            clear hk6 c0 c1 c2 hcell HV1
            go_wp2
            obtain ⟨m24, hm24⟩ : ∃ m, m = 24 := ⟨_, rfl⟩
            go_loopg [58] m24 (fun kx s58 wr => ∃ j : Nat, s58 = .int .i64 j ∧ j ≤ m24 ∧ m24 - j ≤ kx ∧ Hid (Kept wo wr))
            case atStart => exact ⟨0, rfl, Nat.zero_le _, by omega, Lib.hid HK6.out⟩
            case round =>
              obtain ⟨j, rfl, hj, hjx, HKR⟩ := hrel
              have K7 := Lib.hid (K5.out.trans HKR.out)
              by_cases hj24 : j < 24
              · have hj24' : (j : Int) < 24 := by omega
                have HHS := Lib.hid (fun W => bitHas_any r j hr24 hj24 W)
                cases hb : r.testBit j with
                | false =>
                  rw [hb] at HHS
                  clear hb
                  go_wp2_with (go_at_call 50; refine (HHS.out _).mono ?_; rintro e w7 ⟨rfl, hk7⟩)
                  go_roundg (m24 - (j + 1))
                  case measure => omega
                  case rel => exact ⟨j + 1, by go_num, by omega, Nat.le_refl _, Lib.hid (HKR.out.trans hk7)⟩
                | true =>
                  rw [hb] at HHS
                  obtain ⟨z, hz⟩ : ∃ z, z = 2 ^ j := ⟨_, rfl⟩
                  have hz24 : z < 16777216 := by
                    have h2 : 2 ^ j < 2 ^ 24 := Nat.pow_lt_pow_right (by omega) hj24
                    rw [hz]
                    exact Nat.lt_of_lt_of_le h2 (by decide)
                  obtain ⟨d, hd⟩ : ∃ d, d = sdiff r z := ⟨_, rfl⟩
                  have ean : bits .andNot .i64 (r : Int) (z : Int) = (d : Int) := by rw [hd]; exact andNot_i64 r z (Nat.lt_trans hr24 (by decide)) (Nat.lt_trans hz24 (by decide))
                  have hdr : d ≤ r := by rw [hd]; exact sdiff_le r z
                  have HV2 : Hid (∀ W, Kept wo W → Calls Try.prog 41 #[.agg #[.int .i64 V, .slice a n c, .int .i64 T], .int .i64 d] W fun e w' => e = .returned (.tuple #[.bool false, .nilIface]) ∧ Kept W w') := Lib.hid fun W hk => by
                    have := HVA.out W d (HK3o.out.trans hk) (Nat.lt_of_le_of_lt hdr HR2.out)
                    rw [hd, hz, HLS2.out j hb] at this
                    rw [hd, hz]
                    exact this
                  have ew2 : IntKind.i64.wrap ((2 : Int) ^ j) = (z : Int) := by
                    rw [show (2 : Int) ^ j = (z : Int) by rw [hz]; simp, IntKind.wrap_i64]; omega
                  have hj0 : ¬ (j : Int) < 0 := by omega
                  clear hb hz hd hdr
                  go_wp2_with (go_at_call 50; refine (HHS.out _).mono ?_; rintro e w7 ⟨rfl, hk7⟩; have K8 := Lib.hid (K7.out.trans hk7); obtain ⟨c0, c1, c2⟩ := fm_cells K8.out; have HK7 := Lib.hid (HKR.out.trans hk7); clear hk7)
                  go_cut [10, 11] (fun p10 p11 wx => p10 = .bool false ∧ p11 = .nilIface ∧ Hid (Kept wo wx))
                  case first =>
                    clear HVA
                    go_region_with (go_at_call 41; (with_reducible refine (HV2.out _ (HK7.out.trans (Kept.refl _).drew)).mono ?_); rintro e w8 ⟨rfl, hk8⟩; have y0 := hk8.cell (((Kept.refl w7).drew).cell c0); have y1 := hk8.cell (((Kept.refl w7).drew).cell c1); have y2 := hk8.cell (((Kept.refl w7).drew).cell c2))
                    all_goals (go_wp2_with fail; go_meet; exact ⟨rfl, rfl, Lib.hid ((HK7.out.trans (Kept.refl _).drew).trans hk8)⟩)
                  case rest =>
                    obtain ⟨rfl, rfl, HKX⟩ := hcut
                    clear c0 c1 c2
                    go_wp2
                    go_roundg (m24 - (j + 1))
                    case measure => omega
                    case rel => exact ⟨j + 1, by go_num, by omega, Nat.le_refl _, HKX⟩
              · have hj24' : ¬ (j : Int) < 24 := by omega
                go_wp2
                go_roundg (ln - (k + 1))
                case measure => omega
                case rel => exact ⟨k + 1, by go_num, by omega, Nat.le_refl _, Lib.hid (HKO.out.trans HKR.out)⟩
          · have hkn : ¬ (k : Int) < (ln : Int) := by omega
            clear c0 c1 c2
            go_wp2
            go_ret
            exact ⟨rfl, ((Kept.refl _).alloc _).trans K5.out⟩
    · have hqe : errV q = .iface 45 (.int .i64 q) := errV_pos hq0
      rw [hqe]
      clear hqe
      go_wp2_with (go_at_call 31; refine (HA.out _).mono ?_; rintro e w4 ⟨rfl, hk4⟩)
      go_ret
      exact ⟨rfl, (((Kept.refl _).alloc _).trans K3.out).trans hk4⟩
set_option maxRecDepth 100000 in
theorem topdownMinimal_lifted (os : Os) (started : os.Started) (H : Type) (enc : TypeId × Value → H) :
    ReturnsInHanded {} Try.checked os 15 .any (Rows.topdownMinimalSpec.pre6 enc Try.prog Try.f15 Rows.topdownMinimalRow.domain false) (Rows.topdownMinimalSpec.post enc Try.prog Try.f15 false true false false) := by
  refine returnsInHanded_of_change_sized (C := Try.checked) ownK started (by kernel_rfl) Try.func15
    (ChangeSpec.witness6 (enc := enc) (C := Try.checked) false ⟨#[], #[.agg #[.int .i64 0, .slice none 0 0, .int .i64 0]], []⟩ 8 (by kernel_rfl) (by kernel_rfl) (by kernel_rfl) (by kernel_rfl)) ?_
  intro W base args ds gs before hval hW _ hsz _
  exact lift1 15 Try.f15 rfl (fun _ _ => rfl) Try.params15 (by kernel_rfl) minimal_true W base args ds gs before hval hW hsz
theorem topdownMinimal_holds : Rows.TopdownMinimalSaid :=
  OpenClaim.holds_of_wide 15 Try.f15 rfl rfl rfl rfl rfl rfl rfl ⟨rfl, rfl, rfl, rfl, rfl⟩ rfl rfl rfl rfl rfl (by kernel_rfl) Try.func15 (by kernel_rfl)
    (of_decide_eq_true (by kernel_rfl)) (by unfold Func.isWrapper; first | (rw [if_pos (by decide +kernel)]; kernel_rfl) | (rw [if_neg (by decide +kernel)]; exact ⟨rfl, rfl⟩))
    (fun os started H enc _ => topdownMinimal_lifted os started H enc)
end Go.Proofs.Ytapniojbnochiaa
