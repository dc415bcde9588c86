import Derived.Test.YtcgfjacidjebaaaK5
/-
  The law TopdownTyped returns true, whatever the formula.
-/
namespace Go.Proofs.Ytcgfjacidjebaaa
open Go.RowKit

theorem is_all (q c : Nat) (w : World) (hc : c ≠ 0) : Calls Try.prog 27 #[errV q, .int .i64 c] w fun e w' => e = .returned (.bool (q == c)) ∧ w = w' := by
  by_cases h : q = 0
  · subst h
    rw [errV_zero, show ((0 : Nat) == c) = false by simp; omega]
    exact is_nil c w
  · exact is_any q c h w
/-- Cuts and Steps return an error number, which is 7 exactly for untyped formulas. -/
theorem top_codes (v : Value) (f : Fm) (V T : Nat) (hok : Ok f V T) (hck : chkF f = 0) (hs : ∃ a n c, v = .slice a n c) :
    ∃ q, (q == 7) = !synK V T f ∧ ∀ W, NodesAt W v f.nodes → (Calls Try.prog 31 #[.agg #[.int .i64 V, v, .int .i64 T]] W fun e w' => (∃ v1, e = .returned (.tuple #[v1, errV q])) ∧ Kept W w') ∧
      (Calls Try.prog 33 #[.agg #[.int .i64 V, v, .int .i64 T]] W fun e w' => (∃ v1, e = .returned (.tuple #[v1, errV q])) ∧ Kept W w') := by
  rcases top_cases v f V T hok hck hs with ⟨q, hq, h⟩ | ⟨p, _, hsy, h⟩
  · refine ⟨q, ?_, fun W hW => ⟨(h W hW).1.mono fun _ _ h => ⟨⟨_, h.1⟩, h.2⟩, (h W hW).2.mono fun _ _ h => ⟨⟨_, h.1⟩, h.2⟩⟩⟩
    rcases hq with ⟨rfl, h1, _⟩ | ⟨rfl, h1⟩
    · rw [h1]; rfl
    · rw [h1]; rfl
  · refine ⟨0, by rw [hsy]; rfl, fun W hW => ⟨(h W hW).1.mono ?_, (h W hW).2.mono ?_⟩⟩
    · rintro e w' ⟨⟨v', h1, _⟩, h2⟩; exact ⟨⟨v', h1⟩, h2⟩
    · rintro e w' ⟨⟨v', h1, _⟩, h2⟩; exact ⟨⟨v', h1⟩, h2⟩
def negK (ks : List Int) : Bool := ks.any fun k => k == 1 || k == 5
theorem negK_mono (ks : List Int) : negK ks = !monoK ks := by
  unfold negK monoK
  induction ks with
  | nil => rfl
  | cons k l ih => rw [List.any_cons, List.all_cons, ih]; cases h : (k == 1 || k == 5) <;> simp
set_option maxRecDepth 100000 in
set_option maxHeartbeats 4000000 in
theorem typed_true (w : World) (v : Value) (f : Fm) (hv : NodesAt w v f.nodes) (hfo : FmOk f) :
    Calls Try.prog 9 #[fmV v f] w fun e w' => e = .returned (.bool true) ∧ Kept w w' := by
  have ht : f.top ≤ 9223372036854775807 := hfo.2.1.2
  have hh : ∀ W, Kept w W → Calls Try.prog 17 #[fmV v f] W fun e w' => (∃ b, e = .returned (.bool b)) ∧ Kept W w' := fun W hk => heavy_any v f W (hv.kept hk)
  have hc : ∀ W, Kept w W → Calls Try.prog 26 #[fmV v f] W fun e w' => e = .returned (errV (chkF f)) ∧ Kept W w' := fun W hk => check_any v f W (hv.kept hk) ht
  obtain ⟨q, hq⟩ : ∃ q, q = chkF f := ⟨_, rfl⟩
  rw [← hq] at hc
  have hsh : ∃ a n c, v = .slice a n c ∧ n = f.nodes.length := by obtain ⟨a, c, h, _⟩ := hv; exact ⟨a, _, c, h, rfl⟩
  have HQ := Lib.hid hq
  have HV := Lib.hid hv
  obtain ⟨a, n, c, rfl, hnn⟩ := hsh
  have HNN := Lib.hid hnn
  clear hnn
  obtain ⟨vars, nodes, top⟩ := f
  have HH : Hid (∀ W, Kept w W → Calls Try.prog 17 #[.agg #[.int .i64 vars, .slice a n c, .int .i64 top]] W fun e w' => (∃ b, e = .returned (.bool b)) ∧ Kept W w') := Lib.hid hh
  have HC : Hid (∀ W, Kept w W → Calls Try.prog 26 #[.agg #[.int .i64 vars, .slice a n c, .int .i64 top]] W fun e w' => e = .returned (errV q) ∧ Kept W w') := Lib.hid hc
  have HA : Hid (∀ W, Calls Try.prog 30 #[] W fun e w' => e = .returned (.bool true) ∧ Kept W w') := Lib.hid fun W => tawake_ok W
  show Calls _ _ #[.agg #[.int .i64 vars, .slice a n c, .int .i64 top]] _ _
  clear hv hh hc hq ht hfo
  go_enter Try.func9, Try.ntmps9
  go_wp2_with (go_at_call 30; refine (HA.out _).mono ?_; rintro e w1 ⟨rfl, hk1⟩; obtain ⟨c0, c1, c2⟩ := fm_cells hk1)
  refine (HH.out _ (((Kept.refl _).alloc _).trans hk1)).mono ?_
  rintro e w2 ⟨⟨b, rfl⟩, hk2⟩
  have K2 := Lib.hid (hk1.trans hk2)
  clear hk1 hk2 c0 c1 c2
  obtain ⟨c0, c1, c2⟩ := fm_cells K2.out
  cases b with
  | true =>
    go_wp2_with (go_at_call 30; refine (HA.out _).mono ?_; rintro e w3 ⟨rfl, hk3⟩)
    go_ret
    exact ⟨rfl, (((Kept.refl _).alloc _).trans K2.out).trans hk3⟩
  | false =>
    go_wp2_with fail
    refine (HC.out _ (((Kept.refl _).alloc _).trans K2.out)).mono ?_
    rintro e w3 ⟨rfl, hk3⟩
    have K3 := Lib.hid (K2.out.trans hk3)
    clear hk3 c0 c1 c2
    obtain ⟨c0, c1, c2⟩ := fm_cells K3.out
    by_cases hq0 : q = 0
    · have hck := HQ.out.symm.trans hq0
      subst hq0
      rw [errV_zero]
      obtain ⟨V, T, hok⟩ := ok_of _ hck
      have e1 : vars = (V : Int) := hok.vars
      have e2 : top = (T : Int) := hok.top
      have fc := top_codes (.slice a n c) ⟨vars, nodes, top⟩ V T hok hck ⟨a, n, c, rfl⟩
      subst e1 e2
      have HVK := Lib.hid (fun W (hk : Kept w3 W) => HV.out.kept (((((Kept.refl _).alloc _).trans K3.out)).trans hk))
      have HT := Lib.hid (fun W (hk : Kept w3 W) => trim_any (.slice a n c) ⟨V, nodes, T⟩ V T W (HVK.out W hk) hok hck)
      obtain ⟨q, hq, hfc⟩ := fc
      have HF := Lib.hid (fun W hk => (hfc W (HVK.out W hk)).1)
      have HG := Lib.hid (fun W hk => (hfc W (HVK.out W hk)).2)
      have hlen := len_kindsUp V (belowK V T nodes) nodes nodes.length
      have hn9 : nodes.length ≤ 128 := hok.n128
      unfold synK at hq
      rw [← negK_mono] at hq
      simp only at hq HT
      obtain ⟨ks, hks⟩ : ∃ ks, ks = kindsUp V (belowK V T nodes) nodes nodes.length := ⟨_, rfl⟩
      rw [← hks] at hq HT hlen
      obtain ⟨m, hm⟩ : ∃ m, m = ks.length := ⟨_, rfl⟩
      have hm9 : m ≤ 128 := by omega
      have HM := Lib.hid hm
      have HI : Hid (∀ W, Calls Try.prog 27 #[errV q, .int .i64 7] W fun e w' => e = .returned (.bool (negK ks)) ∧ W = w') := Lib.hid fun W => by rw [← hq]; exact is_all q 7 W (by omega)
      obtain ⟨E, hE⟩ : ∃ E, E = errV q := ⟨_, rfl⟩
      rw [← hE] at HF HG HI
      obtain ⟨tb, htb⟩ : ∃ tb, tb = negK ks := ⟨_, rfl⟩
      rw [← htb] at HI
      have HTB := Lib.hid htb
      clear hfc hck hok hks hlen hn9 hm hE hq htb
      go_wp2_with fail
      refine (HT.out _ (Kept.refl _)).mono ?_
      rintro e w4 ⟨tv, top, rfl, hkd, hk4⟩
      have K4 := Lib.hid hk4
      obtain ⟨ta, tc, rfl, _, _, htc⟩ := hkd
      rw [← HM.out]
      have HTC := Lib.hid htc
      clear htc hk4 c0 c1 c2
      go_wp2
      go_loopg [5, 34] m (fun kx s5 s34 wr => ∃ (k : Nat) (b : Bool), s5 = .bool b ∧ s34 = .int .i64 k ∧ k ≤ m ∧ m - k ≤ kx ∧ Hid (b = negK (ks.take k)) ∧ Hid (Kept w4 wr))
      case atStart => exact ⟨0, false, rfl, rfl, Nat.zero_le _, by omega, Lib.hid rfl, Lib.hid ((Kept.refl _).alloc _)⟩
      case round =>
        obtain ⟨k, b, rfl, rfl, hk, hkx, HB, HK⟩ := hrel
        by_cases hlt : k < m
        · have hkl : k < ks.length := by have := HM.out; omega
          obtain ⟨b1, o, rfl, u1, sa, sn, sc, c0, c1, c2⟩ := HTC.out k hkl
          have hstep : negK (ks.take (k + 1)) = (b || (ks[k] == 1 || ks[k] == 5)) := by
            rw [HB.out]; unfold negK; rw [List.take_succ_eq_append_getElem hkl, List.any_append]; simp
          obtain ⟨kd, hkd⟩ : ∃ kd, kd = ks[k] := ⟨_, rfl⟩
          rw [← hkd] at c0 hstep
          have hrange : wr.rangeAt b1 (o + k * 3) [.int .i64 kd, .int .i64 u1, .slice sa sn sc] := by
            intro j v hj
            match j, hj with
            | 0, hj => simp at hj; subst hj; exact HK.out.cell c0
            | 1, hj => simp at hj; subst hj; exact HK.out.cell c1
            | 2, hj => simp at hj; subst hj; exact HK.out.cell c2
          have HRG := Lib.hid hrange
          have HS := Lib.hid hstep
          clear c0 c1 c2 hrange hstep hkd HB HF HG HI
          cases b with
          | true =>
            go_wp2_with (with_reducible refine wpList_load_mid rfl 47 _ rfl b1 (o + k * 3) rfl _ _ HRG.out Try.underlying47 rfl (by kernel_rfl) ?_)
            go_roundg (m - (k + 1))
            case measure => omega
            case rel => exact ⟨k + 1, true, rfl, by go_num, by omega, Nat.le_refl _, Lib.hid (by rw [HS.out]; rfl), Lib.hid (HK.out.alloc _)⟩
          | false =>
            by_cases h1 : kd = 1
            · subst h1
              go_wp2_with (with_reducible refine wpList_load_mid rfl 47 _ rfl b1 (o + k * 3) rfl _ _ HRG.out Try.underlying47 rfl (by kernel_rfl) ?_)
              go_roundg (m - (k + 1))
              case measure => omega
              case rel => exact ⟨k + 1, true, rfl, by go_num, by omega, Nat.le_refl _, Lib.hid (by rw [HS.out]; rfl), Lib.hid (HK.out.alloc _)⟩
            · have x1 : (kd == 1) = false := by simpa using h1
              go_wp2_with (with_reducible refine wpList_load_mid rfl 47 _ rfl b1 (o + k * 3) rfl _ _ HRG.out Try.underlying47 rfl (by kernel_rfl) ?_)
              go_roundg (m - (k + 1))
              case measure => omega
              case rel => exact ⟨k + 1, (kd == 5), rfl, by go_num, by omega, Nat.le_refl _, Lib.hid (by rw [HS.out, x1]; rfl), Lib.hid (HK.out.alloc _)⟩
        · have hke : k = m := by omega
          have hbe : b = tb := by rw [HB.out, HTB.out, hke, HM.out, List.take_length]
          subst hbe
          have K5 := Lib.hid (K3.out.trans (K4.out.trans HK.out))
          obtain ⟨c0, c1, c2⟩ := fm_cells K5.out
          clear hke HTC HB HTB
          go_wp2_with fail
          refine (HF.out _ (K4.out.trans HK.out)).mono ?_
          rintro e w6 ⟨⟨v6, rfl⟩, hk6⟩
          have K6 := Lib.hid (K5.out.trans hk6)
          clear c0 c1 c2
          obtain ⟨c0, c1, c2⟩ := fm_cells K6.out
          go_wp2_with fail
          refine (HG.out _ ((K4.out.trans HK.out).trans hk6)).mono ?_
          rintro e w7 ⟨⟨v7, rfl⟩, hk7⟩
          have K7 := Lib.hid (K6.out.trans hk7)
          clear c0 c1 c2 hk6 hk7
          have hbb : (b == b) = true := by cases b <;> rfl
          go_wp2_with (go_at_call 27; refine (HI.out _).mono ?_; rintro e w8 ⟨rfl, rfl⟩)
          go_ret
          exact ⟨rfl, ((Kept.refl _).alloc _).trans K7.out⟩
    · have hqe : errV q = .iface 45 (.int .i64 q) := errV_pos hq0
      rw [hqe]
      clear hqe
      go_wp2_with (go_at_call 30; refine (HA.out _).mono ?_; rintro e w4 ⟨rfl, hk4⟩)
      go_ret
      exact ⟨rfl, (((Kept.refl _).alloc _).trans K3.out).trans hk4⟩
set_option maxRecDepth 100000 in
theorem topdownTyped_lifted (os : Os) (started : os.Started) (H : Type) (enc : TypeId × Value → H) :
    ReturnsInHanded {} Try.checked os 9 .any (Rows.topdownTypedSpec.pre6 enc Try.prog Try.f9 Rows.topdownTypedRow.domain false) (Rows.topdownTypedSpec.post enc Try.prog Try.f9 false true false false) := by
  refine returnsInHanded_of_change_sized (C := Try.checked) ownK started (by kernel_rfl) Try.func9
    (ChangeSpec.witness6 (enc := enc) (C := Try.checked) false ⟨#[], #[.agg #[.int .i64 0, .slice none 0 0, .int .i64 0]], []⟩ 8 (by kernel_rfl) (by kernel_rfl) (by kernel_rfl) (by kernel_rfl)) ?_
  intro W base args ds gs before hval hW _ hsz _
  exact lift1 9 Try.f9 rfl (fun _ _ => rfl) Try.params9 (by kernel_rfl) (typed_true) W base args ds gs before hval hW hsz
theorem topdownTyped_holds : Rows.TopdownTypedSaid :=
  OpenClaim.holds_of_wide 9 Try.f9 rfl rfl rfl rfl rfl rfl rfl ⟨rfl, rfl, rfl, rfl, rfl⟩ rfl rfl rfl rfl rfl (by kernel_rfl) Try.func9 (by kernel_rfl)
    (of_decide_eq_true (by kernel_rfl)) (by unfold Func.isWrapper; first | (rw [if_pos (by decide +kernel)]; kernel_rfl) | (rw [if_neg (by decide +kernel)]; exact ⟨rfl, rfl⟩))
    (fun os started H enc _ => topdownTyped_lifted os started H enc)
end Go.Proofs.Ytcgfjacidjebaaa
