import Derived.Test.YtpaedhlacbpmpaaGreatDoorPX1
import Derived.Test.YtpaedhlacbpmpaaGreatDoorPX2
import Derived.Test.YtpaedhlacbpmpaaGreatDoorPX3
import Derived.Test.YtpaedhlacbpmpaaGreatDoorPX4
import Derived.Test.YtpaedhlacbpmpaaGreatDoorPX5
import Derived.Test.YtpaedhlacbpmpaaGreatDoorPX6
import Derived.Test.YtpaedhlacbpmpaaGreatDoorPX7
import Derived.Test.YtpaedhlacbpmpaaGreatDoorPX8
import Derived.Test.YtpaedhlacbpmpaaGreatDoorPW1
import Derived.Test.YtpaedhlacbpmpaaGreatDoorPW2
/-
  Walk: the law PolynomialChances returns true, whatever the formula and the fractions (of at most 1048576 words each). Printed by gen_PH.py.
-/
namespace Go.Proofs.YtpaedhlacbpmpaaGreatDoor
open Go.RowKit

theorem bit_val0 (s k : Nat) (hs : s < 16777216) : (bits .and .i64 ((s : Int) / 2 ^ k) 1 == 0) = !s.testBit k := by
  have h := bit_val s k hs
  have e : (s : Int) / 2 ^ k = ((s / 2 ^ k : Nat) : Int) := by simp
  have hle : s / 2 ^ k ≤ s := Nat.div_le_self _ _
  have e2 : bits .and .i64 ((s : Int) / 2 ^ k) 1 = ((s / 2 ^ k % 2 : Nat) : Int) := by
    rw [e, show (1 : Int) = ((1 : Nat) : Int) from rfl, and_i64 _ _ (by omega) (by omega), Nat.and_one_is_mod]
  rw [← h, e2, Bool.eq_iff_iff]
  simp
  omega
theorem RatsAt.read {w : World} {a : Option Addr} {n c : Nat} {ps : List Rw} (h : RatsAt w (.slice a n c) ps) (i : Nat) (hi : i < ps.length) : ∃ b o y1 y2 y3 a1 c1 a2 c2, a = some ⟨b, o, none⟩ ∧
    w.cell? ⟨b, o + i * 3, none⟩ = some (.bool y1) ∧ w.cell? ⟨b, o + i * 3 + 1, none⟩ = some (.slice a1 y2 c1) ∧ w.cell? ⟨b, o + i * 3 + 2, none⟩ = some (.slice a2 y3 c2) ∧
    Hid (RatAt w (.agg #[.bool y1, .slice a1 y2 c1, .slice a2 y3 c2]) (ps.getD i default)) := by
  obtain ⟨b, o, u1, u2, he, hr, h1, h2⟩ := h.get i hi
  obtain ⟨a1, c1, rfl⟩ := h1.shape
  obtain ⟨a2, c2, rfl⟩ := h2.shape
  have z0 := hr 0 _ rfl
  rw [Nat.add_zero] at z0
  exact ⟨b, o, _, _, _, a1, c1, a2, c2, he, z0, hr 1 _ rfl, hr 2 _ rfl, Lib.hid ⟨_, _, rfl, h1, h2⟩⟩
theorem RatAt.lay {w : World} {b : Bool} {u1 u2 : Value} {r : Rw} (h : RatAt w (.agg #[.bool b, u1, u2]) r) : RatCell (w.alloc (.cells #[.bool b, u1, u2] 38)) w.heap.size r := by
  obtain ⟨x1, x2, e1, k1, k2⟩ := h
  simp only [Value.agg.injEq, Array.mk.injEq, List.cons.injEq, Value.bool.injEq, and_true] at e1
  obtain ⟨rfl, rfl, rfl⟩ := e1
  obtain ⟨a1, c1, rfl⟩ := k1.shape
  obtain ⟨a2, c2, rfl⟩ := k2.shape
  exact RatCell.made k1 k2
theorem RatsAt.read3 {w : World} {a : Option Addr} {n c : Nat} {ps : List Rw} (h : RatsAt w (.slice a n c) ps) (i : Nat) (hi : i < ps.length) : ∃ b o y1 y2 y3 a1 c1 a2 c2, a = some ⟨b, o, none⟩ ∧ y2 = (ps.getD i default).num.length ∧ y3 = (ps.getD i default).den.length ∧
    w.cell? ⟨b, o + i * 3, none⟩ = some (.bool y1) ∧ w.cell? ⟨b, o + i * 3 + 1, none⟩ = some (.slice a1 y2 c1) ∧ w.cell? ⟨b, o + i * 3 + 2, none⟩ = some (.slice a2 y3 c2) ∧
    Hid (RatAt w (.agg #[.bool y1, .slice a1 y2 c1, .slice a2 y3 c2]) (ps.getD i default)) := by
  obtain ⟨b, o, u1, u2, he, hr, h1, h2⟩ := h.get i hi
  obtain ⟨a1, c1, rfl⟩ := h1.shape
  obtain ⟨a2, c2, rfl⟩ := h2.shape
  have z0 := hr 0 _ rfl
  rw [Nat.add_zero] at z0
  exact ⟨b, o, _, _, _, a1, c1, a2, c2, he, rfl, rfl, z0, hr 1 _ rfl, hr 2 _ rfl, Lib.hid ⟨_, _, rfl, h1, h2⟩⟩
set_option maxRecDepth 100000 in
set_option maxHeartbeats 16000000 in
theorem pchances_true (u0 pv : Value) (f : Fm) (ps : List Rw) (w : World) (hv : NodesAt w u0 f.nodes) (hfo : FmOk f) (hp : RatsRaw w pv ps) (hbig : ∀ r ∈ ps, r.Short 1048576) :
    Calls Tryz.prog 8 #[fmV u0 f, pv] w fun e w' => e = .returned (.bool true) ∧ Kept w w' := by
  have HA : Hid (∀ W, Calls Tryz.prog 10 #[] W fun e w' => e = .returned (.bool true) ∧ Kept W w') := Lib.hid fun W => awake20_ok W
  have hpv := hp.small fun r hr => ⟨Nat.le_trans (hbig r hr).1 (by omega), Nat.le_trans (hbig r hr).2 (by omega)⟩
  obtain ⟨pa, pc, rfl⟩ := hpv.shape
  obtain ⟨pn, hpn⟩ : ∃ pn, pn = ps.length := ⟨_, rfl⟩
  rw [← hpn] at hpv ⊢
  have HPV := Lib.hid hpv
  have HPN := Lib.hid hpn
  have HBIG := Lib.hid hbig
  clear hp hbig hpv hpn
  have ht : f.top ≤ 9223372036854775807 := hfo.2.1.2
  have hh : ∀ W, Kept w W → Calls Tryz.prog 41 #[fmV u0 f] W fun e w' => BoolE e ∧ Kept W w' := fun W hk => heavy20_any u0 f W (hv.kept hk)
  have hc : ∀ W, Kept w W → Calls Tryz.prog 42 #[fmV u0 f] W fun e w' => e = .returned (errV (chkF f)) ∧ Kept W w' := fun W hk => check_any u0 f W (hv.kept hk) ht
  have HOFF := Lib.hid fun V T (hok : Ok f V T) (hck : chkF f = 0) W (hk : Kept w W) => pof_ok u0 f V T W (hv.kept hk) hok hck
  have HVL := Lib.hid fun V T (hok : Ok f V T) (hck : chkF f = 0) s (hs : s < 2 ^ V) W (hk : Kept w W) => value_any u0 f V T s W (hv.kept hk) hok hck hs
  have hs : ∃ a n c, u0 = .slice a n c := by obtain ⟨a, c, h, _⟩ := hv; exact ⟨a, _, c, h⟩
  have HOK := Lib.hid fun (h : chkF f = 0) => ok_of f h
  obtain ⟨q, hq⟩ : ∃ q, q = chkF f := ⟨_, rfl⟩
  rw [← hq] at hc HOK HOFF HVL
  obtain ⟨a, n, c, rfl⟩ := hs
  obtain ⟨fs, hfs⟩ : ∃ fs, fs = f := ⟨_, rfl⟩
  have HFS := Lib.hid hfs
  clear hfs
  obtain ⟨vars, nodes, top⟩ := f
  have HH : Hid (∀ W, Kept w W → Calls Tryz.prog 41 #[.agg #[.int .i64 vars, .slice a n c, .int .i64 top]] W fun e w' => BoolE e ∧ Kept W w') := Lib.hid hh
  have HC : Hid (∀ W, Kept w W → Calls Tryz.prog 42 #[.agg #[.int .i64 vars, .slice a n c, .int .i64 top]] W fun e w' => e = .returned (errV q) ∧ Kept W w') := Lib.hid hc
  show Calls _ _ #[.agg #[.int .i64 vars, .slice a n c, .int .i64 top], .slice pa pn pc] _ _
  obtain ⟨w0, hw0⟩ : ∃ w0, w0 = w.alloc (.cells #[.int .i64 vars, .slice a n c, .int .i64 top] 67) := ⟨_, rfl⟩
  have HX0 : Hid (RowAt w0 w.heap.size 67 [.int .i64 vars, .slice a n c, .int .i64 top]) := Lib.hid (by rw [hw0]; exact RowAt.made w #[.int .i64 vars, .slice a n c, .int .i64 top] 67)
  have HK0 : Hid (Kept w w0) := Lib.hid (by rw [hw0]; exact (Kept.refl _).alloc _)
  have HW0 := Lib.hid hw0
  clear hv hh hc hq ht hfo hw0
  go_enter Tryz.func8, Tryz.ntmps8
  go_wp2_with fail
  rw [← HW0.out]
  refine (HA.out _).mono ?_
  rintro e w1 ⟨rfl, hk1⟩
  have HX1 := Lib.hid (HX0.out.kept hk1)
  have HK1 := Lib.hid (HK0.out.trans hk1)
  obtain ⟨c0, c1, c2⟩ := row3_at HX1.out
  clear hk1
  go_wp2_with fail
  refine (HH.out _ HK1.out).mono ?_
  rintro e w2 ⟨⟨b, rfl⟩, hk2⟩
  have HX2 := Lib.hid (HX1.out.kept hk2)
  have HK2 := Lib.hid (HK1.out.trans hk2)
  clear hk2 c0 c1 c2
  cases b with
  | true =>
    go_wp2_with fail
    refine (HA.out _).mono ?_
    rintro e wz ⟨rfl, hkz⟩
    go_wp2
    go_ret
    exact ⟨rfl, HK2.out.trans hkz⟩
  | false =>
    obtain ⟨c0, c1, c2⟩ := row3_at HX2.out
    by_cases hq0 : q = 0
    · subst hq0
      rw [errV_zero] at HC
      obtain ⟨V, T, hok⟩ := HOK.out rfl
      have HOV := Lib.hid (HOFF.out V T hok rfl)
      have HVA := Lib.hid (HVL.out V T hok rfl)
      have e1 : vars = (V : Int) := hok.vars
      have e2 : top = (T : Int) := hok.top
      have hV24 := hok.v24
      subst e1 e2
      have HOK2 := Lib.hid hok
      clear hok
      go_wp2_with fail
      refine (HC.out _ HK2.out).mono ?_
      rintro e w4 ⟨rfl, hk4⟩
      have HX4 := Lib.hid (HX2.out.kept hk4)
      have HK4 := Lib.hid (HK2.out.trans hk4)
      clear c0 c1 c2 hk4
      obtain ⟨c0, c1, c2⟩ := row3_at HX4.out
      have hv0 : decide ((V : Int) < 0) = false := decide_eq_false (by omega)
      by_cases hV6 : V ≤ 6
      · have hv6 : decide ((6 : Int) < (V : Int)) = false := decide_eq_false (by omega)
        by_cases hVn : V ≤ pn
        · have hvn : decide ((pn : Int) < (V : Int)) = false := decide_eq_false (by omega)
          have hvN : decide (pn < V) = false := decide_eq_false (by omega)
          by_cases h30 : pn ≤ 30
          · have hvx : ¬ (30 : Int) < (pn : Int) := by omega
            go_wp2_with fail
            go_loopg [54] pn (fun kx sj wr => ∃ j : Nat, j ≤ pn ∧ sj = .int .i64 j ∧ pn - j ≤ kx ∧ Hid (Kept w4 wr) ∧ Hid (∀ r ∈ ps.take j, r.Short 2 ∧ probR r = true))
            case atStart => exact ⟨0, Nat.zero_le _, rfl, by omega, Lib.hid (Kept.refl _), Lib.hid (fun r hr => by cases hr)⟩
            case round =>
              obtain ⟨k, hk, rfl, hkx, HKr, HF⟩ := hrel
              obtain ⟨wi, rfl⟩ : ∃ wi : World, wi = wr := ⟨_, rfl⟩
              have HKw := Lib.hid (HK4.out.trans HKr.out)
              by_cases hlt : k < pn
              · have hkl : k < ps.length := by have := HPN.out; omega
                have hkn : (k : Int) < (pn : Int) := by omega
                have hk0 : (0 : Int) ≤ (k : Int) := by omega
                obtain ⟨b, o, y1, y2, y3, a1, c1, a2, c2, rfl, hy2, hy3, z0, z1, z2, HXV⟩ := (HPV.out.kept HKw.out).read3 k hkl
                obtain ⟨x, hx⟩ : ∃ x, x = ps.getD k default := ⟨_, rfl⟩
                have hxe : x = ps[k] := by rw [hx]; simp [List.getD_eq_getElem?_getD, hkl]
                rw [← hx] at HXV hy2 hy3
                have hxs : x.Short 1048576 := by rw [hxe]; exact HBIG.out _ (List.getElem_mem _)
                have HNX : Hid (y2 ≤ 2 → y3 ≤ 2 → probR x = true → ∀ r ∈ ps.take (k + 1), r.Short 2 ∧ probR r = true) := Lib.hid fun h1 h2 h3 r hr => by
                  rw [List.take_succ_eq_append_getElem hkl] at hr
                  rcases List.mem_append.1 hr with hr | hr
                  · exact HF.out r hr
                  · rw [List.mem_singleton.1 hr, ← hxe]; exact ⟨⟨by omega, by omega⟩, h3⟩
                obtain ⟨bp, hbp⟩ : ∃ bp, bp = probR x := ⟨_, rfl⟩
                have HPR : Hid (∀ W u, RatAt W u x → Calls Tryz.prog 43 #[u] W fun e w' => e = .returned (.bool bp) ∧ Kept W w') := Lib.hid fun W u hu => by
                  rw [hbp]
                  exact refprob_any u x W hu ⟨Nat.le_trans hxs.1 (by omega), Nat.le_trans hxs.2 (by omega)⟩
                rw [← hbp] at HNX
                obtain ⟨w11, hw11⟩ : ∃ w11, w11 = wi.alloc (.cells #[.bool y1, .slice a1 y2 c1, .slice a2 y3 c2] 38) := ⟨_, rfl⟩
                have HX11 : Hid (RowAt w11 wi.heap.size 38 [.bool y1, .slice a1 y2 c1, .slice a2 y3 c2]) := Lib.hid (by rw [hw11]; exact RowAt.made wi #[.bool y1, .slice a1 y2 c1, .slice a2 y3 c2] 38)
                have HK11 : Hid (Kept wi w11) := Lib.hid (by rw [hw11]; exact (Kept.refl _).alloc _)
                have HW11 := Lib.hid hw11
                clear hx hxe hxs hbp hy2 hy3 hw11
                obtain ⟨d0, d1, d2⟩ := row3_at HX11.out
                go_upto_region 6 with fail
                rw [← HW11.out]
                clear z0 z1 z2
                go_wp2_with fail
                refine (HPR.out _ _ (HXV.out.kept HK11.out)).mono ?_
                rintro e w12 ⟨rfl, hk12⟩
                have HK12 := Lib.hid (HKr.out.trans (HK11.out.trans hk12))
                have HX12 := Lib.hid (HX11.out.kept hk12)
                clear hk12 d0 d1 d2
                obtain ⟨d0, d1, d2⟩ := row3_at HX12.out
                cases bp with
                | false =>
                  go_wp2
                  go_ret
                  exact ⟨rfl, HK4.out.trans HK12.out⟩
                | true =>
                  by_cases h1 : 2 < y2
                  · have e1 : (2 : Int) < (y2 : Int) := by omega
                    have f1 : decide ((2 : Int) < (y2 : Int)) = true := decide_eq_true e1
                    go_wp2
                    go_ret
                    exact ⟨rfl, HK4.out.trans HK12.out⟩
                  · have e1 : ¬ (2 : Int) < (y2 : Int) := by omega
                    have f1 : decide ((2 : Int) < (y2 : Int)) = false := decide_eq_false e1
                    by_cases h2 : 2 < y3
                    · have e2 : (2 : Int) < (y3 : Int) := by omega
                      have f2 : decide ((2 : Int) < (y3 : Int)) = true := decide_eq_true e2
                      go_wp2
                      go_ret
                      exact ⟨rfl, HK4.out.trans HK12.out⟩
                    · have e2 : ¬ (2 : Int) < (y3 : Int) := by omega
                      have f2 : decide ((2 : Int) < (y3 : Int)) = false := decide_eq_false e2
                      have HS2 := Lib.hid (HNX.out (by omega) (by omega) rfl)
                      go_wp2_with fail
                      go_roundg (pn - (k + 1))
                      case measure => omega
                      case rel => exact ⟨k + 1, by omega, by go_num, Nat.le_refl _, HK12, HS2⟩
              · have hkn : ¬ (k : Int) < (pn : Int) := by omega
                have hke : k = ps.length := by have := HPN.out; omega
                have HS2 : Hid (∀ r ∈ ps, r.Short 2 ∧ probR r = true) := Lib.hid (by have h := HF.out; rw [hke, List.take_length] at h; exact h)
                have HX3 := Lib.hid (HX4.out.kept HKr.out)
                have HK3 := Lib.hid HKw.out
                obtain ⟨w3, rfl⟩ : ∃ w3 : World, w3 = wi := ⟨_, rfl⟩
                clear hke hkx HF c0 c1 c2 hkn HKr hk
                have HS3 : Hid (∀ r ∈ ps, r.Short 3) := Lib.hid fun r hr => ⟨Nat.le_trans (HS2.out r hr).1.1 (by omega), Nat.le_trans (HS2.out r hr).1.2 (by omega)⟩
                have HBAD : Hid (badR ps = false) := Lib.hid (by
                  unfold badR
                  rw [List.any_eq_false]
                  intro r hr
                  simp [(HS2.out r hr).2])
                obtain ⟨c0, c1, c2⟩ := row3_at HX3.out
                obtain ⟨R, hR⟩ : ∃ R, R = topP V T nodes := ⟨_, rfl⟩
                have HOR : Hid (∀ W, Kept w W → Calls Tryz.prog 44 #[.agg #[.int .i64 V, .slice a n c, .int .i64 T]] W fun e w' => TRes w' e R ∧ Kept W w') := Lib.hid fun W h => by rw [hR]; exact HOV.out W h
                have HRT := Lib.hid hR
                clear hR HOV
                cases R with
                | none =>
                  have h4 : Hid (∀ W, Calls Tryz.prog 32 #[.iface 50 (.int .i64 4), .int .i64 4] W fun e w' => e = .returned (.bool true) ∧ W = w') := Lib.hid fun W => by
                    have h := is_any 4 4 (by decide) W
                    exact h
                  go_wp2_with fail
                  refine (HOR.out _ HK3.out).mono ?_
                  rintro e w5 ⟨he, hk5⟩
                  have HK5 := Lib.hid (HK3.out.trans hk5)
                  have he : e = .returned (.tuple #[.slice none 0 0, .iface 50 (.int .i64 4)]) := he
                  subst he
                  clear c0 c1 c2 hk5
                  go_wp2_with fail
                  refine (h4.out _).mono ?_
                  rintro e w6 ⟨rfl, rfl⟩
                  go_wp2
                  go_ret
                  exact ⟨rfl, HK5.out⟩
                | some r0 =>
                  have hpv := HPV.out
                  have hVl : V ≤ ps.length := by rw [← HPN.out]; exact hVn
                  have heq := chances_eq HOK2.out HRT.out.symm hVl hpv.ok HBAD.out
                  have htp := topP_v HOK2.out HRT.out.symm
                  have htop := eval_top HOK2.out HRT.out.symm hVl
                  obtain ⟨r, hr⟩ : ∃ r, r = canR (evQ ps r0) := ⟨_, rfl⟩
                  have HT : Hid (∀ W u, TrmsAt W u (polT r0) → Kept w W → Calls Tryz.prog 34 #[u, .slice pa pn pc] W fun e w' => (∃ v', e = .returned (.tuple #[v', .nilIface]) ∧ RatAt w' v' r) ∧ Kept W w') := Lib.hid fun W u hu hk => by
                    rw [hr]
                    exact peval_any u _ r0 ps W hu (hpv.kept hk) htp.acc (htp.sh.mono (by omega)) (fun x hx => ⟨Nat.le_trans (HS3.out x hx).1 (by omega), Nat.le_trans (HS3.out x hx).2 (by omega)⟩) (by rw [← HPN.out]; exact h30) htop
                  obtain ⟨G, hG⟩ : ∃ G : Nat → Rat, G = stS ps V T ⟨(V : Int), nodes, (T : Int)⟩ := ⟨_, rfl⟩
                  obtain ⟨B, hB⟩ : ∃ B : Nat → Bool, B = fun k => (valsK V k nodes).getD T false := ⟨_, rfl⟩
                  have HG0 : Hid (canR (G 0) = ⟨false, [], []⟩) := Lib.hid (by rw [hG]; exact canR_zero)
                  have HGT : Hid (∀ k, B k = true → G (k + 1) = G k + stQ (qOf ps) k V) := Lib.hid fun k hk => by rw [hG]; exact stS_true (by rw [hB] at hk; exact hk)
                  have HGF : Hid (∀ k, B k = false → G (k + 1) = G k) := Lib.hid fun k hk => by rw [hG]; exact stS_false (by rw [hB] at hk; exact hk)
                  have HGS : Hid (∀ k, k ≤ 64 → (canR (G k)).Short 3000) := Lib.hid fun k hk => by
                    have h := stS_shortL (f := ⟨(V : Int), nodes, (T : Int)⟩) (T := T) hVl hV6 HS3.out hpv.ok k
                    rw [← hG] at h
                    exact ⟨Nat.le_trans h.1 (by omega), Nat.le_trans h.2 (by omega)⟩
                  have HQS : Hid (∀ k i, i ≤ V → (canR (stQ (qOf ps) k i)).Short 3000) := Lib.hid fun k i hi => by
                    have h := stQ_short (s := k) HS3.out hpv.ok i (by omega)
                    exact ⟨Nat.le_trans h.1 (by omega), Nat.le_trans h.2 (by omega)⟩
                  obtain ⟨M, hM⟩ : ∃ M, M = 2 ^ V := ⟨_, rfl⟩
                  have hM64 : M ≤ 64 := by rw [hM]; exact Nat.pow_le_pow_right (by decide) hV6
                  have HRG : Hid (r = canR (G M)) := Lib.hid (by rw [hr, heq.1, hG, hM])
                  have HPB : Hid (probR r = true) := Lib.hid (by rw [hr]; exact heq.2)
                  have HVB : Hid (∀ k : Nat, k < M → ∀ W, Kept w W → Calls Tryz.prog 45 #[.agg #[.int .i64 V, .slice a n c, .int .i64 T], .int .i64 k] W fun e w' => e = .returned (.tuple #[.bool (B k), .nilIface]) ∧ Kept W w') := Lib.hid fun k hk W h => by
                    have h1 := HVA.out k (by rw [← hM]; exact hk) W h
                    rw [hB]
                    exact h1
                  have hsh : wrap64 ((2 : Int) ^ V) = (M : Int) := by rw [hM]; exact shlW V (by omega)
                  have HSH := Lib.hid hsh
                  clear hG hB hM heq htp htop hsh HVA HVL HOK HOFF hpv hr HRT
                  go_wp2_with fail
                  refine (HOR.out _ HK3.out).mono ?_
                  rintro e w4 ⟨⟨v4, rfl, hv4⟩, hk4⟩
                  obtain ⟨ra, rl, rc, rfl⟩ := hv4.slc
                  have HV4 := Lib.hid hv4
                  have HX4 := Lib.hid (HX3.out.kept hk4)
                  have HK4 := Lib.hid (HK3.out.trans hk4)
                  clear c0 c1 c2 hv4 hk4
                  go_wp2_with fail
                  refine (HT.out _ _ HV4.out HK4.out).mono ?_
                  rintro e w5 ⟨⟨v5, rfl, hv5⟩, hk5⟩
                  have HX5 := Lib.hid (HX4.out.kept hk5)
                  obtain ⟨n6, l6, m6, a6, c6, b6, d6, w6, rfl, hw6, hc6, hk6, hr6, hz6⟩ := hv5.box
                  obtain ⟨w7, hw7⟩ : ∃ w7, w7 = w6.alloc (.cells #[.bool false, .slice none 0 0, .slice none 0 0] 38) := ⟨_, rfl⟩
                  have hk7 : Kept w6 w7 := by rw [hw7]; exact (Kept.refl _).alloc _
                  have HC7 : Hid (RatCell w7 w5.heap.size r) := Lib.hid (hc6.kept hk7)
                  have HD7 : Hid (RatCell w7 (w5.heap.size + 1) (canR (G 0))) := Lib.hid (by rw [HG0.out, hw7, ← hz6]; exact RatCell.zero w6)
                  have HX7 := Lib.hid (HX5.out.kept (hk6.trans hk7))
                  have HK6 := Lib.hid (HK4.out.trans (hk5.trans hk6))
                  have HK67 := Lib.hid hk7
                  have HZ6 := Lib.hid hz6
                  have HW6 := Lib.hid hw6
                  have HW7 := Lib.hid hw7
                  have HX6 := Lib.hid (HX5.out.kept hk6)
                  have HC6 := Lib.hid hc6
                  clear hv5 hk5 hw6 hc6 hk6 hr6 hz6 hw7 hk7
                  obtain ⟨c0, c1, c2⟩ := row3_at HX5.out
                  have hlt5 := HX5.out.lt
                  go_wp2_with fail
                  rw [← HW6.out, ← HW7.out, HSH.out]
                  clear c0 c1 c2
                  go_loopg [93] M (fun kx s93 wr => ∃ k : Nat, k ≤ M ∧ s93 = .int .i64 k ∧ M - k ≤ kx ∧ Hid (Kept w6 wr) ∧ Hid (RatCell wr (w5.heap.size + 1) (canR (G k))))
                  case atStart => exact ⟨0, Nat.zero_le _, rfl, by omega, HK67, HD7⟩
                  case round =>
                    obtain ⟨k, hk, rfl, hkx, HKq, HGr⟩ := hrel
                    obtain ⟨wo, rfl⟩ : ∃ wo : World, wo = wr := ⟨_, rfl⟩
                    have HKw := Lib.hid (HK6.out.trans HKq.out)
                    by_cases hlt : k < M
                    · have hki : (k : Int) < (M : Int) := by omega
                      have HVK := Lib.hid (HVB.out k hlt)
                      obtain ⟨c0, c1, c2⟩ := row3_at (HX6.out.kept HKq.out)
                      cases hBk : B k with
                      | false =>
                        have HGN : Hid (G (k + 1) = G k) := Lib.hid (HGF.out k hBk)
                        rw [hBk] at HVK
                        clear hBk
                        go_wp2_with fail
                        refine (HVK.out _ HKw.out).mono ?_
                        rintro e w8 ⟨rfl, hk8⟩
                        have HKN := Lib.hid (HKq.out.trans hk8)
                        have HGR : Hid (RatCell w8 (w5.heap.size + 1) (canR (G (k + 1)))) := Lib.hid (by rw [HGN.out]; exact HGr.out.kept hk8)
                        clear hk8 c0 c1 c2
                        go_wp2_with fail
                        go_roundg (M - (k + 1))
                        case measure => omega
                        case rel => exact ⟨k + 1, by omega, by go_num, Nat.le_refl _, HKN, HGR⟩
                      | true =>
                        have HGN : Hid (G (k + 1) = G k + stQ (qOf ps) k V) := Lib.hid (HGT.out k hBk)
                        rw [hBk] at HVK
                        clear hBk
                        have hk24 : k < 16777216 := by omega
                        have HAD : Hid (∀ W u1 u2, RatAt W u1 (canR (G k)) → RatAt W u2 (canR (stQ (qOf ps) k V)) → Calls Tryz.prog 24 #[u1, u2] W fun e w' => (∃ v', e = .returned v' ∧ RatAt w' v' (canR (G (k + 1)))) ∧ Kept W w') := Lib.hid fun W u1 u2 k1 k2 => by
                          have s1 := HGS.out k (by omega)
                          have s2 := HQS.out k V (Nat.le_refl _)
                          have h := radd_any u1 u2 _ _ W k1 k2 ⟨Nat.le_trans s1.1 (by omega), Nat.le_trans s1.2 (by omega)⟩ ⟨Nat.le_trans s2.1 (by omega), Nat.le_trans s2.2 (by omega)⟩
                          rw [ratOf_can, ratOf_can, ← HGN.out] at h
                          exact h
                        have HOF : Hid (∀ W, Calls Tryz.prog 46 #[.int .i64 1] W fun e w' => (∃ v', e = .returned v' ∧ RatAt w' v' (canR 1)) ∧ Kept W w') := Lib.hid fun W => rof_any 1 W (by omega) (by omega)
                        have HBV := Lib.hid (fun i => bit_val0 k i hk24)
                        have hpn6 := hV6
                        go_wp2_with fail
                        refine (HVK.out _ HKw.out).mono ?_
                        rintro e w8 ⟨rfl, hk8⟩
                        have HX8 := Lib.hid (HX6.out.kept (HKq.out.trans hk8))
                        have HK68 := Lib.hid (HKq.out.trans hk8)
                        have HKo8 := Lib.hid hk8
                        clear c0 c1 c2 hk8 hk24
                        obtain ⟨c0, c1, c2⟩ := row3_at HX8.out
                        go_wp2_with fail
                        refine (HOF.out _).mono ?_
                        rintro e w9 ⟨⟨v9, rfl, hv9⟩, hk9⟩
                        obtain ⟨n9, l9, m9, a9, c9, b9, d9, w10, rfl, hw10, hc10, hk10, _, _⟩ := hv9.box
                        have HK69 := Lib.hid (HK68.out.trans hk9)
                        have HX9 := Lib.hid (HX8.out.kept hk9)
                        have HD9 := Lib.hid (HGr.out.kept (HKo8.out.trans hk9))
                        have HK910 := Lib.hid hk10
                        have HC10 : Hid (RatCell w10 w9.heap.size (canR (stQ (qOf ps) k 0))) := Lib.hid hc10
                        have HW10 := Lib.hid hw10
                        clear c0 c1 c2 hv9 hk9 hw10 hc10 hk10
                        obtain ⟨c0, c1, c2⟩ := row3_at HX9.out
                        have hlt9 := HX9.out.lt
                        go_wp2_with fail
                        rw [← HW10.out]
                        clear c0 c1 c2
                        go_loopg [109] V (fun kx s109 wq => ∃ i : Nat, i ≤ V ∧ s109 = .int .i64 i ∧ V - i ≤ kx ∧ Hid (Kept w9 wq) ∧ Hid (RatCell wq w9.heap.size (canR (stQ (qOf ps) k i))))
                        case atStart => exact ⟨0, Nat.zero_le _, rfl, by omega, HK910, HC10⟩
                        case round =>
                          obtain ⟨i, hi, rfl, hix, HKz, HPr⟩ := hrel
                          obtain ⟨wi, rfl⟩ : ∃ wi : World, wi = wr := ⟨_, rfl⟩
                          have HKi := Lib.hid (HK6.out.trans (HK69.out.trans HKz.out))
                          by_cases hin : i < V
                          · have hii : (i : Int) < (V : Int) := by omega
                            have hi0 : (0 : Int) ≤ (i : Int) := by omega
                            have hi64 : (i : Int) < 64 := by omega
                            have hil : i < ps.length := by have := HPN.out; omega
                            have hsx := qOf_short HS3.out hil
                            have hox := qOf_ok HPV.out.ok hil
                            obtain ⟨b, o, y1, y2, y3, a1, c1, a2, c2, rfl, z0, z1, z2, HXV⟩ := (HPV.out.kept HKi.out).read i hil
                            obtain ⟨x, hx⟩ : ∃ x, x = ps.getD i default := ⟨_, rfl⟩
                            have hq : ratOf x = qOf ps i := by rw [hx]; rfl
                            rw [← hx] at HXV hsx hox
                            have hsn := not_short HS3.out HPV.out.ok hil
                            have s1 := HQS.out k i (Nat.le_of_lt hin)
                            obtain ⟨w11, hw11⟩ : ∃ w11, w11 = wi.alloc (.cells #[.bool y1, .slice a1 y2 c1, .slice a2 y3 c2] 38) := ⟨_, rfl⟩
                            have HCX : Hid (RatCell w11 wi.heap.size x) := Lib.hid (by rw [hw11]; exact HXV.out.lay)
                            have HK11 : Hid (Kept wi w11) := Lib.hid (by rw [hw11]; exact (Kept.refl _).alloc _)
                            have HW11 := Lib.hid hw11
                            have hbv := HBV.out i
                            cases hb : k.testBit i with
                            | true =>
                              have HMU : Hid (∀ W u1 u2, RatAt W u1 (canR (stQ (qOf ps) k i)) → RatAt W u2 x → Calls Tryz.prog 26 #[u1, u2] W fun e w' => (∃ v', e = .returned v' ∧ RatAt w' v' (canR (stQ (qOf ps) k (i + 1)))) ∧ Kept W w') := Lib.hid fun W u1 u2 k1 k2 => by
                                have h := rmul_any u1 u2 _ _ W k1 k2 ⟨Nat.le_trans s1.1 (by omega), Nat.le_trans s1.2 (by omega)⟩ ⟨Nat.le_trans hsx.1 (by omega), Nat.le_trans hsx.2 (by omega)⟩
                                rw [ratOf_can, hq, ← stQ_true hb] at h
                                exact h
                              rw [hb] at hbv
                              clear hb hsx hox hx hq hsn s1 hw11 hil
                              obtain ⟨p1, p2, p3, ep1, ep2, ep3, ep4, yp0, yp1, yp2, hlp, HRp⟩ := (HPr.out).read
                              go_wp2_with fail
                              rw [← HW11.out]
                              refine (HMU.out _ _ _ (HRp.out.kept HK11.out) (HXV.out.kept HK11.out)).mono ?_
                              rintro e w12 ⟨⟨v12, rfl, hv12⟩, hk12⟩
                              have HK12 := Lib.hid (HK11.out.trans hk12)
                              clear yp0 yp1 yp2 hlp HRp
                              obtain ⟨n5, l5, m5, g1, h1, g2, h2, w13, rfl, hw13, ⟨⟨t0, p0⟩, ⟨t1, q1⟩, ⟨t2, q2⟩⟩, ⟨f0, f1, f2⟩, hl6, _, _, HSN, HKP⟩ := (HPr.out.kept HK12.out).save hv12
                              have HKN := Lib.hid (HKP.out _ (HKz.out.trans HK12.out) (Nat.le_refl _))
                              rw [hw13] at HSN HKN
                              clear hv12 hk12 hw13 HKP z0 z1 z2
                              go_wp2_with fail
                              go_roundg (V - (i + 1))
                              case measure => omega
                              case rel => exact ⟨i + 1, by omega, by go_num, Nat.le_refl _, HKN, HSN⟩
                            | false =>
                              have HSB : Hid (∀ W u1 u2, RatAt W u1 (canR 1) → RatAt W u2 x → Calls Tryz.prog 25 #[u1, u2] W fun e w' => (∃ v', e = .returned v' ∧ RatAt w' v' (canR (1 - qOf ps i))) ∧ Kept W w') := Lib.hid fun W u1 u2 k1 k2 => by
                                have h := rsub_any u1 u2 _ _ W k1 k2 ⟨by decide +kernel, by decide +kernel⟩ ⟨Nat.le_trans hsx.1 (by omega), Nat.le_trans hsx.2 (by omega)⟩
                                rw [ratOf_can, hq] at h
                                exact h
                              have HMU : Hid (∀ W u1 u2, RatAt W u1 (canR (stQ (qOf ps) k i)) → RatAt W u2 (canR (1 - qOf ps i)) → Calls Tryz.prog 26 #[u1, u2] W fun e w' => (∃ v', e = .returned v' ∧ RatAt w' v' (canR (stQ (qOf ps) k (i + 1)))) ∧ Kept W w') := Lib.hid fun W u1 u2 k1 k2 => by
                                have h := rmul_any u1 u2 _ _ W k1 k2 ⟨Nat.le_trans s1.1 (by omega), Nat.le_trans s1.2 (by omega)⟩ ⟨Nat.le_trans hsn.1 (by omega), Nat.le_trans hsn.2 (by omega)⟩
                                rw [ratOf_can, ratOf_can, ← stQ_false hb] at h
                                exact h
                              rw [hb] at hbv
                              clear hb hsx hox hx hq hsn s1 hw11 hil
                              go_upto_region 27 with fail
                              rw [← HW11.out]
                              clear z0 z1 z2
                              obtain ⟨x1, x2, x3, ex1, ex2, ex3, ex4, yx0, yx1, yx2, hlx, HRx⟩ := (HCX.out).read
                              go_region_with (first
                                | (go_at_call 46; (with_reducible refine (HOF.out _).mono ?_); rintro e w12 ⟨⟨v12, rfl, hv12⟩, hk12⟩; have KA : Hid (Kept w11 w12) := Lib.hid ((Kept.refl w11).drew.trans hk12); obtain ⟨r1, r2, r3, r4, r5, r6, r7, rfl⟩ := hv12.parts; have HV12 := Lib.hid hv12; have k0 := KA.out.cell yx0; have k1 := KA.out.cell yx1; have k2 := KA.out.cell yx2; clear hk12 hv12)
                                | (go_at_call 25; (with_reducible refine (HSB.out _ _ _ HV12.out (HRx.out.kept KA.out)).mono ?_); rintro e w13 ⟨⟨v13, rfl, hv13⟩, hk13⟩; have KB : Hid (Kept w11 w13) := Lib.hid (KA.out.trans hk13); obtain ⟨n5, l5, m5, g1, h1, g2, h2, w14, rfl, hw14, ⟨⟨t0, p0⟩, ⟨t1, q1⟩, ⟨t2, q2⟩⟩, ⟨f0, f1, f2⟩, hl6, _, _, HSX, HKP⟩ := (HCX.out.kept KB.out).save hv13; have HW14 := Lib.hid hw14; have HKX := Lib.hid (HKP.out wi (HK11.out.trans KB.out) (Nat.le_refl _)); clear hw14 hv13 hk13 HKP))
                              all_goals
                                rw [← HW14.out]
                                obtain ⟨p1, p2, p3, ep1, ep2, ep3, ep4, yp0, yp1, yp2, hlp, HRp⟩ := (HPr.out.kept HKX.out).read
                                obtain ⟨s1, s2, s3, es1, es2, es3, es4, ys0, ys1, ys2, hls, HRs⟩ := (HSX.out).read
                                go_wp2_with fail
                                refine (HMU.out _ _ _ HRp.out HRs.out).mono ?_
                                rintro e w15 ⟨⟨v15, rfl, hv15⟩, hk15⟩
                                have HK15 := Lib.hid (HKX.out.trans hk15)
                                obtain ⟨n5, l5, m5, g1, h1, g2, h2, w16, rfl, hw16, ⟨⟨t0, p0⟩, ⟨t1, q1⟩, ⟨t2, q2⟩⟩, ⟨f0, f1, f2⟩, hl7, _, _, HSN, HKQ⟩ := (HPr.out.kept HK15.out).save hv15
                                have HKN := Lib.hid (HKQ.out _ (HKz.out.trans HK15.out) (Nat.le_refl _))
                                rw [hw16] at HSN HKN
                                clear hv15 hk15 hw16 HKQ
                                go_wp2_with fail
                                go_roundg (V - (i + 1))
                                case measure => omega
                                case rel => exact ⟨i + 1, by omega, by go_num, Nat.le_refl _, HKN, HSN⟩
                          · have hie : i = V := by omega
                            have hii : ¬ (i : Int) < (V : Int) := by omega
                            have HPN2 : Hid (RatCell wi w9.heap.size (canR (stQ (qOf ps) k V))) := Lib.hid (by rw [← hie]; exact HPr.out)
                            clear hie
                            obtain ⟨p1, p2, p3, ep1, ep2, ep3, ep4, yp0, yp1, yp2, hlp, HRp⟩ := (HPN2.out).read
                            obtain ⟨s1, s2, s3, es1, es2, es3, es4, ys0, ys1, ys2, hls, HRs⟩ := (HD9.out.kept HKz.out).read
                            go_wp2_with fail
                            refine (HAD.out _ _ _ HRs.out HRp.out).mono ?_
                            rintro e w17 ⟨⟨v17, rfl, hv17⟩, hk17⟩
                            clear yp0 yp1 yp2 hlp HRp
                            clear ys0 ys1 ys2 hls HRs
                            obtain ⟨n5, l5, m5, g1, h1, g2, h2, w18, rfl, hw18, ⟨⟨t0, p0⟩, ⟨t1, q1⟩, ⟨t2, q2⟩⟩, ⟨f0, f1, f2⟩, hl7, _, _, HSN, HKQ⟩ := (HD9.out.kept (HKz.out.trans hk17)).save hv17
                            have HKN := Lib.hid (HKQ.out w6 (HK69.out.trans (HKz.out.trans hk17)) (Nat.le_of_eq HZ6.out))
                            rw [hw18] at HSN HKN
                            clear hv17 hk17 hw18 HKQ
                            go_wp2_with fail
                            go_roundg (M - (k + 1))
                            case measure => omega
                            case rel => exact ⟨k + 1, by omega, by go_num, Nat.le_refl _, HKN, HSN⟩
                    · have hke : k = M := by omega
                      have hki : ¬ (k : Int) < (M : Int) := by omega
                      have HGN : Hid (RatCell wo (w5.heap.size + 1) r) := Lib.hid (by rw [HRG.out, ← hke]; exact HGr.out)
                      clear hke
                      obtain ⟨v1, v2, v3, ev1, ev2, ev3, ev4, yv0, yv1, yv2, hlv, HRv⟩ := (HC6.out.kept HKq.out).read
                      obtain ⟨s1, s2, s3, es1, es2, es3, es4, ys0, ys1, ys2, hls, HRs⟩ := (HGN.out).read
                      have hrs : r.Short 3000 := by rw [HRG.out]; exact HGS.out M hM64
                      have HCM : Hid (∀ W u1 u2, RatAt W u1 r → RatAt W u2 r → Calls Tryz.prog 23 #[u1, u2] W fun e w' => e = .returned (.int .i64 0) ∧ Kept W w') := Lib.hid fun W u1 u2 h1 h2 => by
                        have h3 := rcmp_any u1 u2 r r W h1 h2 ⟨Nat.le_trans hrs.1 (by omega), Nat.le_trans hrs.2 (by omega)⟩ ⟨Nat.le_trans hrs.1 (by omega), Nat.le_trans hrs.2 (by omega)⟩
                        rw [Rat.sub_self] at h3
                        exact h3
                      have HPO : Hid (∀ W u, RatAt W u r → Calls Tryz.prog 47 #[u] W fun e w' => e = .returned (.bool true) ∧ Kept W w') := Lib.hid fun W u hu => by
                        have h1 := rprob_any u r W hu ⟨Nat.le_trans hrs.1 (by omega), Nat.le_trans hrs.2 (by omega)⟩
                        rw [HPB.out] at h1
                        exact h1
                      clear hrs
                      go_wp2_with fail
                      refine (HCM.out _ _ _ HRv.out HRs.out).mono ?_
                      rintro e w8 ⟨rfl, hk8⟩
                      have HK8 := Lib.hid (HKw.out.trans hk8)
                      clear yv0 yv1 yv2 hlv HRv
                      clear ys0 ys1 ys2 hls HRs
                      obtain ⟨v1, v2, v3, ev1, ev2, ev3, ev4, yv0, yv1, yv2, hlv, HRv⟩ := (HC6.out.kept (HKq.out.trans hk8)).read
                      clear hk8
                      go_wp2_with fail
                      refine (HPO.out _ _ HRv.out).mono ?_
                      rintro e w9 ⟨rfl, hk9⟩
                      go_wp2
                      go_ret
                      exact ⟨rfl, HK8.out.trans hk9⟩
          · have hvx : (30 : Int) < (pn : Int) := by omega
            go_wp2_with fail
            refine (HA.out _).mono ?_
            rintro e wz ⟨rfl, hkz⟩
            go_wp2
            go_ret
            exact ⟨rfl, HK4.out.trans hkz⟩
        · have hvn : decide ((pn : Int) < (V : Int)) = true := decide_eq_true (by omega)
          have hvN : decide (pn < V) = true := decide_eq_true (by omega)
          go_wp2_with fail
          refine (HA.out _).mono ?_
          rintro e wz ⟨rfl, hkz⟩
          go_wp2
          go_ret
          exact ⟨rfl, HK4.out.trans hkz⟩
      · have hv6 : decide ((6 : Int) < (V : Int)) = true := decide_eq_true (by omega)
        go_wp2_with fail
        refine (HA.out _).mono ?_
        rintro e wz ⟨rfl, hkz⟩
        go_wp2
        go_ret
        exact ⟨rfl, HK4.out.trans hkz⟩
    · rw [errV_pos hq0] at HC
      go_wp2_with fail
      refine (HC.out _ HK2.out).mono ?_
      rintro e w4 ⟨rfl, hk4⟩
      have HK4 := Lib.hid (HK2.out.trans hk4)
      clear c0 c1 c2 hk4
      go_wp2_with fail
      refine (HA.out _).mono ?_
      rintro e wz ⟨rfl, hkz⟩
      go_wp2
      go_ret
      exact ⟨rfl, HK4.out.trans hkz⟩
end Go.Proofs.YtpaedhlacbpmpaaGreatDoor
