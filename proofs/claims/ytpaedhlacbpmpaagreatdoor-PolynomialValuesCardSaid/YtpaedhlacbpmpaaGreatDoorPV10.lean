import Derived.Test.YtpaedhlacbpmpaaGreatDoorPX1
import Derived.Test.YtpaedhlacbpmpaaGreatDoorPX2
import Derived.Test.YtpaedhlacbpmpaaGreatDoorPX3
import Derived.Test.YtpaedhlacbpmpaaGreatDoorPX4
import Derived.Test.YtpaedhlacbpmpaaGreatDoorPX5
import Derived.Test.YtpaedhlacbpmpaaGreatDoorPX6
import Derived.Test.YtpaedhlacbpmpaaGreatDoorPX7
import Derived.Test.YtpaedhlacbpmpaaGreatDoorPV8
/-
  Walks: faultlineref20.Eval of the program, both answers; Value of a set that is refused. Printed by gen_PJ.py.
-/
namespace Go.Proofs.YtpaedhlacbpmpaaGreatDoor
open Go.RowKit

/-- What the program's Eval answers. -/
def EvP (xs : List Rw) (p : Pol) (w' : World) (e : Ending) : Prop :=
  (∃ v', (∀ t ∈ p, gtK t.1 < (xs.length : Int)) ∧ e = .returned (.tuple #[v', .nilIface]) ∧ RatAt w' v' (canR (evQ xs p))) ∨
  (¬ (∀ t ∈ p, gtK t.1 < (xs.length : Int)) ∧ e = .returned (.tuple #[.agg #[.bool false, .slice none 0 0, .slice none 0 0], .iface 50 (.int .i64 11)]))
set_option maxRecDepth 100000 in
set_option maxHeartbeats 16000000 in
theorem peval_all (v xv : Value) (p : Pol) (xs : List Rw) (w : World) (hp : TrmsAt w v (polT p)) (hx : RatsAt w xv xs) (ha : Acc p) (hsp : ShP 100000 p) (hx4 : ∀ r ∈ xs, r.Short 4) (hx30 : xs.length ≤ 30) :
    Calls Tryz.prog 34 #[v, xv] w fun e w' => EvP xs p w' e ∧ Kept w w' := by
  have HCH : Hid (∀ W, Kept w W → Calls Tryz.prog 21 #[v] W fun e w' => e = .returned .nilIface ∧ Kept W w') := Lib.hid fun W hk => by
    have h := pcheck20_any v (polT p) W (hp.kept hk) (hsp.mono (by omega)).t
    rw [chkT_pol ha, errV_zero] at h
    exact h
  have HGT : Hid (∀ (t : Nat) W, t < 16777216 → Calls Tryz.prog 75 #[.int .i64 t] W fun e w' => e = .returned (.int .i64 (gtK t)) ∧ w' = W) := Lib.hid fun t W ht => great_any t ht W
  have HH := Lib.hid (fun (s i : Nat) (hs : s < 16777216) W => hasS_any s i hs W)
  have HTK : Hid (∀ j (h : j < p.length), evQ xs (p.take (j + 1)) = evQ xs (p.take j) + p[j].2 * prodQ p[j].1 xs (min xs.length 24)) := Lib.hid fun j h => ev_take h
  have HSV : Hid (∀ j, j ≤ p.length → (canR (evQ xs (p.take j))).Short 68719476736) := Lib.hid fun j hj => by
    have h := ev_short (A := 100000) (by omega) hsp hx4 hx.ok j hj
    have := ha.len
    have h2 : 100097 * j ≤ 100097 * 4096 := Nat.mul_le_mul_left _ (by omega)
    exact ⟨Nat.le_trans h.1 (by omega), Nat.le_trans h.2 (by omega)⟩
  have HCP : Hid (∀ s c k, (canR c).Short 100000 → k ≤ xs.length → (canR (c * prodQ s xs k)).Short 34359738368) := Lib.hid fun s c k hc hk => by
    have h := cprod_short (s := s) (by omega) hc hx4 hx.ok k hk
    exact ⟨Nat.le_trans h.1 (by omega), Nat.le_trans h.2 (by omega)⟩
  obtain ⟨a, ac, rfl⟩ := hp.shape
  obtain ⟨xa, xc, rfl⟩ := hx.shape
  obtain ⟨n, hn⟩ : ∃ n, n = p.length := ⟨_, rfl⟩
  obtain ⟨m, hm⟩ : ∃ m, m = xs.length := ⟨_, rfl⟩
  obtain ⟨q, hq⟩ : ∃ q, q = min m 24 := ⟨_, rfl⟩
  rw [polT_len, ← hn] at hp HCH ⊢
  rw [← hm]
  rw [← hm] at hx hx30 HTK HCP
  rw [← hq] at HTK
  have hnl : n ≤ 4096 := by rw [hn]; exact ha.len
  have hmc : m ≤ xc ∧ (xa = none → xc = 0) := by
    obtain ⟨a1, c1, h1, h2, _⟩ := hx
    cases h1; rwa [← hm] at h2
  have hqm : q ≤ m := by omega
  have hq24 : q ≤ 24 := by omega
  have HP := Lib.hid hp
  have HXV := Lib.hid hx
  have HN := Lib.hid hn
  have HM := Lib.hid hm
  have HSP := Lib.hid hsp
  have HX4 := Lib.hid hx4
  have HBP := Lib.hid ha.bit
  have HGOOD : Hid (∀ w' v', (∀ t ∈ p, gtK t.1 < (m : Int)) → RatAt w' v' (canR (evQ xs p)) → EvP xs p w' (.returned (.tuple #[v', .nilIface]))) := Lib.hid fun w' v' h1 h2 => .inl ⟨_, by rw [← hm]; exact h1, rfl, h2⟩
  have HBAD : Hid (∀ w' (t : Nat × Rat), t ∈ p → (m : Int) ≤ gtK t.1 → EvP xs p w' (.returned (.tuple #[.agg #[.bool false, .slice none 0 0, .slice none 0 0], .iface 50 (.int .i64 11)]))) := Lib.hid fun w' t ht hi => .inr ⟨fun h => by
    have h1 := h t ht
    rw [← hm] at h1
    omega, rfl⟩
  obtain ⟨POST, hPOST⟩ : ∃ P : World → Ending → Prop, P = EvP xs p := ⟨_, rfl⟩
  rw [← hPOST] at HGOOD HBAD ⊢
  obtain ⟨w0, hw0⟩ : ∃ w0, w0 = w.alloc (.cells #[.bool false, .slice none 0 0, .slice none 0 0] 38) := ⟨_, rfl⟩
  have HR0 : Hid (RatCell w0 w.heap.size ⟨false, [], []⟩) := Lib.hid (by rw [hw0]; exact RatCell.zero w)
  have HK0 : Hid (Kept w w0) := Lib.hid (by rw [hw0]; exact (Kept.refl _).alloc _)
  have HW0 := Lib.hid hw0
  have HZ0 : Hid (w0.heap.size = w.heap.size + 1) := Lib.hid (by rw [hw0]; simp)
  clear hp hx ha hsp hn hm hx4 hw0 hPOST
  go_enter Tryz.func34, Tryz.ntmps34
  go_wp2_with fail
  rw [← HW0.out]
  refine (HCH.out _ HK0.out).mono ?_
  rintro e w1 ⟨rfl, hk1⟩
  have HK1 := Lib.hid (HK0.out.trans hk1)
  have HZ1 : Hid (w.heap.size < w1.heap.size) := Lib.hid (by have := hk1.size; have := HZ0.out; omega)
  obtain ⟨w2, hw2⟩ : ∃ w2, w2 = w1.alloc (.cells #[.bool false, .slice none 0 0, .slice none 0 0] 38) := ⟨_, rfl⟩
  have HC2 : Hid (RatCell w2 w1.heap.size (canR (evQ xs (p.take 0)))) := Lib.hid (by rw [hw2]; exact RatCell.zero w1)
  have HR2 : Hid (RatCell w2 w.heap.size ⟨false, [], []⟩) := Lib.hid ((HR0.out.kept hk1).kept (by rw [hw2]; exact (Kept.refl _).alloc _))
  have HK2 : Hid (Kept w w2) := Lib.hid (HK1.out.trans (by rw [hw2]; exact (Kept.refl _).alloc _))
  have HW2 := Lib.hid hw2
  clear hw2 hk1
  go_wp2_with fail
  rw [← HW2.out]
  go_loopg [21] n (fun kx sj wr => ∃ j : Nat, j ≤ n ∧ sj = .int .i64 j ∧ n - j ≤ kx ∧ Hid (RatCell wr w1.heap.size (canR (evQ xs (p.take j)))) ∧ Hid (RatCell wr w.heap.size ⟨false, [], []⟩) ∧ Hid (Kept w wr) ∧ Hid (∀ t ∈ p.take j, gtK t.1 < (m : Int)))
  case atStart => exact ⟨0, Nat.zero_le _, rfl, by omega, HC2, HR2, HK2, Lib.hid (fun t ht => by cases ht)⟩
  case round =>
    obtain ⟨j, hj, rfl, hjx, HC, HR, HKr, HGO⟩ := hrel
    obtain ⟨wi, rfl⟩ : ∃ wi : World, wi = wr := ⟨_, rfl⟩
    by_cases hlt : j < n
    · have hjn : (j : Int) < (n : Int) := by omega
      have hjl : j < p.length := by rw [← HN.out]; exact hlt
      obtain ⟨b, o, y1, y2, y3, a1, c1, a2, c2, rfl, z0, z1, z2, z3, HRT⟩ := (HP.out.kept HKr.out).term j hjl
      obtain ⟨t, ht⟩ : ∃ t, t = p[j].1 := ⟨_, rfl⟩
      obtain ⟨c, hc⟩ : ∃ c, c = p[j].2 := ⟨_, rfl⟩
      have hcs : (canR c).Short 100000 := by rw [hc]; exact HSP.out _ (List.getElem_mem _)
      have ht24 : t < 16777216 := by rw [ht]; exact HBP.out _ (List.getElem_mem _)
      have HBADj : Hid (∀ w', (m : Int) ≤ gtK t → POST w' (.returned (.tuple #[.agg #[.bool false, .slice none 0 0, .slice none 0 0], .iface 50 (.int .i64 11)]))) := Lib.hid fun w' h => HBAD.out w' p[j] (List.getElem_mem _) (by rw [← ht]; exact h)
      have HEND : Hid (gtK t < (m : Int) → ∀ u ∈ p.take (j + 1), gtK u.1 < (m : Int)) := Lib.hid fun h1 u hu => by
        rw [List.take_succ_eq_append_getElem hjl] at hu
        rcases List.mem_append.1 hu with hu | hu
        · exact HGO.out u hu
        · rw [List.mem_singleton.1 hu, ← ht]; exact h1
      have HST := Lib.hid (HTK.out j hjl)
      rw [← ht, ← hc] at HST
      have HSJ := Lib.hid (HSV.out j (Nat.le_of_lt hjl))
      have HCK : Hid (∀ k, k ≤ m → (canR (c * prodQ t xs k)).Short 34359738368) := Lib.hid fun k hk => HCP.out t c k hcs hk
      rw [← ht] at z0
      rw [← hc] at HRT
      obtain ⟨gt, hgt⟩ : ∃ gt, gt = gtK t := ⟨_, rfl⟩
      have HGR : Hid (∀ W, Calls Tryz.prog 75 #[.int .i64 t] W fun e w' => e = .returned (.int .i64 gt) ∧ w' = W) := Lib.hid fun W => by rw [hgt]; exact HGT.out t W ht24
      have HHT : Hid (∀ (i : Nat) W, Calls Tryz.prog 73 #[.int .i64 t, .int .i64 i] W fun e w' => e = .returned (.bool (t.testBit i)) ∧ w' = W) := Lib.hid fun i W => HH.out t i ht24 W
      rw [← hgt] at HBADj HEND
      clear ht hc hcs hgt
      obtain ⟨w3, hw3⟩ : ∃ w3, w3 = wi.alloc (.cells #[.int .i64 t, .bool y1, .slice a1 y2 c1, .slice a2 y3 c2] 83) := ⟨_, rfl⟩
      have HX3 : Hid (RowAt w3 wi.heap.size 83 [.int .i64 t, .bool y1, .slice a1 y2 c1, .slice a2 y3 c2]) := Lib.hid (by rw [hw3]; exact RowAt.made wi #[.int .i64 t, .bool y1, .slice a1 y2 c1, .slice a2 y3 c2] 83)
      have HK3 : Hid (Kept wi w3) := Lib.hid (by rw [hw3]; exact (Kept.refl wi).alloc _)
      have HW3 := Lib.hid hw3
      have HR3 := Lib.hid (HRT.out.kept HK3.out)
      clear hw3
      go_wp2_with fail
      rw [← HW3.out]
      obtain ⟨x0, x1, x2, x3⟩ := trm4_at HX3.out
      clear z0 z1 z2 z3
      go_wp2_with fail
      refine (HGR.out _).mono ?_
      rintro e w9 ⟨rfl, rfl⟩
      by_cases hbad : (m : Int) ≤ gt
      · have HRO : RatAt w9 (.agg #[.bool false, .slice none 0 0, .slice none 0 0]) ⟨false, [], []⟩ := ⟨_, _, rfl, WdsAt.nil w9, WdsAt.nil w9⟩
        obtain ⟨n5, l5, m5, g1, h1, g2, h2, w7, he, hw7, ⟨⟨t0, p0⟩, ⟨t1, q1⟩, ⟨t2, q2⟩⟩, ⟨f0, f1, f2⟩, hl6, Y, HRA, _, HKP⟩ := (HR.out.kept HK3.out).save HRO
        have HKN := Lib.hid (HKP.out w (HKr.out.trans HK3.out) (Nat.le_refl _))
        simp only [Value.agg.injEq, Array.mk.injEq, List.cons.injEq, Value.bool.injEq, Value.slice.injEq, and_true] at he
        obtain ⟨rfl, ⟨rfl, rfl, rfl⟩, rfl, rfl, rfl⟩ := he
        rw [hw7] at Y HRA HKN
        clear hw7 HKP HRO
        go_wp2
        refine bodyPost_ret (v := .tuple #[.agg #[.bool false, .slice none 0 0, .slice none 0 0], .iface 50 (.int .i64 11)]) ?_ rfl ⟨HBADj.out _ hbad, HKN.out⟩
        simp [results, Tryz.results34, go_sem, Y.out.1, Y.out.2.1, Y.out.2.2]
      · have hge : ¬ (m : Int) ≤ gt := hbad
        have HGO2 := Lib.hid (HEND.out (by omega))
        clear hbad
        obtain ⟨n4, l4, m4, e1, f1, e2, f2, w5, he, hw5, _, hc5, hk5, _, _⟩ := HR3.out.boxc
        simp only [Value.agg.injEq, Array.mk.injEq, List.cons.injEq, Value.bool.injEq, Value.slice.injEq, and_true] at he
        obtain ⟨rfl, ⟨rfl, rfl, rfl⟩, rfl, rfl, rfl⟩ := he
        have HC5 : Hid (RatCell w5 w9.heap.size (canR (c * prodQ t xs 0))) := Lib.hid (by rw [show c * prodQ t xs 0 = c from Rat.mul_one c]; exact hc5)
        have HK5 := Lib.hid hk5
        have HW5 := Lib.hid hw5
        have hmn : min (m : Int) 24 = (q : Int) := by omega
        have hmx : max (q : Int) 0 = (q : Int) := by omega
        clear hc5 hk5 hw5 HR3 HRT
        go_wp2_with fail
        rw [← HW5.out]
        go_loopg [41] q (fun ky s41 wq => ∃ k : Nat, k ≤ q ∧ s41 = .int .i64 k ∧ q - k ≤ ky ∧ Hid (RatCell wq w9.heap.size (canR (c * prodQ t xs k))) ∧ Hid (Kept w9 wq))
        case atStart => exact ⟨0, Nat.zero_le _, rfl, by omega, HC5, HK5⟩
        case round =>
          obtain ⟨k, hk, rfl, hky, HX, HKq⟩ := hrel
          obtain ⟨wj, rfl⟩ : ∃ wj : World, wj = wr := ⟨_, rfl⟩
          have HKw := Lib.hid ((HKr.out.trans HK3.out).trans HKq.out)
          by_cases hlt2 : k < q
          · have hkq : (k : Int) < (q : Int) := by omega
            have hkl : k < xs.length := by have := HM.out; omega
            obtain ⟨b6, o6, u1, u2, rfl, hrg, hw1, hw2⟩ := HXV.out.get k hkl
            obtain ⟨a6, c6, rfl⟩ := hw1.shape
            obtain ⟨a7, c7, rfl⟩ := hw2.shape
            have hrg2 := range_same hrg HKw.out
            have hq1 : RatAt wj (.agg #[.bool (xs.getD k default).neg, .slice a6 (xs.getD k default).num.length c6, .slice a7 (xs.getD k default).den.length c7]) (xs.getD k default) := ⟨_, _, rfl, hw1.kept HKw.out, hw2.kept HKw.out⟩
            have hx4 : (xs.getD k default).Short 4 := by
              have e : xs.getD k default = xs[k] := by simp [List.getD_eq_getElem?_getD, hkl]
              rw [e]; exact HX4.out _ (List.getElem_mem _)
            have HSK := Lib.hid (HCK.out k (by omega))
            obtain ⟨x, hxx⟩ : ∃ x, x = xs.getD k default := ⟨_, rfl⟩
            have HXX := Lib.hid hxx
            rw [← hxx] at hrg2 hq1 hx4
            have HX3' := Lib.hid hx4
            obtain ⟨w6, hw6⟩ : ∃ w6, w6 = wj.alloc (.cells #[.bool x.neg, .slice a6 x.num.length c6, .slice a7 x.den.length c7] 38) := ⟨_, rfl⟩
            have hr6 := RowAt.made wj #[.bool x.neg, .slice a6 x.num.length c6, .slice a7 x.den.length c7] 38
            rw [← hw6] at hr6
            have hk6 : Kept wj w6 := by rw [hw6]; exact (Kept.refl _).alloc _
            have q0 := hr6.cell (i := 0) (by simp)
            have q1 := hr6.cell (i := 1) (by simp)
            have q2 := hr6.cell (i := 2) (by simp)
            simp only [List.getElem_cons_succ, List.getElem_cons_zero] at q0 q1 q2
            have HQ6 := Lib.hid (hq1.kept hk6)
            generalize x.neg = g0 at *
            generalize x.num.length = g1 at *
            generalize x.den.length = g2 at *
            have HRG : Hid (wj.rangeAt b6 (o6 + k * 3) [.bool g0, .slice a6 g1 c6, .slice a7 g2 c7]) := Lib.hid hrg2
            have HK6 := Lib.hid hk6
            have HW6 := Lib.hid hw6
            have y0 := (HKq.out.trans hk6).cell x0
            rw [hw6] at y0
            obtain ⟨tb, htb⟩ : ∃ tb, tb = t.testBit k := ⟨_, rfl⟩
            have HCH2 : Hid (∀ W, Calls Tryz.prog 73 #[.int .i64 t, .int .i64 k] W fun e w' => e = .returned (.bool tb) ∧ w' = W) := Lib.hid fun W => by rw [htb]; exact HHT.out k W
            clear hrg hrg2 hw1 hw2 hq1 hx4 hxx hw6 hr6 hk6 hkl
            cases tb with
            | false =>
              have HST2 : Hid (c * prodQ t xs (k + 1) = c * prodQ t xs k) := Lib.hid (by rw [prodQ_succ, if_neg (by rw [← htb]; simp)])
              clear htb
              go_wp2_with (with_reducible refine wpList_load_mid rfl 38 _ rfl b6 (o6 + k * 3) rfl _ _ HRG.out Tryz.underlying38 rfl (by kernel_rfl) ?_)
              rw [← HW6.out]
              refine (HCH2.out _).mono ?_
              rintro e w7 ⟨rfl, he7⟩
              rw [he7]
              clear he7
              go_wp2_with fail
              go_roundg (q - (k + 1))
              case measure => omega
              case rel => exact ⟨k + 1, by omega, by go_num, Nat.le_refl _, Lib.hid (by rw [HST2.out]; exact HX.out.kept HK6.out), Lib.hid (HKq.out.trans HK6.out)⟩
            | true =>
              have HML : Hid (∀ W u1 u2, RatAt W u1 (canR (c * prodQ t xs k)) → RatAt W u2 x → Calls Tryz.prog 26 #[u1, u2] W fun e w' => (∃ v', e = .returned v' ∧ RatAt w' v' (canR (c * prodQ t xs (k + 1)))) ∧ Kept W w') := Lib.hid fun W u1 u2 k1 k2 => by
                rw [prodQ_succ, if_pos htb.symm, ← HXX.out]
                have h := rmul_any _ _ _ _ W k1 k2 ⟨Nat.le_trans HSK.out.1 (by omega), Nat.le_trans HSK.out.2 (by omega)⟩ ⟨Nat.le_trans HX3'.out.1 (by omega), Nat.le_trans HX3'.out.2 (by omega)⟩
                rw [ratOf_can, Rat.mul_assoc] at h
                exact h
              clear htb
              obtain ⟨p1, p2, p3, e1, e2, e3, e4, v0, v1, v2, hlx, HXA⟩ := (HX.out.kept HK6.out).read
              go_wp2_with (with_reducible refine wpList_load_mid rfl 38 _ rfl b6 (o6 + k * 3) rfl _ _ HRG.out Tryz.underlying38 rfl (by kernel_rfl) ?_)
              rw [← HW6.out]
              refine (HCH2.out _).mono ?_
              rintro e w7 ⟨rfl, he7⟩
              rw [he7]
              clear he7
              go_wp2_with fail
              refine (HML.out _ _ _ HXA.out HQ6.out).mono ?_
              rintro e w7 ⟨⟨v7, rfl, hv7⟩, hk7⟩
              have hk67 := HK6.out.trans hk7
              obtain ⟨n8, l8, m8, a8, c8, b8, d8, w8, rfl, hw8, ⟨⟨r0, j0⟩, ⟨r1, j1⟩, ⟨r2, j2⟩⟩, ⟨f0, f1, f2⟩, hl8, _, _, HX8, HKP⟩ := (HX.out.kept hk67).save hv7
              have HKE := Lib.hid (HKP.out _ (HKq.out.trans hk67) (Nat.le_refl _))
              have HW8 := Lib.hid hw8
              clear hv7 hk7 hk67 hw8 HKP v0 v1 v2 hlx q0 q1 q2
              go_wp2_with fail
              rw [← HW8.out]
              go_roundg (q - (k + 1))
              case measure => omega
              case rel => exact ⟨k + 1, by omega, by go_num, Nat.le_refl _, HX8, HKE⟩
          · have hke : k = q := by omega
            have hkq : ¬ (k : Int) < (q : Int) := by omega
            have HX9 : Hid (RatCell wj w9.heap.size (canR (c * prodQ t xs q))) := Lib.hid (by rw [← hke]; exact HX.out)
            have HAD : Hid (∀ W u1 u2, RatAt W u1 (canR (evQ xs (p.take j))) → RatAt W u2 (canR (c * prodQ t xs q)) → Calls Tryz.prog 24 #[u1, u2] W fun e w' => (∃ v', e = .returned v' ∧ RatAt w' v' (canR (evQ xs (p.take (j + 1))))) ∧ Kept W w') := Lib.hid fun W u1 u2 k1 k2 => by
              have hs2 := HCK.out q hqm
              have h := radd_any u1 u2 _ _ W k1 k2 HSJ.out ⟨Nat.le_trans hs2.1 (by omega), Nat.le_trans hs2.2 (by omega)⟩
              rw [ratOf_can, ratOf_can, ← HST.out] at h
              exact h
            clear hke
            have HK39 := Lib.hid (HK3.out.trans HKq.out)
            obtain ⟨p1, p2, p3, e1, e2, e3, e4, v0, v1, v2, hlx, HXA⟩ := (HC.out.kept HK39.out).read
            obtain ⟨p4, p5, p6, e5, e6, e7, e8, v3, v4, v5, hly, HXB⟩ := HX9.out.read
            go_wp2_with fail
            refine (HAD.out _ _ _ HXA.out HXB.out).mono ?_
            rintro e wa ⟨⟨va, rfl, hva⟩, hka⟩
            have HK4 := Lib.hid (HK39.out.trans hka)
            clear v0 v1 v2 hlx v3 v4 v5 hly HXA HXB
            obtain ⟨n5, l5, m5, g1, h1, g2, h2, wb, rfl, hwb, ⟨⟨t0, p0⟩, ⟨t1, q1⟩, ⟨t2, q2⟩⟩, ⟨f0, f1, f2⟩, hl6, _, _, HSN, HKP⟩ := (HC.out.kept HK4.out).save hva
            have HKN := Lib.hid (HKP.out w (HKr.out.trans HK4.out) (Nat.le_of_lt HZ1.out))
            have HRN := Lib.hid ((HR.out.kept HK4.out).apart (w' := wb) (Nat.ne_of_lt HZ1.out) (HC.out.kept HK4.out) (by rw [hwb]; exact (((OnlyAt.refl _ _).store 0 _).store 1 _).store 2 _))
            rw [hwb] at HSN HKN HRN
            clear hva hka hwb HKP
            go_wp2_with fail
            go_roundg (n - (j + 1))
            case measure => omega
            case rel => exact ⟨j + 1, by omega, by go_num, Nat.le_refl _, HSN, HRN, HKN, HGO2⟩
    · have hjn : ¬ (j : Int) < (n : Int) := by omega
      have hje : j = p.length := by have := HN.out; omega
      have HCE : Hid (RatCell wi w1.heap.size (canR (evQ xs p))) := Lib.hid (by have h := HC.out; rw [hje, List.take_length] at h; exact h)
      have HGA : Hid (∀ t ∈ p, gtK t.1 < (m : Int)) := Lib.hid (by have h := HGO.out; rw [hje, List.take_length] at h; exact h)
      clear hje
      obtain ⟨p1, p2, p3, b1, d1, b2, d2, v0, v1, v2, hlv, HRO⟩ := HCE.out.read
      obtain ⟨n5, l5, m5, g1, h1, g2, h2, w5, he, hw5, ⟨⟨t0, p0⟩, ⟨t1, q1⟩, ⟨t2, q2⟩⟩, ⟨f0, f1, f2⟩, hl6, Y, HRA, _, HKP⟩ := HR.out.save HRO.out
      have HKN := Lib.hid (HKP.out w HKr.out (Nat.le_refl _))
      simp only [Value.agg.injEq, Array.mk.injEq, List.cons.injEq, Value.bool.injEq, Value.slice.injEq, and_true] at he
      obtain ⟨rfl, ⟨rfl, rfl, rfl⟩, rfl, rfl, rfl⟩ := he
      rw [hw5] at Y HRA HKN
      clear hw5 HKP
      go_wp2
      refine bodyPost_ret (v := .tuple #[.agg #[.bool p1, .slice b1 p2 d1, .slice b2 p3 d2], .nilIface]) ?_ rfl ⟨HGOOD.out _ _ HGA.out HRA.out, HKN.out⟩
      simp [results, Tryz.results34, go_sem, Y.out.1, Y.out.2.1, Y.out.2.2]
set_option maxRecDepth 100000 in
theorem pvalue_range (v : Value) (ts : List Trm) (s : Int) (w : World) (hv : TrmsAt w v ts) (h1 : ShT 34359738368 ts) (hE : chkT ts = 0) (hs : s < 0 ∨ 16777216 ≤ s) :
    Calls Tryz.prog 22 #[v, .int .i64 s] w fun e w' => e = .returned (.tuple #[.agg #[.bool false, .slice none 0 0, .slice none 0 0], errV 3]) ∧ Kept w w' := by
  obtain ⟨w0, hw0⟩ : ∃ w0, w0 = w.alloc (.cells #[.bool false, .slice none 0 0, .slice none 0 0] 38) := ⟨_, rfl⟩
  have hk0 : Kept w w0 := by rw [hw0]; exact (Kept.refl _).alloc _
  have HB : Hid (Calls Tryz.prog 21 #[v] w0 fun e w' => e = .returned .nilIface ∧ Kept w0 w') := Lib.hid (by
    have h := pcheck20_any v ts w0 (hv.kept hk0) h1
    rw [hE, errV_zero] at h
    exact h)
  have HVA : Hid (∀ W, Calls Tryz.prog 62 #[.int .i64 s] W fun e w' => e = .returned (.bool false) ∧ W = w') := Lib.hid fun W => by
    have h := valid_any s W
    rw [decide_eq_false (by omega)] at h
    exact h
  have HR0 : Hid (RatCell w0 w.heap.size ⟨false, [], []⟩) := Lib.hid (by rw [hw0]; exact RatCell.zero w)
  have HK0 := Lib.hid hk0
  have HW0 := Lib.hid hw0
  clear hv h1 hk0 hw0 hs hE
  go_enter Tryz.func22, Tryz.ntmps22
  go_wp2_with fail
  rw [← HW0.out]
  refine HB.out.mono ?_
  rintro e w1 ⟨rfl, hk1⟩
  have HRO : RatAt w1 (.agg #[.bool false, .slice none 0 0, .slice none 0 0]) ⟨false, [], []⟩ := ⟨_, _, rfl, WdsAt.nil w1, WdsAt.nil w1⟩
  have HKN0 := Lib.hid (HK0.out.trans hk1)
  obtain ⟨n5, l5, m5, g1, h1, g2, h2, w5, he, hw5, ⟨⟨t0, p0⟩, ⟨t1, q1⟩, ⟨t2, q2⟩⟩, ⟨f0, f1, f2⟩, hl6, Y, HRA, _, HKP⟩ := (HR0.out.kept hk1).save HRO
  have HKN := Lib.hid (HKP.out w HKN0.out (Nat.le_refl _))
  simp only [Value.agg.injEq, Array.mk.injEq, List.cons.injEq, Value.bool.injEq, Value.slice.injEq, and_true] at he
  obtain ⟨rfl, ⟨rfl, rfl, rfl⟩, rfl, rfl, rfl⟩ := he
  rw [hw5] at Y HRA HKN
  clear hw5 HKP HRO hk1
  go_wp2_with fail
  refine (HVA.out _).mono ?_
  rintro e w9 ⟨rfl, rfl⟩
  go_wp2
  refine bodyPost_ret (v := .tuple #[.agg #[.bool false, .slice none 0 0, .slice none 0 0], .iface 50 (.int .i64 3)]) ?_ rfl ⟨rfl, HKN.out⟩
  simp [results, Tryz.results22, go_sem, Y.out.1, Y.out.2.1, Y.out.2.2]
end Go.Proofs.YtpaedhlacbpmpaaGreatDoor
