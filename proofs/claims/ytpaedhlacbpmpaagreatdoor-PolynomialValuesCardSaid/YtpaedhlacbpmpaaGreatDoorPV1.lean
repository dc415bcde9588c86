import Derived.Test.YtpaedhlacbpmpaaGreatDoorPX1
import Derived.Test.YtpaedhlacbpmpaaGreatDoorPX2
import Derived.Test.YtpaedhlacbpmpaaGreatDoorPX3
import Derived.Test.YtpaedhlacbpmpaaGreatDoorPX4
import Derived.Test.YtpaedhlacbpmpaaGreatDoorPX5
import Derived.Test.YtpaedhlacbpmpaaGreatDoorPX6
import Derived.Test.YtpaedhlacbpmpaaGreatDoorPX7
import Derived.Test.YtpaedhlacbpmpaaGreatDoorPV8
/-
  Walk: faultlineref20.plus. Printed by gen_PG3.py.
-/
namespace Go.Proofs.YtpaedhlacbpmpaaGreatDoor
open Go.RowKit

theorem below_cellB {B : Nat} {w w' : World} (h : Below B w w') {g o : Nat} {v : Value} (hg : g < B) (hc : w.cell? ⟨g, o, none⟩ = some v) : w'.cell? ⟨g, o, none⟩ = some v := by
  simp only [World.cell?, h.block g hg] at hc ⊢
  exact hc
theorem size_alloc_le (w : World) (o : Obj) : w.heap.size ≤ (w.alloc o).heap.size := by simp
theorem TBox.okR {w : World} {g s : Nat} {R : Rw} (h : TBox w g s R) : R.Ok := by
  obtain ⟨_, _, _, _, _, _, _, _, _, h3⟩ := h
  exact h3.ok
set_option maxRecDepth 100000 in
set_option maxHeartbeats 16000000 in
theorem rplus_cons (v : Value) (p : Pol) (s : Nat) (ng : Bool) (u1 u2 : Value) (r : Rw) (w : World) (hp : TrmsAt w v (polT p)) (hpos : 0 < p.length) (hr : RatAt w (.agg #[.bool ng, u1, u2]) r) (hs : s < 16777216) (hb : ∀ t ∈ p, t.1 < 16777216) (hl : p.length ≤ 16777216) (hsh : ShP 17179869000 p) (hrs : r.Short 17179869000) :
    Calls Tryz.prog 58 #[v, .agg #[.int .i64 s, .bool ng, u1, u2]] w fun e w' => (∃ v', e = .returned v' ∧ TrmsAt w' v' (polT (plusP p (s, ratOf r)))) ∧ Kept w w' := by
  obtain ⟨a1, c1, rfl⟩ : ∃ a c, u1 = .slice a r.num.length c := by obtain ⟨x1, x2, e, h1, h2⟩ := hr; simp only [Value.agg.injEq, Array.mk.injEq, List.cons.injEq, and_true] at e; obtain ⟨_, rfl, rfl⟩ := e; exact h1.shape
  obtain ⟨a2, c2, rfl⟩ : ∃ a c, u2 = .slice a r.den.length c := by obtain ⟨x1, x2, e, h1, h2⟩ := hr; simp only [Value.agg.injEq, Array.mk.injEq, List.cons.injEq, and_true] at e; obtain ⟨_, rfl, rfl⟩ := e; exact h2.shape
  obtain ⟨q1, hq1⟩ : ∃ q, q = r.num.length := ⟨_, rfl⟩
  obtain ⟨q2, hq2⟩ : ∃ q, q = r.den.length := ⟨_, rfl⟩
  rw [← hq1, ← hq2] at hr ⊢
  obtain ⟨c, hc⟩ : ∃ c, c = ratOf r := ⟨_, rfl⟩
  rw [← hc]
  obtain ⟨Q, hQ⟩ : ∃ Q, Q = plusP p (s, c) := ⟨_, rfl⟩
  rw [← hQ]
  obtain ⟨pa, pc, rfl⟩ := hp.shape
  obtain ⟨b0, o0, _, _, _, _, _, _, _, rfl, _⟩ := hp.term 0 hpos
  obtain ⟨n, hn⟩ : ∃ n, n = p.length := ⟨_, rfl⟩
  rw [polT_len, ← hn] at hp ⊢
  rw [← hn] at hl hpos
  have hcap : n ≤ pc := by
    obtain ⟨_, _, e, ⟨h, _⟩, _⟩ := hp
    cases e
    rw [polT_len, ← hn] at h
    exact h
  have HP := Lib.hid hp
  have HN := Lib.hid hn
  have HB := Lib.hid hb
  have HSH := Lib.hid hsh
  have HRS := Lib.hid hrs
  have HQ := Lib.hid hQ
  have HCC := Lib.hid hc
  obtain ⟨w0, hw0⟩ : ∃ w0, w0 = w.alloc (.cells #[.int .i64 s, .bool ng, .slice a1 q1 c1, .slice a2 q2 c2] 83) := ⟨_, rfl⟩
  have HX0 : Hid (TBox w0 w.heap.size s r) := Lib.hid (by rw [hw0]; exact TBox.made hr)
  have HK0 : Hid (Kept w w0) := Lib.hid (by rw [hw0]; exact (Kept.refl _).alloc _)
  have HZ0 : Hid (w0.heap.size = w.heap.size + 1) := Lib.hid (by rw [hw0]; simp)
  have HW0 := Lib.hid hw0
  clear hp hr hb hsh hrs hQ hc hw0 hq1 hq2 hn
  go_enter Tryz.func58, Tryz.ntmps58
  go_wp2_with fail
  rw [← HW0.out]
  go_loopg [5] n (fun kx s5 wr => ∃ j : Nat, j ≤ n ∧ s5 = .int .i64 j ∧ n - j ≤ kx ∧ Hid (∀ i (h : i < p.length), i < j → ltK p[i].1 s) ∧ Hid (Kept w0 wr))
  case atStart => exact ⟨0, Nat.zero_le _, rfl, by omega, Lib.hid (fun i h hi => by omega), Lib.hid (Kept.refl _)⟩
  case round =>
    obtain ⟨j, hj, rfl, hjx, HLT, HKr⟩ := hrel
    obtain ⟨wi, rfl⟩ : ∃ wi : World, wi = wr := ⟨_, rfl⟩
    have HXr := Lib.hid (HX0.out.kept HKr.out)
    obtain ⟨m1, l1, l2, e1, f1, e2, f2, x0, x1, x2, x3, hlx, HRX⟩ := HXr.out.read
    by_cases hlt : j < n
    · have hjn : (j : Int) < (n : Int) := by omega
      have hjd : decide ((j : Int) < (n : Int)) = true := decide_eq_true hjn
      have hjl : j < p.length := by rw [← HN.out]; exact hlt
      obtain ⟨b, o, y1, y2, y3, g1, h1, g2, h2, he, z0, z1, z2, z3, HRT⟩ := ((HP.out.kept HK0.out).kept HKr.out).term j hjl
      cases he
      obtain ⟨t, ht⟩ : ∃ t, t = p[j].1 := ⟨_, rfl⟩
      have HTJ := Lib.hid ht
      have ht24 : t < 16777216 := by rw [ht]; exact HB.out _ (List.getElem_mem _)
      rw [← ht] at z0
      have HCM : Hid (∀ W, Calls Tryz.prog 53 #[.int .i64 t, .int .i64 s] W fun e w' => e = .returned (.int .i64 (cmpR t s)) ∧ ∃ q, w' = W.drewN q) := Lib.hid fun W => (rcompare_any (a := t) (b := s) (by unfold Mk; omega) (by unfold Mk; omega) W).mono fun e w' h => ⟨h.1, 0, h.2.symm⟩
      obtain ⟨cv, hcv⟩ : ∃ cv, cv = cmpR t s := ⟨_, rfl⟩
      have hG : cv < 0 ↔ ltK t s := by
        have h1 := cmpR_ge (a := t) (b := s)
        rw [← hcv] at h1
        constructor
        · intro h
          exact Classical.byContradiction fun hn => by have := h1.2 hn; omega
        · intro h
          exact Classical.byContradiction fun hn => (h1.1 (by omega)) h
      rw [← hcv] at HCM
      have hj0 : (0 : Int) ≤ (j : Int) := by omega
      clear hcv ht
      go_upto_region 2 with fail
      by_cases hb0 : cv < 0
      · have hbd : decide (cv < 0) = true := decide_eq_true hb0
        have HLN : Hid (∀ i (h : i < p.length), i < j + 1 → ltK p[i].1 s) := Lib.hid fun i h hi => by
          by_cases e : i = j
          · subst e; rw [← HTJ.out]; exact hG.1 hb0
          · exact HLT.out i h (by omega)
        clear hG
        go_quiet ((go_at_call 53; refine Calls.quiet_of (HCM.out _)))
        go_wp2_with fail
        go_roundg (n - (j + 1))
        case measure => omega
        case rel => exact ⟨j + 1, by omega, by go_num, Nat.le_refl _, HLN, Lib.hid (by repeat (with_reducible first | exact HKr.out | apply Kept.drewN | apply Kept.drew))⟩
      · have hbd : decide (cv < 0) = false := decide_eq_false hb0
        have HNL : Hid (¬ ltK t s) := Lib.hid fun h => hb0 (hG.2 h)
        clear hG
        go_quiet ((go_at_call 53; refine Calls.quiet_of (HCM.out _)))
        have hkq : Kept wi (wi.drewN nq) := (Kept.refl wi).drewN _
        obtain ⟨wj, hwj⟩ : ∃ wj, wj = wi.drewN nq := ⟨_, rfl⟩
        rw [← hwj] at hkq ⊢
        have HKj := Lib.hid (HKr.out.trans hkq)
        have HPj := Lib.hid ((HP.out.kept HK0.out).kept HKj.out)
        clear hwj hkq z0 z1 z2 z3 HRT x0 x1 x2 x3 hlx HRX HXr HKr
        have HBS : Hid (w.heap.size + 1 ≤ wj.heap.size) := Lib.hid (by have := HKj.out.size; have := HZ0.out; omega)
        have HTK := Lib.hid ((HPj.out.take j hj).kept ((Kept.refl wj).alloc (.cells #[] 83)))
        have hjc : (j : Int) ≤ (pc : Int) := by omega
        have hj0 : (0 : Int) ≤ (j : Int) := by omega
        have HLK : Hid (([] : List Trm).length + ((polT p).take j).length < 1099511627776) := Lib.hid (by rw [List.length_take, polT_len, ← HN.out]; simp; omega)
        go_wp2_with (at_builtin; refine app_trms rfl _ _ rfl (w.heap.size + 1) _ [] rfl (own_emptyT wj _ HBS.out) _ ((polT p).take j) rfl HTK.out HLK.out (by have := HBS.out; simp; omega) ?_; intro v4 w4 hown4 hb4; have HO4 := Lib.hid hown4; have HB4 := Lib.hid hb4; clear hown4 hb4)
        have HK4 : Hid (Kept w0 w4) := Lib.hid ((HKj.out.alloc _).app (by rw [HZ0.out]; exact HB4.out))
        have HX4 := Lib.hid (HX0.out.kept HK4.out)
        replace HO4 : Hid (OwnTrms w4 (w.heap.size + 1) v4 ((polT p).take j)) := Lib.hid HO4.out
        clear HB4 HTK HLK HPj HKj HBS
        obtain ⟨b, o, y1, y2, y3, g1, h1, g2, h2, he, z0, z1, z2, z3, HRT⟩ := ((HP.out.kept HK0.out).kept HK4.out).term j hjl
        cases he
        rw [← HTJ.out] at z0
        obtain ⟨m1, l1, l2, e1, f1, e2, f2, x0, x1, x2, x3, hlx, HRX⟩ := HX4.out.read
        have HGD : Hid (p.getD j (0, 0) = p[j]) := Lib.hid (by simp [List.getD_eq_getElem?_getD, hjl])
        have HPA := Lib.hid (plus_at s c p j (by rw [← HN.out]; exact hj) HLT.out (fun h => by rw [← HTJ.out]; exact HNL.out))
        go_upto_region 5 with fail
        by_cases hts : t = s
        · have htb : ((t : Int) == (s : Int)) = true := by rw [hts]; simp
          obtain ⟨D, hD⟩ : ∃ D, D = p[j].2 := ⟨_, rfl⟩
          obtain ⟨R, hR⟩ : ∃ R, R = canR (c + D) := ⟨_, rfl⟩
          obtain ⟨J, hJ⟩ : ∃ J, J = j + 1 := ⟨_, rfl⟩
          have hDs : (canR D).Short 17179869000 := by rw [hD]; exact HSH.out _ (List.getElem_mem _)
          rw [← hD] at HRT
          have HQE : Hid (Q = p.take j ++ ((if ratOf R = 0 then [] else [(s, ratOf R)]) ++ p.drop J)) := Lib.hid (by
            rw [HQ.out, HPA.out, dif_pos ⟨hjl, by rw [HGD.out, ← HTJ.out]; exact hts⟩, HGD.out, ← hD, hR, ratOf_can, hJ])
          have HRS2 : Hid (R.Short 34359738100) := Lib.hid (by
            have h := short_add (hr := HX4.out.okR) (canR_ok D) HRS.out hDs (by omega) (by omega)
            rw [ratOf_can, ← HCC.out, ← hR] at h
            exact ⟨Nat.le_trans h.1 (by omega), Nat.le_trans h.2 (by omega)⟩)
          have HAD : Hid (∀ W u1 u2, RatAt W u1 r → RatAt W u2 (canR D) → Calls Tryz.prog 77 #[u1, u2] W fun e w' => (∃ v', e = .returned v' ∧ RatAt w' v' R) ∧ Kept W w') := Lib.hid fun W u1 u2 k1 k2 => by
            have h := refadd02_any u1 u2 r (canR D) W k1 k2 ⟨Nat.le_trans HRS.out.1 (by omega), Nat.le_trans HRS.out.2 (by omega)⟩ ⟨Nat.le_trans hDs.1 (by omega), Nat.le_trans hDs.2 (by omega)⟩
            rw [ratOf_can, ← HCC.out, ← hR] at h
            exact h
          have hJi : (j : Int) + 1 = (J : Int) := by omega
          have hJ3 : J ≤ n := by omega
          go_quiet (fail)
          have hkq : Kept w4 (w4.drewN nq) := (Kept.refl w4).drewN _
          obtain ⟨w5, hw5⟩ : ∃ w5, w5 = w4.drewN nq := ⟨_, rfl⟩
          rw [← hw5] at hkq ⊢
          have HK5 := Lib.hid (HK0.out.trans (HK4.out.trans hkq))
          have HB5 : Hid (w.heap.size + 1 ≤ w5.heap.size) := Lib.hid (by have := (HK4.out.trans hkq).size; have := HZ0.out; omega)
          have HX5 := Lib.hid (HX4.out.kept hkq)
          have HO5 := Lib.hid (HO4.out.kept hkq)
          clear hw5 hkq
          clear x0 x1 x2 x3 hlx HRX z0 z1 z2 z3 HRT
          obtain ⟨b, o, y1, y2, y3, g1, h1, g2, h2, he, z0, z1, z2, z3, HRT⟩ := (HP.out.kept HK5.out).term j hjl
          cases he
          rw [← hD] at HRT
          obtain ⟨m1, l1, l2, e1, f1, e2, f2, x0, x1, x2, x3, hlx, HRX⟩ := HX5.out.read
          clear hD hR hJ hDs HPA HGD
          go_upto_region 6 with fail
          go_cut [] (fun wx => Hid (TBox wx w.heap.size s R) ∧ Hid (OwnTrms wx (w.heap.size + 1) v4 ((polT p).take j)) ∧ Hid (Kept w wx) ∧ Hid (w.heap.size + 1 ≤ wx.heap.size))
          case first =>
            go_region_law (first
              | (rw [if_pos (by rfl)]; go_simp; go_at_call 77; (with_reducible refine (HAD.out _ _ _ (HRX.out.kept (Kept.refl _).drew) (HRT.out.kept (Kept.refl _).drew)).mono ?_); rintro e w6 ⟨⟨v6, rfl, hv6⟩, hk6⟩; have hkf : Kept w5 w6 := (Kept.refl w5).drew.trans hk6; have HK6 := Lib.hid hkf; have p1 := hkf.cell x1; have p2 := hkf.cell x2; have p3 := hkf.cell x3; obtain ⟨n7, l7, m7, a7, c7, b7, d7, w7, rfl, hw7, ⟨f0, f1', f2'⟩, HT7, HO7⟩ := (HX5.out.kept hkf).save hv6; have HW7 := Lib.hid hw7; clear hv6 hk6 hkf hw7))
            all_goals
              have HON := Lib.hid ((HO5.out.kept HK6.out).older (Nat.lt_succ_self _) (HX5.out.kept HK6.out).noW HO7.out)
              have HKN := Lib.hid (HO7.out.toKept (HK5.out.trans HK6.out) (Nat.le_refl _))
              have HSN := Lib.hid (Nat.le_trans HB5.out (Nat.le_trans HK6.out.size HO7.out.size))
              rw [HW7.out] at HT7 HON HKN HSN
              go_wp2_with fail
              go_meet
              exact ⟨HT7, HON, HKN, HSN⟩
          case rest =>
            obtain ⟨HX6, HO6, HK6, HB6⟩ := hcut
            obtain ⟨wz, rfl⟩ : ∃ wz : World, wz = wc := ⟨_, rfl⟩
            clear x0 x1 x2 x3 hlx HRX z0 z1 z2 z3 HRT HX5 HO5 HK5 HB5 HX4 HO4 HK4
            obtain ⟨S, hS⟩ : ∃ S, S = sgnR (ratOf R) := ⟨_, rfl⟩
            have HS0 : Hid (S = 0 ↔ ratOf R = 0) := Lib.hid (by rw [hS]; exact sgnR_zero)
            have HSG : Hid (∀ W u, RatAt W u R → Calls Tryz.prog 52 #[u] W fun e w' => e = .returned (.int .i64 S) ∧ Kept W w') := Lib.hid fun W u hu => by
              rw [hS]
              exact refsign_any u _ W hu ⟨Nat.le_trans HRS2.out.1 (by omega), Nat.le_trans HRS2.out.2 (by omega)⟩
            have HAZ : Hid (∀ W u, RatAt W u R → Calls Tryz.prog 77 #[u, .agg #[.bool false, .slice none 0 0, .slice none 0 0]] W fun e w' => (∃ v', e = .returned v' ∧ RatAt w' v' (canR (ratOf R))) ∧ Kept W w') := Lib.hid fun W u hu => by
              have h := refadd02_any u _ R (canR 0) W hu ⟨_, _, rfl, WdsAt.nil W, WdsAt.nil W⟩ ⟨Nat.le_trans HRS2.out.1 (by omega), Nat.le_trans HRS2.out.2 (by omega)⟩ ⟨by decide +kernel, by decide +kernel⟩
              rw [ratOf_can, Rat.add_zero] at h
              exact h
            clear hS
            obtain ⟨m1, l1, l2, e1, f1, e2, f2, x0, x1, x2, x3, hlx, HRX⟩ := HX6.out.read
            go_wp2_with fail
            refine (HSG.out _ _ HRX.out).mono ?_
            rintro e w8 ⟨rfl, hk8⟩
            have HX8 := Lib.hid (HX6.out.kept hk8)
            have HO8 := Lib.hid (HO6.out.kept hk8)
            have HK8 := Lib.hid (HK6.out.trans hk8)
            have HSZ8 := Lib.hid hk8.size
            clear hk8 x0 x1 x2 x3 hlx HRX
            have HB8 : Hid (w.heap.size + 1 ≤ w8.heap.size) := Lib.hid (Nat.le_trans HB6.out HSZ8.out)
            by_cases hz : S = 0
            · have hzb : (S == 0) = true := by rw [hz]; rfl
              have hzn : (S != 0) = false := by rw [hz]; rfl
              have HQZ : Hid (polT Q = (polT p).take j ++ (polT p).drop J) := Lib.hid (by
                rw [HQE.out, if_pos (HS0.out.1 hz)]
                unfold polT
                simp)
              have HLZ : Hid (((polT p).take j).length + ((polT p).drop J).length < 1099511627776) := Lib.hid (by simp [polT_len, ← HN.out]; omega)
              have HPL := Lib.hid (HP.out.kept HK8.out)
              have hJ1 : (J : Int) ≤ (n : Int) := by omega
              have hJ2 : (J : Int) ≤ (pc : Int) := by omega
              by_cases hcj : pc = J
              · have HDN : Hid ((polT p).drop J = []) := Lib.hid (List.drop_eq_nil_of_le (by rw [polT_len, ← HN.out]; omega))
                have HTD : Hid (TrmsAt w8 (.slice (some ⟨b0, o0, none⟩) 0 0) ((polT p).drop J)) := Lib.hid (by rw [HDN.out]; exact TrmsAt.none _ _ _ (fun h => by cases h))
                have hnJ : n = J := by omega
                go_wp2_with (at_builtin; refine app_trms rfl _ _ rfl (w.heap.size + 1) _ ((polT p).take j) rfl HO8.out _ ((polT p).drop J) rfl HTD.out HLZ.out HB8.out ?_; intro v12 w12 hown12 hb12; have HO12 := Lib.hid hown12; have HB12' := Lib.hid hb12; clear hown12 hb12)
                go_ret
                exact ⟨⟨_, rfl, by rw [HQZ.out]; exact HO12.out.at⟩, HK8.out.app (HB12'.out.mono (Nat.le_succ _))⟩
              · have HTD := Lib.hid (HPL.out.drop J (by omega))
                go_wp2_with (at_builtin; refine app_trms rfl _ _ rfl (w.heap.size + 1) _ ((polT p).take j) rfl HO8.out _ ((polT p).drop J) rfl HTD.out HLZ.out HB8.out ?_; intro v12 w12 hown12 hb12; have HO12 := Lib.hid hown12; have HB12' := Lib.hid hb12; clear hown12 hb12)
                go_ret
                exact ⟨⟨_, rfl, by rw [HQZ.out]; exact HO12.out.at⟩, HK8.out.app (HB12'.out.mono (Nat.le_succ _))⟩
            · have hzb : (S == 0) = false := by rw [beq_eq_false_iff_ne]; exact hz
              have hzn : (S != 0) = true := by rw [bne_iff_ne]; exact hz
              have HQZ : Hid (polT Q = ((polT p).take j ++ [((s : Int), canR (ratOf R))]) ++ (polT p).drop J) := Lib.hid (by
                rw [HQE.out, if_neg (fun h => hz (HS0.out.2 h))]
                unfold polT
                simp)
              obtain ⟨m1, l1, l2, e1, f1, e2, f2, x0, x1, x2, x3, hlx, HRX⟩ := HX8.out.read
              have HCL0 : Hid ((fun W : World => W.cell? ⟨w.heap.size, 0, none⟩ = some (.int .i64 s) ∧ W.cell? ⟨w.heap.size, 1, none⟩ = some (.bool m1) ∧ W.cell? ⟨w.heap.size, 2, none⟩ = some (.slice e1 l1 f1) ∧ W.cell? ⟨w.heap.size, 3, none⟩ = some (.slice e2 l2 f2)) w8) := Lib.hid ⟨x0, x1, x2, x3⟩
              have HSK : Hid (∀ W W' : World, Kept W W' → (fun W : World => W.cell? ⟨w.heap.size, 0, none⟩ = some (.int .i64 s) ∧ W.cell? ⟨w.heap.size, 1, none⟩ = some (.bool m1) ∧ W.cell? ⟨w.heap.size, 2, none⟩ = some (.slice e1 l1 f1) ∧ W.cell? ⟨w.heap.size, 3, none⟩ = some (.slice e2 l2 f2)) W → (fun W : World => W.cell? ⟨w.heap.size, 0, none⟩ = some (.int .i64 s) ∧ W.cell? ⟨w.heap.size, 1, none⟩ = some (.bool m1) ∧ W.cell? ⟨w.heap.size, 2, none⟩ = some (.slice e1 l1 f1) ∧ W.cell? ⟨w.heap.size, 3, none⟩ = some (.slice e2 l2 f2)) W') := Lib.hid fun W W' hk ⟨p0, p1, p2, p3⟩ => ⟨hk.cell p0, hk.cell p1, hk.cell p2, hk.cell p3⟩
              have HCLd := Lib.hid (HSK.out w8 w8.drew (Kept.refl _).drew HCL0.out)
              have HLL : Hid (((polT p).take j).length < 1099511627776) := Lib.hid (by rw [List.length_take, polT_len, ← HN.out]; omega)
              go_wp2_with fail
              go_region_held3 (fun W => W.cell? ⟨w.heap.size, 0, none⟩ = some (.int .i64 s) ∧ W.cell? ⟨w.heap.size, 1, none⟩ = some (.bool m1) ∧ W.cell? ⟨w.heap.size, 2, none⟩ = some (.slice e1 l1 f1) ∧ W.cell? ⟨w.heap.size, 3, none⟩ = some (.slice e2 l2 f2))
                (with_reducible first | exact HCL11.out | exact HCL10.out | exact HCL9.out | exact HCLd.out | exact HCL0.out)
                (first
                | (go_at_call 77; (with_reducible refine (HAZ.out _ _ (HRX.out.kept (Kept.refl _).drew)).mono ?_); rintro e w9 ⟨⟨v9, rfl, hv9⟩, hk9⟩; have K9 := Lib.hid ((Kept.refl w8).drew.trans hk9); obtain ⟨z1, z2, rfl, hz1, hz2⟩ := hv9; have HZ1 := Lib.hid hz1; have HZ2 := Lib.hid hz2; obtain ⟨za1, zc1, rfl⟩ := hz1.shape; obtain ⟨za2, zc2, rfl⟩ := hz2.shape; have HCL9 := Lib.hid (HSK.out _ _ K9.out HCL0.out); have HCL10 := Lib.hid (HSK.out _ _ (K9.out.alloc (.cells #[.int .i64 s, .bool (canR (ratOf R)).neg, .slice za1 (canR (ratOf R)).num.length zc1, .slice za2 (canR (ratOf R)).den.length zc2] 83)) HCL0.out); have HB9 : Hid (w.heap.size + 1 ≤ w9.heap.size) := Lib.hid (Nat.le_trans HB8.out K9.out.size); clear hk9 hz1 hz2)
                | (refine step_trm rfl _ _ rfl (w.heap.size + 1) v4 ((polT p).take j) rfl (HO8.out.kept (K9.out.alloc _)) w9.heap.size ((s : Int), canR (ratOf R)) _ _ rfl (range_made4 _ _ _ _ _ _) (HZ1.out.kept ((Kept.refl _).alloc _)) (HZ2.out.kept ((Kept.refl _).alloc _)) HLL.out (Nat.le_trans HB9.out (size_alloc_le _ _)) ?_; intro v11 w11 hown11 hb11; have HO11 := Lib.hid hown11; have HB11 := Lib.hid hb11; have HCL11 := Lib.hid (⟨below_cellB HB11.out (Nat.lt_succ_self _) HCL10.out.1, below_cellB HB11.out (Nat.lt_succ_self _) HCL10.out.2.1, below_cellB HB11.out (Nat.lt_succ_self _) HCL10.out.2.2.1, below_cellB HB11.out (Nat.lt_succ_self _) HCL10.out.2.2.2⟩ : (fun W : World => W.cell? ⟨w.heap.size, 0, none⟩ = some (.int .i64 s) ∧ W.cell? ⟨w.heap.size, 1, none⟩ = some (.bool m1) ∧ W.cell? ⟨w.heap.size, 2, none⟩ = some (.slice e1 l1 f1) ∧ W.cell? ⟨w.heap.size, 3, none⟩ = some (.slice e2 l2 f2)) w11); clear hown11 hb11))
              have HK11 : Hid (Kept w w11) := Lib.hid ((HK8.out.trans (K9.out.alloc _)).app (HB11.out.mono (Nat.le_succ _)))
              have HB12 : Hid (w.heap.size + 1 ≤ w11.heap.size) := Lib.hid (Nat.le_trans HB9.out (Nat.le_trans (by simp) HB11.out.size))
              clear x0 x1 x2 x3 hlx
              have HLZ : Hid (((polT p).take j ++ [((s : Int), canR (ratOf R))]).length + ((polT p).drop J).length < 1099511627776) := Lib.hid (by simp [polT_len, ← HN.out]; omega)
              have HPL := Lib.hid (HP.out.kept HK11.out)
              have hJ1 : (J : Int) ≤ (n : Int) := by omega
              have hJ2 : (J : Int) ≤ (pc : Int) := by omega
              by_cases hcj : pc = J
              · have HDN : Hid ((polT p).drop J = []) := Lib.hid (List.drop_eq_nil_of_le (by rw [polT_len, ← HN.out]; omega))
                have HTD : Hid (TrmsAt w11 (.slice (some ⟨b0, o0, none⟩) 0 0) ((polT p).drop J)) := Lib.hid (by rw [HDN.out]; exact TrmsAt.none _ _ _ (fun h => by cases h))
                have hnJ : n = J := by omega
                go_wp2_with (at_builtin; refine app_trms rfl _ _ rfl (w.heap.size + 1) _ ((polT p).take j ++ [((s : Int), canR (ratOf R))]) rfl HO11.out _ ((polT p).drop J) rfl HTD.out HLZ.out HB12.out ?_; intro v12 w12 hown12 hb12; have HO12 := Lib.hid hown12; have HB12' := Lib.hid hb12; clear hown12 hb12)
                go_ret
                exact ⟨⟨_, rfl, by rw [HQZ.out]; exact HO12.out.at⟩, HK11.out.app (HB12'.out.mono (Nat.le_succ _))⟩
              · have HTD := Lib.hid (HPL.out.drop J (by omega))
                go_wp2_with (at_builtin; refine app_trms rfl _ _ rfl (w.heap.size + 1) _ ((polT p).take j ++ [((s : Int), canR (ratOf R))]) rfl HO11.out _ ((polT p).drop J) rfl HTD.out HLZ.out HB12.out ?_; intro v12 w12 hown12 hb12; have HO12 := Lib.hid hown12; have HB12' := Lib.hid hb12; clear hown12 hb12)
                go_ret
                exact ⟨⟨_, rfl, by rw [HQZ.out]; exact HO12.out.at⟩, HK11.out.app (HB12'.out.mono (Nat.le_succ _))⟩
        · have htb : ((t : Int) == (s : Int)) = false := by simp; omega
          have HQE : Hid (Q = p.take j ++ ((if ratOf r = 0 then [] else [(s, ratOf r)]) ++ p.drop j)) := Lib.hid (by
            rw [HQ.out, HPA.out, dif_neg (fun h => hts (by have h2 := h.2; rw [HGD.out, ← HTJ.out] at h2; exact h2)), HCC.out])
          have HRT2 : Hid (r.Short 34359738100) := Lib.hid ⟨Nat.le_trans HRS.out.1 (by omega), Nat.le_trans HRS.out.2 (by omega)⟩
          go_quiet (fail)
          have hkq : Kept w4 (w4.drewN nq) := (Kept.refl w4).drewN _
          obtain ⟨w5, hw5⟩ : ∃ w5, w5 = w4.drewN nq := ⟨_, rfl⟩
          rw [← hw5] at hkq ⊢
          have HK5 := Lib.hid (HK0.out.trans (HK4.out.trans hkq))
          have HB5 : Hid (w.heap.size + 1 ≤ w5.heap.size) := Lib.hid (by have := (HK4.out.trans hkq).size; have := HZ0.out; omega)
          have HX5 := Lib.hid (HX4.out.kept hkq)
          have HO5 := Lib.hid (HO4.out.kept hkq)
          clear hw5 hkq
          clear x0 x1 x2 x3 hlx HRX z0 z1 z2 z3 HRT HPA HGD
          obtain ⟨S, hS⟩ : ∃ S, S = sgnR (ratOf r) := ⟨_, rfl⟩
          have HS0 : Hid (S = 0 ↔ ratOf r = 0) := Lib.hid (by rw [hS]; exact sgnR_zero)
          have HSG : Hid (∀ W u, RatAt W u r → Calls Tryz.prog 52 #[u] W fun e w' => e = .returned (.int .i64 S) ∧ Kept W w') := Lib.hid fun W u hu => by
            rw [hS]
            exact refsign_any u _ W hu ⟨Nat.le_trans HRT2.out.1 (by omega), Nat.le_trans HRT2.out.2 (by omega)⟩
          have HAZ : Hid (∀ W u, RatAt W u r → Calls Tryz.prog 77 #[u, .agg #[.bool false, .slice none 0 0, .slice none 0 0]] W fun e w' => (∃ v', e = .returned v' ∧ RatAt w' v' (canR (ratOf r))) ∧ Kept W w') := Lib.hid fun W u hu => by
            have h := refadd02_any u _ r (canR 0) W hu ⟨_, _, rfl, WdsAt.nil W, WdsAt.nil W⟩ ⟨Nat.le_trans HRT2.out.1 (by omega), Nat.le_trans HRT2.out.2 (by omega)⟩ ⟨by decide +kernel, by decide +kernel⟩
            rw [ratOf_can, Rat.add_zero] at h
            exact h
          clear hS
          obtain ⟨m1, l1, l2, e1, f1, e2, f2, x0, x1, x2, x3, hlx, HRX⟩ := HX5.out.read
          go_wp2_with fail
          refine (HSG.out _ _ HRX.out).mono ?_
          rintro e w8 ⟨rfl, hk8⟩
          have HX8 := Lib.hid (HX5.out.kept hk8)
          have HO8 := Lib.hid (HO5.out.kept hk8)
          have HK8 := Lib.hid (HK5.out.trans hk8)
          have HSZ8 := Lib.hid hk8.size
          clear hk8 x0 x1 x2 x3 hlx HRX
          have HB8 : Hid (w.heap.size + 1 ≤ w8.heap.size) := Lib.hid (Nat.le_trans HB5.out HSZ8.out)
          by_cases hz : S = 0
          · have hzb : (S == 0) = true := by rw [hz]; rfl
            have hzn : (S != 0) = false := by rw [hz]; rfl
            have HQZ : Hid (polT Q = (polT p).take j ++ (polT p).drop j) := Lib.hid (by
              rw [HQE.out, if_pos (HS0.out.1 hz)]
              unfold polT
              simp)
            have HLZ : Hid (((polT p).take j).length + ((polT p).drop j).length < 1099511627776) := Lib.hid (by simp [polT_len, ← HN.out]; omega)
            have HPL := Lib.hid (HP.out.kept HK8.out)
            have hJ1 : (j : Int) ≤ (n : Int) := by omega
            have hJ2 : (j : Int) ≤ (pc : Int) := by omega
            by_cases hcj : pc = j
            · have HDN : Hid ((polT p).drop j = []) := Lib.hid (List.drop_eq_nil_of_le (by rw [polT_len, ← HN.out]; omega))
              have HTD : Hid (TrmsAt w8 (.slice (some ⟨b0, o0, none⟩) 0 0) ((polT p).drop j)) := Lib.hid (by rw [HDN.out]; exact TrmsAt.none _ _ _ (fun h => by cases h))
              have hnJ : n = j := by omega
              go_wp2_with (at_builtin; refine app_trms rfl _ _ rfl (w.heap.size + 1) _ ((polT p).take j) rfl HO8.out _ ((polT p).drop j) rfl HTD.out HLZ.out HB8.out ?_; intro v12 w12 hown12 hb12; have HO12 := Lib.hid hown12; have HB12' := Lib.hid hb12; clear hown12 hb12)
              go_ret
              exact ⟨⟨_, rfl, by rw [HQZ.out]; exact HO12.out.at⟩, HK8.out.app (HB12'.out.mono (Nat.le_succ _))⟩
            · have HTD := Lib.hid (HPL.out.drop j (by omega))
              go_wp2_with (at_builtin; refine app_trms rfl _ _ rfl (w.heap.size + 1) _ ((polT p).take j) rfl HO8.out _ ((polT p).drop j) rfl HTD.out HLZ.out HB8.out ?_; intro v12 w12 hown12 hb12; have HO12 := Lib.hid hown12; have HB12' := Lib.hid hb12; clear hown12 hb12)
              go_ret
              exact ⟨⟨_, rfl, by rw [HQZ.out]; exact HO12.out.at⟩, HK8.out.app (HB12'.out.mono (Nat.le_succ _))⟩
          · have hzb : (S == 0) = false := by rw [beq_eq_false_iff_ne]; exact hz
            have hzn : (S != 0) = true := by rw [bne_iff_ne]; exact hz
            have HQZ : Hid (polT Q = ((polT p).take j ++ [((s : Int), canR (ratOf r))]) ++ (polT p).drop j) := Lib.hid (by
              rw [HQE.out, if_neg (fun h => hz (HS0.out.2 h))]
              unfold polT
              simp)
            obtain ⟨m1, l1, l2, e1, f1, e2, f2, x0, x1, x2, x3, hlx, HRX⟩ := HX8.out.read
            have HCL0 : Hid ((fun W : World => W.cell? ⟨w.heap.size, 0, none⟩ = some (.int .i64 s) ∧ W.cell? ⟨w.heap.size, 1, none⟩ = some (.bool m1) ∧ W.cell? ⟨w.heap.size, 2, none⟩ = some (.slice e1 l1 f1) ∧ W.cell? ⟨w.heap.size, 3, none⟩ = some (.slice e2 l2 f2)) w8) := Lib.hid ⟨x0, x1, x2, x3⟩
            have HSK : Hid (∀ W W' : World, Kept W W' → (fun W : World => W.cell? ⟨w.heap.size, 0, none⟩ = some (.int .i64 s) ∧ W.cell? ⟨w.heap.size, 1, none⟩ = some (.bool m1) ∧ W.cell? ⟨w.heap.size, 2, none⟩ = some (.slice e1 l1 f1) ∧ W.cell? ⟨w.heap.size, 3, none⟩ = some (.slice e2 l2 f2)) W → (fun W : World => W.cell? ⟨w.heap.size, 0, none⟩ = some (.int .i64 s) ∧ W.cell? ⟨w.heap.size, 1, none⟩ = some (.bool m1) ∧ W.cell? ⟨w.heap.size, 2, none⟩ = some (.slice e1 l1 f1) ∧ W.cell? ⟨w.heap.size, 3, none⟩ = some (.slice e2 l2 f2)) W') := Lib.hid fun W W' hk ⟨p0, p1, p2, p3⟩ => ⟨hk.cell p0, hk.cell p1, hk.cell p2, hk.cell p3⟩
            have HCLd := Lib.hid (HSK.out w8 w8.drew (Kept.refl _).drew HCL0.out)
            have HLL : Hid (((polT p).take j).length < 1099511627776) := Lib.hid (by rw [List.length_take, polT_len, ← HN.out]; omega)
            go_wp2_with fail
            go_region_held3 (fun W => W.cell? ⟨w.heap.size, 0, none⟩ = some (.int .i64 s) ∧ W.cell? ⟨w.heap.size, 1, none⟩ = some (.bool m1) ∧ W.cell? ⟨w.heap.size, 2, none⟩ = some (.slice e1 l1 f1) ∧ W.cell? ⟨w.heap.size, 3, none⟩ = some (.slice e2 l2 f2))
              (with_reducible first | exact HCL11.out | exact HCL10.out | exact HCL9.out | exact HCLd.out | exact HCL0.out)
              (first
              | (go_at_call 77; (with_reducible refine (HAZ.out _ _ (HRX.out.kept (Kept.refl _).drew)).mono ?_); rintro e w9 ⟨⟨v9, rfl, hv9⟩, hk9⟩; have K9 := Lib.hid ((Kept.refl w8).drew.trans hk9); obtain ⟨z1, z2, rfl, hz1, hz2⟩ := hv9; have HZ1 := Lib.hid hz1; have HZ2 := Lib.hid hz2; obtain ⟨za1, zc1, rfl⟩ := hz1.shape; obtain ⟨za2, zc2, rfl⟩ := hz2.shape; have HCL9 := Lib.hid (HSK.out _ _ K9.out HCL0.out); have HCL10 := Lib.hid (HSK.out _ _ (K9.out.alloc (.cells #[.int .i64 s, .bool (canR (ratOf r)).neg, .slice za1 (canR (ratOf r)).num.length zc1, .slice za2 (canR (ratOf r)).den.length zc2] 83)) HCL0.out); have HB9 : Hid (w.heap.size + 1 ≤ w9.heap.size) := Lib.hid (Nat.le_trans HB8.out K9.out.size); clear hk9 hz1 hz2)
              | (refine step_trm rfl _ _ rfl (w.heap.size + 1) v4 ((polT p).take j) rfl (HO8.out.kept (K9.out.alloc _)) w9.heap.size ((s : Int), canR (ratOf r)) _ _ rfl (range_made4 _ _ _ _ _ _) (HZ1.out.kept ((Kept.refl _).alloc _)) (HZ2.out.kept ((Kept.refl _).alloc _)) HLL.out (Nat.le_trans HB9.out (size_alloc_le _ _)) ?_; intro v11 w11 hown11 hb11; have HO11 := Lib.hid hown11; have HB11 := Lib.hid hb11; have HCL11 := Lib.hid (⟨below_cellB HB11.out (Nat.lt_succ_self _) HCL10.out.1, below_cellB HB11.out (Nat.lt_succ_self _) HCL10.out.2.1, below_cellB HB11.out (Nat.lt_succ_self _) HCL10.out.2.2.1, below_cellB HB11.out (Nat.lt_succ_self _) HCL10.out.2.2.2⟩ : (fun W : World => W.cell? ⟨w.heap.size, 0, none⟩ = some (.int .i64 s) ∧ W.cell? ⟨w.heap.size, 1, none⟩ = some (.bool m1) ∧ W.cell? ⟨w.heap.size, 2, none⟩ = some (.slice e1 l1 f1) ∧ W.cell? ⟨w.heap.size, 3, none⟩ = some (.slice e2 l2 f2)) w11); clear hown11 hb11))
            have HK11 : Hid (Kept w w11) := Lib.hid ((HK8.out.trans (K9.out.alloc _)).app (HB11.out.mono (Nat.le_succ _)))
            have HB12 : Hid (w.heap.size + 1 ≤ w11.heap.size) := Lib.hid (Nat.le_trans HB9.out (Nat.le_trans (by simp) HB11.out.size))
            clear x0 x1 x2 x3 hlx
            have HLZ : Hid (((polT p).take j ++ [((s : Int), canR (ratOf r))]).length + ((polT p).drop j).length < 1099511627776) := Lib.hid (by simp [polT_len, ← HN.out]; omega)
            have HPL := Lib.hid (HP.out.kept HK11.out)
            have hJ1 : (j : Int) ≤ (n : Int) := by omega
            have hJ2 : (j : Int) ≤ (pc : Int) := by omega
            by_cases hcj : pc = j
            · have HDN : Hid ((polT p).drop j = []) := Lib.hid (List.drop_eq_nil_of_le (by rw [polT_len, ← HN.out]; omega))
              have HTD : Hid (TrmsAt w11 (.slice (some ⟨b0, o0, none⟩) 0 0) ((polT p).drop j)) := Lib.hid (by rw [HDN.out]; exact TrmsAt.none _ _ _ (fun h => by cases h))
              have hnJ : n = j := by omega
              go_wp2_with (at_builtin; refine app_trms rfl _ _ rfl (w.heap.size + 1) _ ((polT p).take j ++ [((s : Int), canR (ratOf r))]) rfl HO11.out _ ((polT p).drop j) rfl HTD.out HLZ.out HB12.out ?_; intro v12 w12 hown12 hb12; have HO12 := Lib.hid hown12; have HB12' := Lib.hid hb12; clear hown12 hb12)
              go_ret
              exact ⟨⟨_, rfl, by rw [HQZ.out]; exact HO12.out.at⟩, HK11.out.app (HB12'.out.mono (Nat.le_succ _))⟩
            · have HTD := Lib.hid (HPL.out.drop j (by omega))
              go_wp2_with (at_builtin; refine app_trms rfl _ _ rfl (w.heap.size + 1) _ ((polT p).take j ++ [((s : Int), canR (ratOf r))]) rfl HO11.out _ ((polT p).drop j) rfl HTD.out HLZ.out HB12.out ?_; intro v12 w12 hown12 hb12; have HO12 := Lib.hid hown12; have HB12' := Lib.hid hb12; clear hown12 hb12)
              go_ret
              exact ⟨⟨_, rfl, by rw [HQZ.out]; exact HO12.out.at⟩, HK11.out.app (HB12'.out.mono (Nat.le_succ _))⟩
    · have hjn : ¬ (j : Int) < (n : Int) := by omega
      have hjd : decide ((j : Int) < (n : Int)) = false := decide_eq_false hjn
      go_upto_region 2 with fail
      go_quiet (fail)
      have hkq : Kept wi (wi.drewN nq) := (Kept.refl wi).drewN _
      obtain ⟨wj, hwj⟩ : ∃ wj, wj = wi.drewN nq := ⟨_, rfl⟩
      rw [← hwj] at hkq ⊢
      have HKj := Lib.hid (HKr.out.trans hkq)
      have HPj := Lib.hid ((HP.out.kept HK0.out).kept HKj.out)
      clear hwj hkq x0 x1 x2 x3 hlx HRX HXr HKr
      have HBS : Hid (w.heap.size + 1 ≤ wj.heap.size) := Lib.hid (by have := HKj.out.size; have := HZ0.out; omega)
      have HTK := Lib.hid ((HPj.out.take j hj).kept ((Kept.refl wj).alloc (.cells #[] 83)))
      have hjc : (j : Int) ≤ (pc : Int) := by omega
      have hj0 : (0 : Int) ≤ (j : Int) := by omega
      have HLK : Hid (([] : List Trm).length + ((polT p).take j).length < 1099511627776) := Lib.hid (by rw [List.length_take, polT_len, ← HN.out]; simp; omega)
      go_wp2_with (at_builtin; refine app_trms rfl _ _ rfl (w.heap.size + 1) _ [] rfl (own_emptyT wj _ HBS.out) _ ((polT p).take j) rfl HTK.out HLK.out (by have := HBS.out; simp; omega) ?_; intro v4 w4 hown4 hb4; have HO4 := Lib.hid hown4; have HB4 := Lib.hid hb4; clear hown4 hb4)
      have HK4 : Hid (Kept w0 w4) := Lib.hid ((HKj.out.alloc _).app (by rw [HZ0.out]; exact HB4.out))
      have HX4 := Lib.hid (HX0.out.kept HK4.out)
      replace HO4 : Hid (OwnTrms w4 (w.heap.size + 1) v4 ((polT p).take j)) := Lib.hid HO4.out
      clear HB4 HTK HLK HPj HKj HBS
      have HQE : Hid (Q = p.take j ++ ((if ratOf r = 0 then [] else [(s, ratOf r)]) ++ p.drop j)) := Lib.hid (by
        rw [HQ.out, plus_at s c p j (by rw [← HN.out]; exact hj) HLT.out (fun h => by have := HN.out; omega), dif_neg (fun h => by have := HN.out; omega), HCC.out])
      have HRT : Hid (r.Short 34359738100) := Lib.hid ⟨Nat.le_trans HRS.out.1 (by omega), Nat.le_trans HRS.out.2 (by omega)⟩
      go_quiet (fail)
      have hkq : Kept w4 (w4.drewN nq) := (Kept.refl w4).drewN _
      obtain ⟨w5, hw5⟩ : ∃ w5, w5 = w4.drewN nq := ⟨_, rfl⟩
      rw [← hw5] at hkq ⊢
      have HK5 := Lib.hid (HK0.out.trans (HK4.out.trans hkq))
      have HB5 : Hid (w.heap.size + 1 ≤ w5.heap.size) := Lib.hid (by have := (HK4.out.trans hkq).size; have := HZ0.out; omega)
      have HX5 := Lib.hid (HX4.out.kept hkq)
      have HO5 := Lib.hid (HO4.out.kept hkq)
      clear hw5 hkq
      obtain ⟨S, hS⟩ : ∃ S, S = sgnR (ratOf r) := ⟨_, rfl⟩
      have HS0 : Hid (S = 0 ↔ ratOf r = 0) := Lib.hid (by rw [hS]; exact sgnR_zero)
      have HSG : Hid (∀ W u, RatAt W u r → Calls Tryz.prog 52 #[u] W fun e w' => e = .returned (.int .i64 S) ∧ Kept W w') := Lib.hid fun W u hu => by
        rw [hS]
        exact refsign_any u _ W hu ⟨Nat.le_trans HRT.out.1 (by omega), Nat.le_trans HRT.out.2 (by omega)⟩
      have HAZ : Hid (∀ W u, RatAt W u r → Calls Tryz.prog 77 #[u, .agg #[.bool false, .slice none 0 0, .slice none 0 0]] W fun e w' => (∃ v', e = .returned v' ∧ RatAt w' v' (canR (ratOf r))) ∧ Kept W w') := Lib.hid fun W u hu => by
        have h := refadd02_any u _ r (canR 0) W hu ⟨_, _, rfl, WdsAt.nil W, WdsAt.nil W⟩ ⟨Nat.le_trans HRT.out.1 (by omega), Nat.le_trans HRT.out.2 (by omega)⟩ ⟨by decide +kernel, by decide +kernel⟩
        rw [ratOf_can, Rat.add_zero] at h
        exact h
      clear hS
      obtain ⟨m1, l1, l2, e1, f1, e2, f2, x0, x1, x2, x3, hlx, HRX⟩ := HX5.out.read
      go_wp2_with fail
      refine (HSG.out _ _ HRX.out).mono ?_
      rintro e w8 ⟨rfl, hk8⟩
      have HX8 := Lib.hid (HX5.out.kept hk8)
      have HO8 := Lib.hid (HO5.out.kept hk8)
      have HK8 := Lib.hid (HK5.out.trans hk8)
      have HSZ8 := Lib.hid hk8.size
      clear hk8 x0 x1 x2 x3 hlx HRX
      have HB8 : Hid (w.heap.size + 1 ≤ w8.heap.size) := Lib.hid (Nat.le_trans HB5.out HSZ8.out)
      by_cases hz : S = 0
      · have hzb : (S == 0) = true := by rw [hz]; rfl
        have hzn : (S != 0) = false := by rw [hz]; rfl
        have HQZ : Hid (polT Q = (polT p).take j ++ (polT p).drop j) := Lib.hid (by
          rw [HQE.out, if_pos (HS0.out.1 hz)]
          unfold polT
          simp)
        have HLZ : Hid (((polT p).take j).length + ((polT p).drop j).length < 1099511627776) := Lib.hid (by simp [polT_len, ← HN.out]; omega)
        have HPL := Lib.hid (HP.out.kept HK8.out)
        have hJ1 : (j : Int) ≤ (n : Int) := by omega
        have hJ2 : (j : Int) ≤ (pc : Int) := by omega
        by_cases hcj : pc = j
        · have HDN : Hid ((polT p).drop j = []) := Lib.hid (List.drop_eq_nil_of_le (by rw [polT_len, ← HN.out]; omega))
          have HTD : Hid (TrmsAt w8 (.slice (some ⟨b0, o0, none⟩) 0 0) ((polT p).drop j)) := Lib.hid (by rw [HDN.out]; exact TrmsAt.none _ _ _ (fun h => by cases h))
          have hnJ : n = j := by omega
          go_wp2_with (at_builtin; refine app_trms rfl _ _ rfl (w.heap.size + 1) _ ((polT p).take j) rfl HO8.out _ ((polT p).drop j) rfl HTD.out HLZ.out HB8.out ?_; intro v12 w12 hown12 hb12; have HO12 := Lib.hid hown12; have HB12' := Lib.hid hb12; clear hown12 hb12)
          go_ret
          exact ⟨⟨_, rfl, by rw [HQZ.out]; exact HO12.out.at⟩, HK8.out.app (HB12'.out.mono (Nat.le_succ _))⟩
        · have HTD := Lib.hid (HPL.out.drop j (by omega))
          go_wp2_with (at_builtin; refine app_trms rfl _ _ rfl (w.heap.size + 1) _ ((polT p).take j) rfl HO8.out _ ((polT p).drop j) rfl HTD.out HLZ.out HB8.out ?_; intro v12 w12 hown12 hb12; have HO12 := Lib.hid hown12; have HB12' := Lib.hid hb12; clear hown12 hb12)
          go_ret
          exact ⟨⟨_, rfl, by rw [HQZ.out]; exact HO12.out.at⟩, HK8.out.app (HB12'.out.mono (Nat.le_succ _))⟩
      · have hzb : (S == 0) = false := by rw [beq_eq_false_iff_ne]; exact hz
        have hzn : (S != 0) = true := by rw [bne_iff_ne]; exact hz
        have HQZ : Hid (polT Q = ((polT p).take j ++ [((s : Int), canR (ratOf r))]) ++ (polT p).drop j) := Lib.hid (by
          rw [HQE.out, if_neg (fun h => hz (HS0.out.2 h))]
          unfold polT
          simp)
        obtain ⟨m1, l1, l2, e1, f1, e2, f2, x0, x1, x2, x3, hlx, HRX⟩ := HX8.out.read
        have HCL0 : Hid ((fun W : World => W.cell? ⟨w.heap.size, 0, none⟩ = some (.int .i64 s) ∧ W.cell? ⟨w.heap.size, 1, none⟩ = some (.bool m1) ∧ W.cell? ⟨w.heap.size, 2, none⟩ = some (.slice e1 l1 f1) ∧ W.cell? ⟨w.heap.size, 3, none⟩ = some (.slice e2 l2 f2)) w8) := Lib.hid ⟨x0, x1, x2, x3⟩
        have HSK : Hid (∀ W W' : World, Kept W W' → (fun W : World => W.cell? ⟨w.heap.size, 0, none⟩ = some (.int .i64 s) ∧ W.cell? ⟨w.heap.size, 1, none⟩ = some (.bool m1) ∧ W.cell? ⟨w.heap.size, 2, none⟩ = some (.slice e1 l1 f1) ∧ W.cell? ⟨w.heap.size, 3, none⟩ = some (.slice e2 l2 f2)) W → (fun W : World => W.cell? ⟨w.heap.size, 0, none⟩ = some (.int .i64 s) ∧ W.cell? ⟨w.heap.size, 1, none⟩ = some (.bool m1) ∧ W.cell? ⟨w.heap.size, 2, none⟩ = some (.slice e1 l1 f1) ∧ W.cell? ⟨w.heap.size, 3, none⟩ = some (.slice e2 l2 f2)) W') := Lib.hid fun W W' hk ⟨p0, p1, p2, p3⟩ => ⟨hk.cell p0, hk.cell p1, hk.cell p2, hk.cell p3⟩
        have HCLd := Lib.hid (HSK.out w8 w8.drew (Kept.refl _).drew HCL0.out)
        have HLL : Hid (((polT p).take j).length < 1099511627776) := Lib.hid (by rw [List.length_take, polT_len, ← HN.out]; omega)
        go_wp2_with fail
        go_region_held3 (fun W => W.cell? ⟨w.heap.size, 0, none⟩ = some (.int .i64 s) ∧ W.cell? ⟨w.heap.size, 1, none⟩ = some (.bool m1) ∧ W.cell? ⟨w.heap.size, 2, none⟩ = some (.slice e1 l1 f1) ∧ W.cell? ⟨w.heap.size, 3, none⟩ = some (.slice e2 l2 f2))
          (with_reducible first | exact HCL11.out | exact HCL10.out | exact HCL9.out | exact HCLd.out | exact HCL0.out)
          (first
          | (go_at_call 77; (with_reducible refine (HAZ.out _ _ (HRX.out.kept (Kept.refl _).drew)).mono ?_); rintro e w9 ⟨⟨v9, rfl, hv9⟩, hk9⟩; have K9 := Lib.hid ((Kept.refl w8).drew.trans hk9); obtain ⟨z1, z2, rfl, hz1, hz2⟩ := hv9; have HZ1 := Lib.hid hz1; have HZ2 := Lib.hid hz2; obtain ⟨za1, zc1, rfl⟩ := hz1.shape; obtain ⟨za2, zc2, rfl⟩ := hz2.shape; have HCL9 := Lib.hid (HSK.out _ _ K9.out HCL0.out); have HCL10 := Lib.hid (HSK.out _ _ (K9.out.alloc (.cells #[.int .i64 s, .bool (canR (ratOf r)).neg, .slice za1 (canR (ratOf r)).num.length zc1, .slice za2 (canR (ratOf r)).den.length zc2] 83)) HCL0.out); have HB9 : Hid (w.heap.size + 1 ≤ w9.heap.size) := Lib.hid (Nat.le_trans HB8.out K9.out.size); clear hk9 hz1 hz2)
          | (refine step_trm rfl _ _ rfl (w.heap.size + 1) v4 ((polT p).take j) rfl (HO8.out.kept (K9.out.alloc _)) w9.heap.size ((s : Int), canR (ratOf r)) _ _ rfl (range_made4 _ _ _ _ _ _) (HZ1.out.kept ((Kept.refl _).alloc _)) (HZ2.out.kept ((Kept.refl _).alloc _)) HLL.out (Nat.le_trans HB9.out (size_alloc_le _ _)) ?_; intro v11 w11 hown11 hb11; have HO11 := Lib.hid hown11; have HB11 := Lib.hid hb11; have HCL11 := Lib.hid (⟨below_cellB HB11.out (Nat.lt_succ_self _) HCL10.out.1, below_cellB HB11.out (Nat.lt_succ_self _) HCL10.out.2.1, below_cellB HB11.out (Nat.lt_succ_self _) HCL10.out.2.2.1, below_cellB HB11.out (Nat.lt_succ_self _) HCL10.out.2.2.2⟩ : (fun W : World => W.cell? ⟨w.heap.size, 0, none⟩ = some (.int .i64 s) ∧ W.cell? ⟨w.heap.size, 1, none⟩ = some (.bool m1) ∧ W.cell? ⟨w.heap.size, 2, none⟩ = some (.slice e1 l1 f1) ∧ W.cell? ⟨w.heap.size, 3, none⟩ = some (.slice e2 l2 f2)) w11); clear hown11 hb11))
        have HK11 : Hid (Kept w w11) := Lib.hid ((HK8.out.trans (K9.out.alloc _)).app (HB11.out.mono (Nat.le_succ _)))
        have HB12 : Hid (w.heap.size + 1 ≤ w11.heap.size) := Lib.hid (Nat.le_trans HB9.out (Nat.le_trans (by simp) HB11.out.size))
        clear x0 x1 x2 x3 hlx
        have HLZ : Hid (((polT p).take j ++ [((s : Int), canR (ratOf r))]).length + ((polT p).drop j).length < 1099511627776) := Lib.hid (by simp [polT_len, ← HN.out]; omega)
        have HPL := Lib.hid (HP.out.kept HK11.out)
        have hJ1 : (j : Int) ≤ (n : Int) := by omega
        have hJ2 : (j : Int) ≤ (pc : Int) := by omega
        by_cases hcj : pc = j
        · have HDN : Hid ((polT p).drop j = []) := Lib.hid (List.drop_eq_nil_of_le (by rw [polT_len, ← HN.out]; omega))
          have HTD : Hid (TrmsAt w11 (.slice (some ⟨b0, o0, none⟩) 0 0) ((polT p).drop j)) := Lib.hid (by rw [HDN.out]; exact TrmsAt.none _ _ _ (fun h => by cases h))
          have hnJ : n = j := by omega
          go_wp2_with (at_builtin; refine app_trms rfl _ _ rfl (w.heap.size + 1) _ ((polT p).take j ++ [((s : Int), canR (ratOf r))]) rfl HO11.out _ ((polT p).drop j) rfl HTD.out HLZ.out HB12.out ?_; intro v12 w12 hown12 hb12; have HO12 := Lib.hid hown12; have HB12' := Lib.hid hb12; clear hown12 hb12)
          go_ret
          exact ⟨⟨_, rfl, by rw [HQZ.out]; exact HO12.out.at⟩, HK11.out.app (HB12'.out.mono (Nat.le_succ _))⟩
        · have HTD := Lib.hid (HPL.out.drop j (by omega))
          go_wp2_with (at_builtin; refine app_trms rfl _ _ rfl (w.heap.size + 1) _ ((polT p).take j ++ [((s : Int), canR (ratOf r))]) rfl HO11.out _ ((polT p).drop j) rfl HTD.out HLZ.out HB12.out ?_; intro v12 w12 hown12 hb12; have HO12 := Lib.hid hown12; have HB12' := Lib.hid hb12; clear hown12 hb12)
          go_ret
          exact ⟨⟨_, rfl, by rw [HQZ.out]; exact HO12.out.at⟩, HK11.out.app (HB12'.out.mono (Nat.le_succ _))⟩
end Go.Proofs.YtpaedhlacbpmpaaGreatDoor
