import Derived.Test.YtpaedhlacbpmpaaGreatDoorPX1
import Derived.Test.YtpaedhlacbpmpaaGreatDoorPX2
import Derived.Test.YtpaedhlacbpmpaaGreatDoorPX3
import Derived.Test.YtpaedhlacbpmpaaGreatDoorPX4
import Derived.Test.YtpaedhlacbpmpaaGreatDoorPX5
import Derived.Test.YtpaedhlacbpmpaaGreatDoorPX6
import Derived.Test.YtpaedhlacbpmpaaGreatDoorPX7
import Derived.Test.YtpaedhlacbpmpaaGreatDoorPX8
import Derived.Test.YtpaedhlacbpmpaaGreatDoorPZ1
import Derived.Test.YtpaedhlacbpmpaaGreatDoorPZ2
import Derived.Test.YtpaedhlacbpmpaaGreatDoorPZ3
/-
  Walk: faultlineref20.Mul. Printed by gen_PG5.py.
-/
namespace Go.Proofs.YtpaedhlacbpmpaaGreatDoor
open Go.RowKit

theorem scale_snoc (s : Nat × Rat) (q : Pol) (t : Nat × Rat) : scaleP s (q ++ [t]) = scaleP s q ++ [(s.1 ||| t.1, s.2 * t.2)] := by simp [scaleP]
set_option maxRecDepth 100000 in
set_option maxHeartbeats 16000000 in
theorem rprod_any (v u : Value) (p q : Pol) (w : World) (hp : TrmsAt w v (polT p)) (hq : TrmsAt w u (polT q)) (sp : Sm 1000 64 p) (sq : Sm 1000 64 q) :
    Calls Tryz.prog 18 #[v, u] w fun e w' => (∃ v', e = .returned (.tuple #[v', .int .i64 0]) ∧ TrmsAt w' v' (polT (normP (mulT p q)))) ∧ Kept w w' := by
  obtain ⟨a, ac, rfl⟩ := hp.shape
  obtain ⟨b9, bc, rfl⟩ := hq.shape
  obtain ⟨n, hn⟩ : ∃ n, n = p.length := ⟨_, rfl⟩
  obtain ⟨m, hm⟩ : ∃ m, m = q.length := ⟨_, rfl⟩
  rw [polT_len, ← hn] at hp
  rw [polT_len, ← hm] at hq
  rw [polT_len, polT_len, ← hn, ← hm]
  have hnl : n ≤ 64 := by rw [hn]; exact sp.len
  have hml : m ≤ 64 := by rw [hm]; exact sq.len
  have HP := Lib.hid hp
  have HQ := Lib.hid hq
  have HN := Lib.hid hn
  have HM := Lib.hid hm
  have HSP := Lib.hid sp.sh
  have HSQ := Lib.hid sq.sh
  have HBP := Lib.hid sp.acc.bit
  have HBQ := Lib.hid sq.acc.bit
  have HSTEP : Hid (∀ i (hi : i < p.length) j (h : j < q.length), normP (mulT (p.take i) q ++ scaleP (p[i].1, p[i].2) (q.take (j + 1))) = plusP (normP (mulT (p.take i) q ++ scaleP (p[i].1, p[i].2) (q.take j))) (p[i].1 ||| q[j].1, p[i].2 * q[j].2)) := Lib.hid fun i hi j h => by
    rw [← norm_snoc, List.take_succ_eq_append_getElem h, scale_snoc, ← List.append_assoc]
  have HNEXT : Hid (∀ i (hi : i < p.length), mulT (p.take (i + 1)) q = mulT (p.take i) q ++ scaleP (p[i].1, p[i].2) q) := Lib.hid fun i hi => by
    rw [List.take_succ_eq_append_getElem hi]
    simp only [mulT, List.flatMap_append, List.flatMap_cons, List.flatMap_nil, List.append_nil]
  have HNO : Hid (∀ i (hi : i < p.length) j, NOk (normP (mulT (p.take i) q ++ scaleP (p[i].1, p[i].2) (q.take j)))) := Lib.hid fun i hi j => norm_ok (c := 2000) (fun t ht => by
    rcases List.mem_append.1 ht with h | h
    · obtain ⟨x, hx, y, hy, rfl⟩ := mem_mulT h
      exact or_lt24' (sp.acc.bit x (List.mem_of_mem_take hx)) (sq.acc.bit y hy)
    · obtain ⟨y, hy, rfl⟩ := List.mem_map.1 h
      exact or_lt24' (sp.acc.bit _ (List.getElem_mem hi)) (sq.acc.bit y (List.mem_of_mem_take hy))) (by
    rw [List.length_append, mulT_len, scaleP, List.length_map, List.length_take, List.length_take]
    have h1 := sp.len
    have h2 := sq.len
    have h3 : min i p.length * q.length ≤ 63 * 64 := Nat.mul_le_mul (by omega) h2
    omega) (fun t ht => by
    rcases List.mem_append.1 ht with h | h
    · obtain ⟨x, hx, y, hy, rfl⟩ := mem_mulT h
      have h1 := short_mul (canR_ok x.2) (canR_ok y.2) (sp.sh x (List.mem_of_mem_take hx)) (sq.sh y hy) (by omega) (by omega)
      rw [ratOf_can, ratOf_can] at h1
      exact h1
    · obtain ⟨y, hy, rfl⟩ := List.mem_map.1 h
      have h1 := short_mul (canR_ok p[i].2) (canR_ok y.2) (sp.sh _ (List.getElem_mem hi)) (sq.sh y (List.mem_of_mem_take hy)) (by omega) (by omega)
      rw [ratOf_can, ratOf_can] at h1
      exact h1) (by omega) (by omega)
  have HLE : Hid ((normP (mulT p q)).length ≤ 4096) := Lib.hid (by
    have h1 := len_normP (mulT p q)
    rw [mulT_len] at h1
    have h3 : p.length * q.length ≤ 64 * 64 := Nat.mul_le_mul sp.len sq.len
    omega)
  clear hp hq sp sq hn hm
  go_enter Tryz.func18, Tryz.ntmps18
  go_wp2_with fail
  go_loopg [6, 13] n (fun kx s6 si wr => ∃ i : Nat, i ≤ n ∧ si = .int .i64 i ∧ n - i ≤ kx ∧ Hid (TrmsAt wr s6 (polT (normP (mulT (p.take i) q)))) ∧ Hid (Kept w wr))
  case atStart => exact ⟨0, Nat.zero_le _, rfl, by omega, Lib.hid (TrmsAt.nil _), Lib.hid (Kept.refl _)⟩
  case round =>
    obtain ⟨ji, hji, rfl, hjxi, HSo, HKo⟩ := hrel
    obtain ⟨wo, rfl⟩ : ∃ wo : World, wo = wr := ⟨_, rfl⟩
    by_cases hlti : ji < n
    · have hjni : (ji : Int) < (n : Int) := by omega
      have hjli : ji < p.length := by rw [← HN.out]; exact hlti
      obtain ⟨bi, oi, y1i, y2i, y3i, a1i, c1i, a2i, c2i, rfl, z0i, z1i, z2i, z3i, HRTi⟩ := (HP.out.kept HKo.out).term ji hjli
      obtain ⟨si, hsi⟩ : ∃ s, s = p[ji].1 := ⟨_, rfl⟩
      obtain ⟨ci, hci⟩ : ∃ c, c = p[ji].2 := ⟨_, rfl⟩
      have hcsi : (canR ci).Short 1000 := by rw [hci]; exact HSP.out _ (List.getElem_mem _)
      have hs24i : si < 16777216 := by rw [hsi]; exact HBP.out _ (List.getElem_mem _)
      rw [← hsi] at z0i
      rw [← hci] at HRTi
      obtain ⟨w3i, hw3i⟩ : ∃ w3, w3 = wo.alloc (.cells #[.int .i64 si, .bool y1i, .slice a1i y2i c1i, .slice a2i y3i c2i] 83) := ⟨_, rfl⟩
      have HX3i : Hid (RowAt w3i wo.heap.size 83 [.int .i64 si, .bool y1i, .slice a1i y2i c1i, .slice a2i y3i c2i]) := Lib.hid (by rw [hw3i]; exact RowAt.made wo #[.int .i64 si, .bool y1i, .slice a1i y2i c1i, .slice a2i y3i c2i] 83)
      have HK3i : Hid (Kept wo w3i) := Lib.hid (by rw [hw3i]; exact (Kept.refl wo).alloc _)
      have HW3i := Lib.hid hw3i
      have HR3i := Lib.hid (HRTi.out.kept HK3i.out)
      clear hw3i
      have HNX := Lib.hid (HNEXT.out ji hjli)
      have HSJ : Hid (∀ j (h : j < q.length), normP (mulT (p.take ji) q ++ scaleP (si, ci) (q.take (j + 1))) = plusP (normP (mulT (p.take ji) q ++ scaleP (si, ci) (q.take j))) (si ||| q[j].1, ci * q[j].2)) := Lib.hid (by rw [hsi, hci]; exact HSTEP.out ji hjli)
      have HNJ : Hid (∀ j, NOk (normP (mulT (p.take ji) q ++ scaleP (si, ci) (q.take j)))) := Lib.hid (by rw [hsi, hci]; exact HNO.out ji hjli)
      rw [← hsi, ← hci] at HNX
      have HK3o : Hid (Kept w w3i) := Lib.hid (HKo.out.trans HK3i.out)
      have HS0 : Hid (TrmsAt w3i u6 (polT (normP (mulT (p.take ji) q ++ scaleP (si, ci) (q.take 0))))) := Lib.hid (by
        rw [List.take_zero, show scaleP (si, ci) [] = [] from rfl, List.append_nil]
        exact HSo.out.kept HK3i.out)
      have HCSI := Lib.hid hcsi
      have HS24I := Lib.hid hs24i
      clear hsi hci hcsi hs24i
      go_wp2_with fail
      rw [← HW3i.out]
      clear z0i z1i z2i z3i
      go_loopg [6, 19] m (fun kx s6 sj wr => ∃ j : Nat, j ≤ m ∧ sj = .int .i64 j ∧ m - j ≤ kx ∧ Hid (TrmsAt wr s6 (polT (normP (mulT (p.take ji) q ++ scaleP (si, ci) (q.take j))))) ∧ Hid (Kept w3i wr))
      case atStart => exact ⟨0, Nat.zero_le _, rfl, by omega, HS0, Lib.hid (Kept.refl _)⟩
      case round =>
        obtain ⟨j, hj, rfl, hjx, HS, HKr⟩ := hrel
        obtain ⟨wi, rfl⟩ : ∃ wi : World, wi = wr := ⟨_, rfl⟩
        have HKw : Hid (Kept w wi) := Lib.hid (HK3o.out.trans HKr.out)
        by_cases hlt : j < m
        · have hjn : (j : Int) < (m : Int) := by omega
          have hjl : j < q.length := by rw [← HM.out]; exact hlt
          obtain ⟨b, o, y1, y2, y3, a1, c1, a2, c2, rfl, z0, z1, z2, z3, HRT⟩ := (HQ.out.kept HKw.out).term j hjl
          obtain ⟨s, hs⟩ : ∃ s, s = q[j].1 := ⟨_, rfl⟩
          obtain ⟨c, hc⟩ : ∃ c, c = q[j].2 := ⟨_, rfl⟩
          have hcs : (canR c).Short 1000 := by rw [hc]; exact HSQ.out _ (List.getElem_mem _)
          have hs24 : s < 16777216 := by rw [hs]; exact HBQ.out _ (List.getElem_mem _)
          rw [← hs] at z0
          rw [← hc] at HRT
          obtain ⟨w3, hw3⟩ : ∃ w3, w3 = wi.alloc (.cells #[.int .i64 s, .bool y1, .slice a1 y2 c1, .slice a2 y3 c2] 83) := ⟨_, rfl⟩
          have HX3 : Hid (RowAt w3 wi.heap.size 83 [.int .i64 s, .bool y1, .slice a1 y2 c1, .slice a2 y3 c2]) := Lib.hid (by rw [hw3]; exact RowAt.made wi #[.int .i64 s, .bool y1, .slice a1 y2 c1, .slice a2 y3 c2] 83)
          have HK3 : Hid (Kept wi w3) := Lib.hid (by rw [hw3]; exact (Kept.refl wi).alloc _)
          have HW3 := Lib.hid hw3
          have HR3 := Lib.hid (HRT.out.kept HK3.out)
          clear hw3
          have HST := Lib.hid (HSJ.out j hjl)
          rw [← hs, ← hc] at HST
          have HNJ1 := Lib.hid (HNJ.out j)
          have HPL : Hid (∀ W o n l1 l2 e1 f1 e2 f2, TrmsAt W o (polT (normP (mulT (p.take ji) q ++ scaleP (si, ci) (q.take j)))) → RatAt W (.agg #[.bool n, .slice e1 l1 f1, .slice e2 l2 f2]) (canR (ci * c)) → Calls Tryz.prog 58 #[o, .agg #[.int .i64 (si ||| s : Nat), .bool n, .slice e1 l1 f1, .slice e2 l2 f2]] W fun e w' => (∃ v', e = .returned v' ∧ TrmsAt w' v' (polT (normP (mulT (p.take ji) q ++ scaleP (si, ci) (q.take (j + 1)))))) ∧ Kept W w') := Lib.hid fun W o n l1 l2 e1 f1 e2 f2 h1 h2 => by
            rw [HST.out]
            have hsn := short_mul (canR_ok ci) (canR_ok c) HCSI.out hcs (by omega) (by omega)
            rw [ratOf_can, ratOf_can] at hsn
            have h := rplus_ok o _ (si ||| s) n _ _ (canR (ci * c)) W h1 h2 (or_lt24' HS24I.out hs24) HNJ1.out ⟨Nat.le_trans hsn.1 (by omega), Nat.le_trans hsn.2 (by omega)⟩
            rw [ratOf_can] at h
            exact h
          have HML : Hid (∀ W u1 u2, RatAt W u1 (canR ci) → RatAt W u2 (canR c) → Calls Tryz.prog 61 #[u1, u2] W fun e w' => (∃ v', e = .returned v' ∧ RatAt w' v' (canR (ci * c))) ∧ Kept W w') := Lib.hid fun W u1 u2 k1 k2 => by
            have h := refmul02_any u1 u2 _ _ W k1 k2 ⟨Nat.le_trans HCSI.out.1 (by omega), Nat.le_trans HCSI.out.2 (by omega)⟩ ⟨Nat.le_trans hcs.1 (by omega), Nat.le_trans hcs.2 (by omega)⟩
            rw [ratOf_can, ratOf_can] at h
            exact h
          have hor : bits .or .i64 (si : Int) (s : Int) = ((si ||| s : Nat) : Int) := or_i64 _ _ (by have := HS24I.out; omega) (by omega)
          obtain ⟨os, hos⟩ : ∃ os, os = si ||| s := ⟨_, rfl⟩
          rw [← hos] at HPL hor
          have HR3o := Lib.hid (HR3i.out.kept (HKr.out.trans HK3.out))
          have HS3 := Lib.hid (HS.out.kept HK3.out)
          have HXo := Lib.hid (HX3i.out.kept (HKr.out.trans HK3.out))
          clear hs hc hcs hs24 hos
          go_wp2_with fail
          rw [← HW3.out]
          obtain ⟨x0, x1, x2, x3⟩ := trm4_at HX3.out
          obtain ⟨x4, x5, x6, x7⟩ := trm4_at HXo.out
          have HCL0 : Hid ((fun W : World => W.cell? ⟨wo.heap.size, 0, none⟩ = some (.int .i64 si) ∧ W.cell? ⟨wo.heap.size, 1, none⟩ = some (.bool y1i) ∧ W.cell? ⟨wo.heap.size, 2, none⟩ = some (.slice a1i y2i c1i) ∧ W.cell? ⟨wo.heap.size, 3, none⟩ = some (.slice a2i y3i c2i) ∧ W.cell? ⟨wi.heap.size, 0, none⟩ = some (.int .i64 s) ∧ W.cell? ⟨wi.heap.size, 1, none⟩ = some (.bool y1) ∧ W.cell? ⟨wi.heap.size, 2, none⟩ = some (.slice a1 y2 c1) ∧ W.cell? ⟨wi.heap.size, 3, none⟩ = some (.slice a2 y3 c2)) w3) := Lib.hid ⟨x4, x5, x6, x7, x0, x1, x2, x3⟩
          have HSK : Hid (∀ W W' : World, Kept W W' → (fun W : World => W.cell? ⟨wo.heap.size, 0, none⟩ = some (.int .i64 si) ∧ W.cell? ⟨wo.heap.size, 1, none⟩ = some (.bool y1i) ∧ W.cell? ⟨wo.heap.size, 2, none⟩ = some (.slice a1i y2i c1i) ∧ W.cell? ⟨wo.heap.size, 3, none⟩ = some (.slice a2i y3i c2i) ∧ W.cell? ⟨wi.heap.size, 0, none⟩ = some (.int .i64 s) ∧ W.cell? ⟨wi.heap.size, 1, none⟩ = some (.bool y1) ∧ W.cell? ⟨wi.heap.size, 2, none⟩ = some (.slice a1 y2 c1) ∧ W.cell? ⟨wi.heap.size, 3, none⟩ = some (.slice a2 y3 c2)) W → (fun W : World => W.cell? ⟨wo.heap.size, 0, none⟩ = some (.int .i64 si) ∧ W.cell? ⟨wo.heap.size, 1, none⟩ = some (.bool y1i) ∧ W.cell? ⟨wo.heap.size, 2, none⟩ = some (.slice a1i y2i c1i) ∧ W.cell? ⟨wo.heap.size, 3, none⟩ = some (.slice a2i y3i c2i) ∧ W.cell? ⟨wi.heap.size, 0, none⟩ = some (.int .i64 s) ∧ W.cell? ⟨wi.heap.size, 1, none⟩ = some (.bool y1) ∧ W.cell? ⟨wi.heap.size, 2, none⟩ = some (.slice a1 y2 c1) ∧ W.cell? ⟨wi.heap.size, 3, none⟩ = some (.slice a2 y3 c2)) W') := Lib.hid fun W W' hk ⟨p0, p1, p2, p3, p4, p5, p6, p7⟩ => ⟨hk.cell p0, hk.cell p1, hk.cell p2, hk.cell p3, hk.cell p4, hk.cell p5, hk.cell p6, hk.cell p7⟩
          have HCLd := Lib.hid (HSK.out w3 w3.drew (Kept.refl _).drew HCL0.out)
          clear z0 z1 z2 z3
          go_wp2_with fail
          go_region_held3 (fun W => W.cell? ⟨wo.heap.size, 0, none⟩ = some (.int .i64 si) ∧ W.cell? ⟨wo.heap.size, 1, none⟩ = some (.bool y1i) ∧ W.cell? ⟨wo.heap.size, 2, none⟩ = some (.slice a1i y2i c1i) ∧ W.cell? ⟨wo.heap.size, 3, none⟩ = some (.slice a2i y3i c2i) ∧ W.cell? ⟨wi.heap.size, 0, none⟩ = some (.int .i64 s) ∧ W.cell? ⟨wi.heap.size, 1, none⟩ = some (.bool y1) ∧ W.cell? ⟨wi.heap.size, 2, none⟩ = some (.slice a1 y2 c1) ∧ W.cell? ⟨wi.heap.size, 3, none⟩ = some (.slice a2 y3 c2))
            (with_reducible first | exact HCL5.out | exact HCL4.out | exact HCLd.out | exact HCL0.out)
            (first
            | (go_at_call 61; (with_reducible refine (HML.out _ _ _ (HR3o.out.kept (Kept.refl _).drew) (HR3.out.kept (Kept.refl _).drew)).mono ?_); rintro e w4 ⟨⟨v4, rfl, hv4⟩, hk4⟩; have K4 := Lib.hid ((Kept.refl w3).drew.trans hk4); obtain ⟨n', l1', l2', e1', f1', e2', f2', rfl⟩ := hv4.parts; have HV4 := Lib.hid hv4; have HCL4 := Lib.hid (HSK.out _ _ K4.out HCL0.out); clear hv4 hk4)
            | (go_at_call 58; (with_reducible refine (HPL.out _ _ _ _ _ _ _ _ _ (HS3.out.kept K4.out) HV4.out).mono ?_); rintro e w5 ⟨⟨v5, rfl, hv5⟩, hk5⟩; have HV5 := Lib.hid hv5; have K5 := Lib.hid (K4.out.trans hk5); have HCL5 := Lib.hid (HSK.out _ _ K5.out HCL0.out); clear hv5 hk5)
            | fail)
          have HK5 := Lib.hid (HKr.out.trans (HK3.out.trans K5.out))
          clear x0 x1 x2 x3 x4 x5 x6 x7
          go_wp2_with fail
          go_roundg (m - (j + 1))
          case measure => omega
          case rel => exact ⟨j + 1, by omega, by go_num, Nat.le_refl _, HV5, HK5⟩
        · have hjn : ¬ (j : Int) < (m : Int) := by omega
          have hje : j = q.length := by have := HM.out; omega
          have HSE : Hid (TrmsAt wi u6 (polT (normP (mulT (p.take (ji + 1)) q)))) := Lib.hid (by have h := HS.out; rw [hje, List.take_length, ← HNX.out] at h; exact h)
          clear hje
          go_wp2_with fail
          go_roundg (n - (ji + 1))
          case measure => omega
          case rel => exact ⟨ji + 1, by omega, by go_num, Nat.le_refl _, HSE, HKw⟩
    · have hjni : ¬ (ji : Int) < (n : Int) := by omega
      have hje : ji = p.length := by have := HN.out; omega
      obtain ⟨wi, rfl⟩ : ∃ wi : World, wi = wo := ⟨_, rfl⟩
      have HKr := HKo
      have HSE : Hid (TrmsAt wi u6 (polT (normP (mulT p q)))) := Lib.hid (by have h := HSo.out; rw [hje, List.take_length] at h; exact h)
      clear hje
      obtain ⟨fa, fl, fc, rfl⟩ := HSE.out.slc
      have hfl : fl ≤ 4096 := by
        have h := HSE.out.len2
        rw [polT_len] at h
        rw [h]
        exact HLE.out
      have HLG := Lib.hid (rlarge_ok fa fl fc wi hfl)
      clear hfl
      go_wp2_with fail
      refine HLG.out.mono ?_
      rintro e w9 ⟨rfl, he9⟩
      rw [he9]
      go_wp2
      go_ret2
      exact ⟨⟨_, rfl, HSE.out⟩, HKr.out⟩
end Go.Proofs.YtpaedhlacbpmpaaGreatDoor
