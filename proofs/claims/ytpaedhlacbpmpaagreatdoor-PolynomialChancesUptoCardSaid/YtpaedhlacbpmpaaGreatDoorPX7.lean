import Derived.WalkKit
import Derived.WalkSpells
import Derived.WalkLawsBesides
import Derived.Deep.QuietTactic
import Derived.BigQuiet
import Derived.Lib.Hide
import Derived.Shelf.Abstract
import Derived.Deep.RegionWith
import Derived.Laws.AppendOwnNone
import Derived.Lib.AppendZerosOnto
import Derived.Lib.SliceRun
import Derived.Lib.SlicesCompact
import Derived.Shelf.SlSortCmp.NoneTotal
import Derived.Maps.OwnOps
import Derived.Maps.OwnSet
import Derived.Maps.Views
import Derived.Deep.MidRow
import Derived.Deep.RegionHeld3
import Derived.Deep.AppendLies
import Derived.Deep.RegionLaw
import Derived.IntWalk
import Derived.StillTailTactics
import Derived.ProofKit
import Derived.OpenShut
import Derived.SizedLaws
import Derived.Lib.SmallJoins
import Derived.Deep.Slices
import Derived.Deep.Fields
import Derived.Deep.Strs
import Derived.Carry
import Derived.Deep.DeepCutAuto
import Derived.BigRegion
import Derived.ChangeAlike
import Derived.Deep.LoopGhost
import Derived.Lib.ItoaNum
import Derived.RegionTactic
import Derived.Shelf.SlSortCmp.PdqK
import Derived.Sort.LotA
import Derived.Sort.LotD2
import Derived.Lib.BitFns
import Derived.Deep.CutBlock
import Derived.Maps.RangeWalk
import Derived.Shelf.SlSortCmp.WholeK
import Derived.Laws.IdiomStrings
import Derived.Test.YtpaedhlacbpmpaaGreatDoorPX6
import Derived.Test.YtpaedhlacbpmpaaGreatDoorPX3
import Derived.Test.YtpaedhlacbpmpaaGreatDoorPX1
import Derived.Test.YtpaedhlacbpmpaaGreatDoorPX4
import Derived.Test.YtpaedhlacbpmpaaGreatDoorPX5
/-
  Walk: Mul of two polynomials. Printed by gen_PC1.py.
-/
namespace Go.Proofs.YtpaedhlacbpmpaaGreatDoor
open Go.RowKit Go.Maps

set_option maxRecDepth 100000 in
set_option maxHeartbeats 16000000 in
theorem pmul_any (v u : Value) (p q : Pol) (w : World) (hp : TrmsAt w v (polT p)) (hq : TrmsAt w u (polT q)) (ha : Acc p) (hb : Acc q) (hsp : ShP 1000 p) (hsq : ShP 1000 q) : Calls Tryz.prog 15 #[v, u] w fun e w' => TRes w' e (mulO p q) ∧ Kept w w' := by
  have HCH : Hid (Calls Tryz.prog 54 #[v, u] w fun e w' => e = .returned .nilIface ∧ Kept w w') := Lib.hid (by
    have h := both_any v u (polT p) (polT q) w hp hq (hsp.mono (by omega)).t (hsq.mono (by omega)).t
    unfold bothE at h
    rw [chkT_pol ha, if_pos rfl, chkT_pol hb, errV_zero] at h
    exact h)
  obtain ⟨R, hR⟩ : ∃ R, R = mulO p q := ⟨_, rfl⟩
  have HRE := Lib.hid hR
  rw [← hR]
  obtain ⟨a, ac, rfl⟩ := hp.shape
  obtain ⟨b9, bc, rfl⟩ := hq.shape
  obtain ⟨n, hn⟩ : ∃ n, n = p.length := ⟨_, rfl⟩
  obtain ⟨m, hm⟩ : ∃ m, m = q.length := ⟨_, rfl⟩
  rw [polT_len, ← hn] at hp HCH ⊢
  rw [polT_len, ← hm] at hq HCH ⊢
  have hnl : n ≤ 4096 := by rw [hn]; exact ha.len
  have hml : m ≤ 4096 := by rw [hm]; exact hb.len
  have HP := Lib.hid hp
  have HQ := Lib.hid hq
  have HN := Lib.hid hn
  have HM := Lib.hid hm
  have HSP := Lib.hid hsp
  have HSQ := Lib.hid hsq
  have HBP := Lib.hid ha.bit
  have HBQ := Lib.hid hb.bit
  have HSTEP1 : Hid (∀ j (h : j < p.length), mulT (p.take (j + 1)) q = mulT (p.take j) q ++ scaleP (p[j].1, p[j].2) q) := Lib.hid fun j h => by
    unfold mulT
    rw [List.take_succ_eq_append_getElem h, List.flatMap_append]
    show _ ++ (scaleP p[j] q ++ []) = _
    rw [List.append_nil]
  have HSTEP2 : Hid (∀ (t : Nat × Rat) k (h : k < q.length), scaleP t (q.take (k + 1)) = scaleP t (q.take k) ++ [(t.1 ||| q[k].1, t.2 * q[k].2)]) := Lib.hid fun t k h => by
    unfold scaleP; rw [List.take_succ_eq_append_getElem h, List.map_append, List.map_cons, List.map_nil]
  have HSM : Hid (∀ a b : Rat, (canR a).Short 1000 → (canR b).Short 1000 → (canR (a * b)).Short 2000) := Lib.hid fun a b h1 h2 => by
    have h := short_mul (canR_ok a) (canR_ok b) h1 h2 (by omega) (by omega)
    rw [ratOf_can, ratOf_can] at h
    exact ⟨Nat.le_trans h.1 (by omega), Nat.le_trans h.2 (by omega)⟩
  have HMEM : Hid (∀ p' : Pol, (∀ t ∈ p', t ∈ p) → ∀ u ∈ mulT p' q, u.1 < 16777216 ∧ (canR u.2).Short 2000) := Lib.hid fun p' hp' u hu => by
    obtain ⟨x, hx, y, hy, rfl⟩ := mem_mulT hu
    exact ⟨or_lt24' (ha.bit x (hp' x hx)) (hb.bit y hy), HSM.out _ _ (hsp x (hp' x hx)) (hsq y hy)⟩
  have HSC : Hid (∀ t ∈ p, ∀ q' : Pol, (∀ y ∈ q', y ∈ q) → ShP 2000 (scaleP t q')) := Lib.hid fun t ht q' hq' u hu => by
    obtain ⟨y, hy, rfl⟩ := List.mem_map.1 hu
    exact HSM.out _ _ (hsp t ht) (hsq y (hq' y hy))
  have HSHA : Hid (∀ j (h : j < p.length) k, ShP 2000 (mulT (p.take j) q ++ scaleP (p[j].1, p[j].2) (q.take k))) := Lib.hid fun j h k =>
    ShP.app (fun u hu => (HMEM.out _ (fun t ht => List.mem_of_mem_take ht) u hu).2) (HSC.out _ (List.getElem_mem _) _ fun y hy => List.mem_of_mem_take hy)
  have HLNA : Hid (∀ j (_ : j < p.length) (t : Nat × Rat) k, (mulT (p.take j) q ++ scaleP t (q.take k)).length ≤ 16777216) := Lib.hid fun j h t k => by
    have h1 := ha.len
    have h2 := hb.len
    rw [List.length_append, mulT_len, show (scaleP t (q.take k)).length = (q.take k).length from List.length_map .., List.length_take, List.length_take]
    have h3 : min j p.length * q.length + min k q.length ≤ 4095 * q.length + q.length := by
      have h4 : min j p.length ≤ 4095 := by omega
      have := Nat.mul_le_mul_right q.length h4
      omega
    have h5 : 4095 * q.length + q.length ≤ 16777216 := by omega
    omega
  have HBT : Hid (∀ t ∈ mulT p q, t.1 < 16777216) := Lib.hid fun t ht => (HMEM.out p (fun _ h => h) t ht).1
  have HSHT : Hid (ShP 2000 (mulT p q)) := Lib.hid fun t ht => (HMEM.out p (fun _ h => h) t ht).2
  have HLNT : Hid ((mulT p q).length ≤ 16777216) := Lib.hid (by rw [mulT_len]; have := Nat.mul_le_mul ha.len hb.len; omega)
  clear hp hq ha hb hsp hsq hR hn hm
  go_enter Tryz.func15, Tryz.ntmps15
  have hmm := @run_makeMap Tryz.prog
  go_wp2_with fail
  refine (HCH.out).mono ?_
  rintro e w1 ⟨rfl, hk1⟩
  obtain ⟨w2, hw2⟩ : ∃ w2, w2 = w1.alloc (.map #[] 0) := ⟨_, rfl⟩
  have HS2 : Hid (SumAt w2 w1.heap.size []) := Lib.hid (by rw [hw2]; exact map_made w1)
  have HK2 : Hid (Kept w w2) := Lib.hid (by rw [hw2]; exact hk1.alloc _)
  have HB : Hid (w.heap.size ≤ w1.heap.size) := Lib.hid hk1.size
  have HW2 := Lib.hid hw2
  clear hk1 hw2
  go_wp2_with fail
  rw [← HW2.out]
  go_loopg [21] n (fun kx sj wr => ∃ j : Nat, j ≤ n ∧ sj = .int .i64 j ∧ n - j ≤ kx ∧ Hid (SumAt wr w1.heap.size (mulT (p.take j) q)) ∧ Hid (Kept w wr))
  case atStart => exact ⟨0, Nat.zero_le _, rfl, by omega, Lib.hid (by have h := HS2.out; simpa [mulT] using h), HK2⟩
  case round =>
    obtain ⟨j, hj, rfl, hjx, HS, HKr⟩ := hrel
    obtain ⟨wi, rfl⟩ : ∃ wi : World, wi = wr := ⟨_, rfl⟩
    by_cases hlt : j < n
    · have hjn : (j : Int) < (n : Int) := by omega
      have hjl : j < p.length := by rw [← HN.out]; exact hlt
      obtain ⟨b, o, y1, y2, y3, a1, c1, a2, c2, rfl, z0, z1, z2, z3, HRT⟩ := HP.out.term j hjl
      have HSHJ := Lib.hid (HSHA.out j hjl)
      have HLNJ := Lib.hid (fun k => HLNA.out j hjl (p[j].1, p[j].2) k)
      obtain ⟨s, hs⟩ : ∃ s, s = p[j].1 := ⟨_, rfl⟩
      obtain ⟨c, hc⟩ : ∃ c, c = p[j].2 := ⟨_, rfl⟩
      have hcs : (canR c).Short 1000 := by rw [hc]; exact HSP.out _ (List.getElem_mem _)
      have hs24 : s < 16777216 := by rw [hs]; exact HBP.out _ (List.getElem_mem _)
      have HST := Lib.hid (HSTEP1.out j hjl)
      rw [← hs, ← hc] at HST
      have HS24 := Lib.hid hs24
      have HCS := Lib.hid hcs
      have HSJ := Lib.hid hs
      rw [← hs] at z0
      rw [← hc] at HRT
      rw [← hs, ← hc] at HSHJ HLNJ
      have HRT0 := HRT
      replace HRT := Lib.hid (HRT0.out.kept HKr.out)
      replace z0 := HKr.out.cell z0
      replace z1 := HKr.out.cell z1
      replace z2 := HKr.out.cell z2
      replace z3 := HKr.out.cell z3
      clear hs hc hcs
      obtain ⟨w3, hw3⟩ : ∃ w3, w3 = wi.alloc (.cells #[.int .i64 s, .bool y1, .slice a1 y2 c1, .slice a2 y3 c2] 83) := ⟨_, rfl⟩
      have HX3 : Hid (RowAt w3 wi.heap.size 83 [.int .i64 s, .bool y1, .slice a1 y2 c1, .slice a2 y3 c2]) := Lib.hid (by rw [hw3]; exact RowAt.made wi #[.int .i64 s, .bool y1, .slice a1 y2 c1, .slice a2 y3 c2] 83)
      have HK3 : Hid (Kept wi w3) := Lib.hid (by rw [hw3]; exact (Kept.refl wi).alloc _)
      have HW3 := Lib.hid hw3
      have HS3 := Lib.hid (HS.out.kept HK3.out)
      have HR3 := Lib.hid (HRT.out.kept HK3.out)
      clear hw3
      have HGA : Hid (wi.heap.size ≠ w1.heap.size) := Lib.hid (by have := HS.out.lt; omega)
      have HRW : Hid (RatAt w (.agg #[.bool y1, .slice a1 y2 c1, .slice a2 y3 c2]) (canR c)) := HRT0
      have HKW3 := Lib.hid (HKr.out.trans HK3.out)
      go_wp2_with fail
      rw [← HW3.out]
      clear z0 z1 z2 z3
      go_loopg [27] m (fun kx sk wr2 => ∃ k : Nat, k ≤ m ∧ sk = .int .i64 k ∧ m - k ≤ kx ∧ Hid (SumAt wr2 w1.heap.size (mulT (p.take j) q ++ scaleP (s, c) (q.take k))) ∧ Hid (RowAt wr2 wi.heap.size 83 [.int .i64 s, .bool y1, .slice a1 y2 c1, .slice a2 y3 c2]) ∧ Hid (Kept w wr2))
      case atStart => exact ⟨0, Nat.zero_le _, rfl, by omega, Lib.hid (by have h := HS3.out; simpa [scaleP] using h), HX3, HKW3⟩
      case round =>
        obtain ⟨k, hk, rfl, hkx, HSk, HXk, HKk⟩ := hrel
        obtain ⟨wk, rfl⟩ : ∃ wk : World, wk = wr := ⟨_, rfl⟩
        by_cases hlk : k < m
        · have hkm : (k : Int) < (m : Int) := by omega
          have hkl : k < q.length := by rw [← HM.out]; exact hlk
          obtain ⟨bq, oq, y4, y5, y6, a3, c3, a4, c4, rfl, z0, z1, z2, z3, HRU⟩ := (HQ.out.kept HKk.out).term k hkl
          obtain ⟨s2, hs2⟩ : ∃ s, s = q[k].1 := ⟨_, rfl⟩
          obtain ⟨d, hd⟩ : ∃ d, d = q[k].2 := ⟨_, rfl⟩
          have hds : (canR d).Short 1000 := by rw [hd]; exact HSQ.out _ (List.getElem_mem _)
          have hs224 : s2 < 16777216 := by rw [hs2]; exact HBQ.out _ (List.getElem_mem _)
          have HST2 := Lib.hid (HSTEP2.out (s, c) k hkl)
          rw [← hs2, ← hd] at HST2
          have HSX := Lib.hid (HSM.out c d HCS.out hds)
          rw [← hs2] at z0
          rw [← hd] at HRU
          have HML : Hid (∀ W u1 u2, RatAt W u1 (canR c) → RatAt W u2 (canR d) → Calls Tryz.prog 26 #[u1, u2] W fun e w' => (∃ v', e = .returned v' ∧ RatAt w' v' (canR (c * d))) ∧ Kept W w') := Lib.hid fun W u1 u2 k1 k2 => by
            have h := rmul_any u1 u2 _ _ W k1 k2 ⟨Nat.le_trans HCS.out.1 (by omega), Nat.le_trans HCS.out.2 (by omega)⟩ ⟨Nat.le_trans hds.1 (by omega), Nat.le_trans hds.2 (by omega)⟩
            rw [ratOf_can, ratOf_can] at h
            exact h
          have HAD : Hid (∀ W u, SumAt W w1.heap.size (mulT (p.take j) q ++ scaleP (s, c) (q.take k)) → RatAt W u (canR (c * d)) → Calls Tryz.prog 55 #[.map (some w1.heap.size), .int .i64 (s ||| s2 : Nat), u] W fun e w' => e = .returned (.tuple #[]) ∧ SumAt w' w1.heap.size (mulT (p.take j) q ++ scaleP (s, c) (q.take (k + 1))) ∧ OnlyAt w1.heap.size W w') := Lib.hid fun W u h1 h2 => by
            rw [HST2.out, ← List.append_assoc]
            exact sadd_step h1 h2 (HSHJ.out k) (HLNJ.out k) HSX.out
          have hor : bits .or .i64 (s : Int) (s2 : Int) = ((s ||| s2 : Nat) : Int) := or_i64 s s2 (by have := HS24.out; omega) (by omega)
          obtain ⟨wB, hwB⟩ : ∃ wB, wB = wk.alloc (.cells #[.int .i64 s2, .bool y4, .slice a3 y5 c3, .slice a4 y6 c4] 83) := ⟨_, rfl⟩
          have HXB : Hid (RowAt wB wk.heap.size 83 [.int .i64 s2, .bool y4, .slice a3 y5 c3, .slice a4 y6 c4]) := Lib.hid (by rw [hwB]; exact RowAt.made wk #[.int .i64 s2, .bool y4, .slice a3 y5 c3, .slice a4 y6 c4] 83)
          have HKB : Hid (Kept wk wB) := Lib.hid (by rw [hwB]; exact (Kept.refl wk).alloc _)
          have HWB := Lib.hid hwB
          have HNB : Hid (wk.heap.size ≠ w1.heap.size) := Lib.hid (by have := HSk.out.lt; omega)
          have HRB := Lib.hid (HRU.out.kept HKB.out)
          have HRA := Lib.hid (HRW.out.kept (HKk.out.trans HKB.out))
          clear hs2 hd hds hwB
          go_upto_region 11 with fail
          rw [← HWB.out]
          clear z0 z1 z2 z3
          obtain ⟨x0, x1, x2, x3⟩ := trm4_at (HXk.out.kept HKB.out)
          obtain ⟨v0, v1, v2, v3⟩ := trm4_at HXB.out
          have HCL0 : Hid ((fun W : World => W.cell? ⟨wi.heap.size, 0, none⟩ = some (.int .i64 s) ∧ W.cell? ⟨wi.heap.size, 1, none⟩ = some (.bool y1) ∧ W.cell? ⟨wi.heap.size, 2, none⟩ = some (.slice a1 y2 c1) ∧ W.cell? ⟨wi.heap.size, 3, none⟩ = some (.slice a2 y3 c2) ∧ W.cell? ⟨wk.heap.size, 0, none⟩ = some (.int .i64 s2) ∧ W.cell? ⟨wk.heap.size, 1, none⟩ = some (.bool y4) ∧ W.cell? ⟨wk.heap.size, 2, none⟩ = some (.slice a3 y5 c3) ∧ W.cell? ⟨wk.heap.size, 3, none⟩ = some (.slice a4 y6 c4)) wB.drew) := Lib.hid ⟨(Kept.refl wB).drew.cell x0, (Kept.refl wB).drew.cell x1, (Kept.refl wB).drew.cell x2, (Kept.refl wB).drew.cell x3, (Kept.refl wB).drew.cell v0, (Kept.refl wB).drew.cell v1, (Kept.refl wB).drew.cell v2, (Kept.refl wB).drew.cell v3⟩
          go_region_held3 (fun W => W.cell? ⟨wi.heap.size, 0, none⟩ = some (.int .i64 s) ∧ W.cell? ⟨wi.heap.size, 1, none⟩ = some (.bool y1) ∧ W.cell? ⟨wi.heap.size, 2, none⟩ = some (.slice a1 y2 c1) ∧ W.cell? ⟨wi.heap.size, 3, none⟩ = some (.slice a2 y3 c2) ∧ W.cell? ⟨wk.heap.size, 0, none⟩ = some (.int .i64 s2) ∧ W.cell? ⟨wk.heap.size, 1, none⟩ = some (.bool y4) ∧ W.cell? ⟨wk.heap.size, 2, none⟩ = some (.slice a3 y5 c3) ∧ W.cell? ⟨wk.heap.size, 3, none⟩ = some (.slice a4 y6 c4))
            (with_reducible first | exact HCL5.out | exact HCL4.out | exact HCL0.out)
            (first
            | (go_at_call 26; (with_reducible refine (HML.out _ _ _ (HRA.out.kept (Kept.refl _).drew) (HRB.out.kept (Kept.refl _).drew)).mono ?_); rintro e w4 ⟨⟨v4, rfl, hv4⟩, hk4⟩; have hkd := (Kept.refl wB).drew.trans hk4; have HV4 := Lib.hid hv4; have HKD := Lib.hid hkd; have HS4 := Lib.hid (HSk.out.kept (HKB.out.trans hkd)); have HCL4 : Hid ((fun W : World => W.cell? ⟨wi.heap.size, 0, none⟩ = some (.int .i64 s) ∧ W.cell? ⟨wi.heap.size, 1, none⟩ = some (.bool y1) ∧ W.cell? ⟨wi.heap.size, 2, none⟩ = some (.slice a1 y2 c1) ∧ W.cell? ⟨wi.heap.size, 3, none⟩ = some (.slice a2 y3 c2) ∧ W.cell? ⟨wk.heap.size, 0, none⟩ = some (.int .i64 s2) ∧ W.cell? ⟨wk.heap.size, 1, none⟩ = some (.bool y4) ∧ W.cell? ⟨wk.heap.size, 2, none⟩ = some (.slice a3 y5 c3) ∧ W.cell? ⟨wk.heap.size, 3, none⟩ = some (.slice a4 y6 c4)) w4) := Lib.hid ⟨hkd.cell x0, hkd.cell x1, hkd.cell x2, hkd.cell x3, hkd.cell v0, hkd.cell v1, hkd.cell v2, hkd.cell v3⟩; obtain ⟨_, _, _, _, _, _, _, rfl⟩ := hv4.parts; clear hk4 hv4 hkd)
            | (go_at_call 55; (with_reducible refine (HAD.out _ _ HS4.out HV4.out).mono ?_); rintro e w5 ⟨rfl, hs5, ho5⟩; have HS5 := Lib.hid hs5; have HX5 := Lib.hid (ho5.row (HXk.out.kept (HKB.out.trans HKD.out)) HGA.out); have HK5 := Lib.hid (ho5.toKept (HKk.out.trans (HKB.out.trans HKD.out)) HB.out); have HCL5 : Hid ((fun W : World => W.cell? ⟨wi.heap.size, 0, none⟩ = some (.int .i64 s) ∧ W.cell? ⟨wi.heap.size, 1, none⟩ = some (.bool y1) ∧ W.cell? ⟨wi.heap.size, 2, none⟩ = some (.slice a1 y2 c1) ∧ W.cell? ⟨wi.heap.size, 3, none⟩ = some (.slice a2 y3 c2) ∧ W.cell? ⟨wk.heap.size, 0, none⟩ = some (.int .i64 s2) ∧ W.cell? ⟨wk.heap.size, 1, none⟩ = some (.bool y4) ∧ W.cell? ⟨wk.heap.size, 2, none⟩ = some (.slice a3 y5 c3) ∧ W.cell? ⟨wk.heap.size, 3, none⟩ = some (.slice a4 y6 c4)) w5) := Lib.hid ⟨ho5.cell HGA.out (HKD.out.cell x0), ho5.cell HGA.out (HKD.out.cell x1), ho5.cell HGA.out (HKD.out.cell x2), ho5.cell HGA.out (HKD.out.cell x3), ho5.cell HNB.out (HKD.out.cell v0), ho5.cell HNB.out (HKD.out.cell v1), ho5.cell HNB.out (HKD.out.cell v2), ho5.cell HNB.out (HKD.out.cell v3)⟩; clear hs5 ho5))
          all_goals go_wp2_with fail
          all_goals go_roundg (m - (k + 1))
          all_goals first
            | (show _ < _; omega)
            | exact ⟨k + 1, by omega, by go_num, Nat.le_refl _, HS5, HX5, HK5⟩
        · have hkm : ¬ (k : Int) < (m : Int) := by omega
          have hke : k = q.length := by have := HM.out; omega
          have HSE : Hid (SumAt wk w1.heap.size (mulT (p.take (j + 1)) q)) := Lib.hid (by have h := HSk.out; rw [hke, List.take_length, ← HST.out] at h; exact h)
          clear hke
          go_wp2_with fail
          go_roundg (n - (j + 1))
          case measure => omega
          case rel => exact ⟨j + 1, by omega, by go_num, Nat.le_refl _, HSE, HKk⟩
    · have hjn : ¬ (j : Int) < (n : Int) := by omega
      have hje : j = p.length := by have := HN.out; omega
      have HSE : Hid (SumAt wi w1.heap.size (mulT p q)) := Lib.hid (by have h := HS.out; rw [hje, List.take_length] at h; exact h)
      clear hje
      have HTE : Hid (∀ W, SumAt W w1.heap.size (mulT p q) → Calls Tryz.prog 56 #[.map (some w1.heap.size)] W fun e w' => TRes w' e R ∧ Kept W w') := Lib.hid fun W h => by
        rw [HRE.out]
        exact sterms_step h HBT.out HSHT.out HLNT.out
      cases R with
      | none =>
        go_wp2_with fail
        refine (HTE.out _ HSE.out).mono ?_
        rintro e w9 ⟨he, hk9⟩
        have he : e = .returned (.tuple #[.slice none 0 0, .iface 50 (.int .i64 4)]) := he
        subst he
        go_wp2
        go_ret2
        exact ⟨rfl, HKr.out.trans hk9⟩
      | some r =>
        go_wp2_with fail
        refine (HTE.out _ HSE.out).mono ?_
        rintro e w9 ⟨⟨v9, rfl, hv9⟩, hk9⟩
        go_wp2
        go_ret2
        exact ⟨⟨_, rfl, hv9⟩, HKr.out.trans hk9⟩
end Go.Proofs.YtpaedhlacbpmpaaGreatDoor

/-
  Walks: Const, one, Event of polynomials.
-/
namespace Go.Proofs.YtpaedhlacbpmpaaGreatDoor
open Go.RowKit Go.Maps

theorem trms_one {w : World} {s : Int} {r : Rw} {u1 u2 : Value} (h1 : WdsAt w u1 r.num) (h2 : WdsAt w u2 r.den) : TrmsAt (w.alloc (.cells #[.int .i64 s, .bool r.neg, u1, u2] 83)) (.slice (some ⟨w.heap.size, 0, none⟩) 1 1) [(s, r)] := by
  have hk : Kept w (w.alloc (.cells #[.int .i64 s, .bool r.neg, u1, u2] 83)) := (Kept.refl _).alloc _
  refine ⟨some ⟨w.heap.size, 0, none⟩, 1, rfl, ⟨by simp, fun h => by cases h⟩, by simp, fun i hi => ?_⟩
  have hi0 : i = 0 := by simp at hi; omega
  subst hi0
  refine ⟨w.heap.size, 0, u1, u2, rfl, ?_, h1.kept hk, h2.kept hk⟩
  rw [Nat.zero_mul, Nat.add_zero]
  exact range_made4 w _ _ _ _ _
set_option maxRecDepth 100000 in
set_option maxHeartbeats 2000000 in
theorem pconst_any (cv : Value) (c : Rw) (w : World) (hc : RatAt w cv c) (hs : c.Short 34359738368) : Calls Tryz.prog 30 #[cv] w fun e w' => (∃ v', e = .returned v' ∧ TrmsAt w' v' (polT (constP (ratOf c)))) ∧ Kept w w' := by
  have HSG : Hid (∀ W u, RatAt W u c → Calls Tryz.prog 37 #[u] W fun e w' => e = .returned (.int .i64 (sgnR (ratOf c))) ∧ Kept W w') := Lib.hid fun W u hu => rsign_any u c W hu ⟨Nat.le_trans hs.1 (by omega), Nat.le_trans hs.2 (by omega)⟩
  have HAD : Hid (∀ W u, RatAt W u c → Calls Tryz.prog 24 #[u, .agg #[.bool false, .slice none 0 0, .slice none 0 0]] W fun e w' => (∃ v', e = .returned v' ∧ RatAt w' v' (canR (ratOf c))) ∧ Kept W w') := Lib.hid fun W u hu => by
    have h := radd_any u _ c (canR 0) W hu ⟨_, _, rfl, WdsAt.nil W, WdsAt.nil W⟩ ⟨Nat.le_trans hs.1 (by omega), Nat.le_trans hs.2 (by omega)⟩ ⟨by decide +kernel, by decide +kernel⟩
    rw [ratOf_can, Rat.add_zero] at h
    exact h
  obtain ⟨n1, l1, m1, a1, c1, a2, c2, w1, rfl, hw1, hcell, hk1, hr1, hz1⟩ := hc.box
  have HC := Lib.hid hcell
  have HR := Lib.hid hr1
  have HK1 := Lib.hid hk1
  have HW1 := Lib.hid hw1
  obtain ⟨S, hS⟩ : ∃ S, S = sgnR (ratOf c) := ⟨_, rfl⟩
  have HS0 : Hid (S = 0 ↔ ratOf c = 0) := Lib.hid (by rw [hS]; exact sgnR_zero)
  rw [← hS] at HSG
  clear hc hs hw1 hcell hk1 hr1 hz1 hS
  go_enter Tryz.func30, Tryz.ntmps30
  obtain ⟨p1, p2, p3, b1, d1, b2, d2, x0, x1, x2, hlx, HRX⟩ := HC.out.read
  rw [HW1.out] at x0 x1 x2
  go_wp2_with fail
  rw [← HW1.out]
  refine (HSG.out _ _ HRX.out).mono ?_
  rintro e w2 ⟨rfl, hk2⟩
  have HK2 := Lib.hid (HK1.out.trans hk2)
  by_cases hz : S = 0
  · have hzb : (S == 0) = true := by rw [hz]; rfl
    have HE : Hid (constP (ratOf c) = []) := Lib.hid (by unfold constP; rw [if_pos (HS0.out.1 hz)])
    clear x0 x1 x2 hk2
    go_wp2
    go_ret
    exact ⟨⟨_, rfl, by rw [HE.out]; exact TrmsAt.nil _⟩, HK2.out⟩
  · have hzb : (S == 0) = false := by rw [beq_eq_false_iff_ne]; exact hz
    have HE : Hid (constP (ratOf c) = [(0, ratOf c)]) := Lib.hid (by unfold constP; rw [if_neg (fun h => hz (HS0.out.2 h))])
    clear x0 x1 x2 hlx HRX
    obtain ⟨p1, p2, p3, b1, d1, b2, d2, x0, x1, x2, hlx, HRX⟩ := (HC.out.kept hk2).read
    clear hk2
    go_wp2_with fail
    refine (HAD.out _ _ HRX.out).mono ?_
    rintro e w3 ⟨⟨v3, rfl, hv3⟩, hk3⟩
    obtain ⟨u1, u2, rfl, h1, h2⟩ := hv3
    have HK3 := Lib.hid (HK2.out.trans hk3)
    have HT := Lib.hid (trms_one (s := 0) h1 h2)
    obtain ⟨a5, c5, rfl⟩ := h1.shape
    obtain ⟨a6, c6, rfl⟩ := h2.shape
    clear hk3 h1 h2 x0 x1 x2
    go_wp2
    go_ret
    exact ⟨⟨_, rfl, by rw [HE.out]; exact HT.out⟩, HK3.out.alloc _⟩
theorem one_short20 : (canR 1).Short 34359738368 := ⟨by decide +kernel, by decide +kernel⟩
set_option maxRecDepth 100000 in
theorem pone_any (w : World) : Calls Tryz.prog 140 #[] w fun e w' => (∃ v', e = .returned v' ∧ TrmsAt w' v' (polT oneP)) ∧ Kept w w' := by
  have HOF : Hid (Calls Tryz.prog 46 #[.int .i64 1] w fun e w' => (∃ v', e = .returned v' ∧ RatAt w' v' (canR 1)) ∧ Kept w w') := Lib.hid (rof_any 1 w (by omega) (by omega))
  have HCO : Hid (∀ W u, RatAt W u (canR 1) → Calls Tryz.prog 30 #[u] W fun e w' => (∃ v', e = .returned v' ∧ TrmsAt w' v' (polT oneP)) ∧ Kept W w') := Lib.hid fun W u hu => by
    have h := pconst_any u (canR 1) W hu one_short20
    rw [ratOf_can, ← one_const] at h
    exact h
  go_enter Tryz.func140, Tryz.ntmps140
  go_wp2_with fail
  refine HOF.out.mono ?_
  rintro e w1 ⟨⟨v1, rfl, hv1⟩, hk1⟩
  go_wp2_with fail
  refine (HCO.out _ _ hv1).mono ?_
  rintro e w2 ⟨⟨v2, rfl, hv2⟩, hk2⟩
  go_wp2
  go_ret
  exact ⟨⟨_, rfl, hv2⟩, hk1.trans hk2⟩
set_option maxRecDepth 100000 in
set_option maxHeartbeats 2000000 in
theorem pevent_any (i : Nat) (w : World) (hi : i < 24) : Calls Tryz.prog 29 #[.int .i64 i] w fun e w' => (∃ v', e = .returned (.tuple #[v', .nilIface]) ∧ TrmsAt w' v' (polT (eventP i))) ∧ Kept w w' := by
  have HOF : Hid (∀ W, Calls Tryz.prog 46 #[.int .i64 1] W fun e w' => (∃ v', e = .returned v' ∧ RatAt w' v' (canR 1)) ∧ Kept W w') := Lib.hid fun W => rof_any 1 W (by omega) (by omega)
  have hshl := (shl_mk i hi).1
  have hshl2 : IntKind.i64.wrap ((2 : Int) ^ i) = ((2 ^ i : Nat) : Int) := by
    have hq : ((2 : Int) ^ i) = ((2 ^ i : Nat) : Int) := by simp
    have hb : 2 ^ i < 2 ^ 24 := Nat.pow_lt_pow_right (by omega) hi
    rw [hq]
    generalize (2 : Nat) ^ i = z at hb ⊢
    rw [IntKind.wrap_i64]; omega
  unfold eventP
  obtain ⟨pw, hpw⟩ : ∃ pw, pw = 2 ^ i := ⟨_, rfl⟩
  rw [← hpw] at hshl hshl2 ⊢
  have hi0 : (0 : Int) ≤ (i : Int) := by omega
  have hi24 : (i : Int) < 24 := by omega
  clear hpw
  go_enter Tryz.func29, Tryz.ntmps29
  go_wp2_with fail
  go_region_with (go_at_call 46; (with_reducible refine (HOF.out _).mono ?_); rintro e w1 ⟨⟨v1, rfl, hv1⟩, hk1⟩; have HK1 : Hid (Kept w w1) := Lib.hid ((Kept.refl w).drew.trans hk1); obtain ⟨u1, u2, rfl, h1, h2⟩ := hv1; have HT := Lib.hid (trms_one (s := (pw : Nat)) h1 h2); obtain ⟨a5, c5, rfl⟩ := h1.shape; obtain ⟨a6, c6, rfl⟩ := h2.shape; clear hk1 h1 h2)
  all_goals go_wp2
  all_goals go_ret2
  all_goals exact ⟨⟨_, rfl, HT.out⟩, HK1.out.alloc _⟩
set_option maxRecDepth 100000 in
theorem pevent_err (i : Int) (w : World) (hi : i < 0 ∨ 24 ≤ i) : Calls Tryz.prog 29 #[.int .i64 i] w fun e w' => e = .returned (.tuple #[.slice none 0 0, errV 10]) ∧ Kept w w' := by
  by_cases h0 : i < 0
  · go_enter Tryz.func29, Tryz.ntmps29
    go_wp2
    go_ret2
    exact ⟨rfl, Kept.refl _⟩
  · have h24 : 24 ≤ i := by omega
    go_enter Tryz.func29, Tryz.ntmps29
    go_wp2
    go_ret2
    exact ⟨rfl, Kept.refl _⟩
end Go.Proofs.YtpaedhlacbpmpaaGreatDoor

/-
  Walks: work.do, work.not.
-/
namespace Go.Proofs.YtpaedhlacbpmpaaGreatDoor
open Go.RowKit Go.Maps

/-- The cell of the first error; no number lies in it. -/
def ErrAt (w : World) (g : Nat) (e : Bool) : Prop := RowAt w g 115 [errV (if e = true then 4 else 0)] ∧ FixAt w g [errV (if e = true then 4 else 0)]
theorem errV_no (e : Bool) : ∀ k x, Value.int k x ∉ [errV (if e = true then 4 else 0)] := fun k x h => by
  rw [List.mem_singleton] at h
  cases e
  · rw [if_neg (by simp), errV_zero] at h; cases h
  · rw [if_pos rfl, errV_pos (by decide)] at h; cases h
theorem ErrAt.kept {w w' : World} {g : Nat} {e : Bool} (h : ErrAt w g e) (hk : Kept w w') : ErrAt w' g e := ⟨h.1.kept hk, h.2.kept hk⟩
theorem TrmsAt.only {w w' : World} {v : Value} {ts : List Trm} {g : Nat} {row : List Value} (h : TrmsAt w v ts) (hr : FixAt w g row) (hn : ∀ k x, Value.int k x ∉ row) (ho : OnlyAt g w w') : TrmsAt w' v ts := by
  obtain ⟨a, c, h1, h2, h3, h4⟩ := h
  refine ⟨a, c, h1, h2, h3, fun i hi => ?_⟩
  obtain ⟨b, o, u1, u2, h5, h6, h7, h8⟩ := h4 i hi
  have hne : b ≠ g := fun e => by
    have h9 := h6 0 _ rfl
    rw [e] at h9
    exact hn _ _ (hr.only h9)
  exact ⟨b, o, u1, u2, h5, fun j v hj => ho.cell hne (h6 j v hj), h7.apart hr hn ho, h8.apart hr hn ho⟩
theorem TrmsAt.err {w w' : World} {v : Value} {ts : List Trm} {g : Nat} {e : Bool} (h : TrmsAt w v ts) (hr : ErrAt w g e) (ho : OnlyAt g w w') : TrmsAt w' v ts := h.only hr.2 (errV_no e) ho
/-- What an operation gives. -/
def doV (e : Bool) (r : Option Pol) : Pol := if e = true then [] else r.getD []
def doE (e : Bool) (r : Option Pol) : Bool := if e = true then true else r.isNone
set_option maxRecDepth 100000 in
theorem dadd_any (g : Nat) (e : Bool) (v u : Value) (p q : Pol) (w : World) (hg : ErrAt w g e) (hp : TrmsAt w v (polT p)) (hq : TrmsAt w u (polT q)) (ha : Acc p) (hb : Acc q) (hsp : ShP 1000 p) (hsq : ShP 1000 q) :
    Calls Tryz.prog 118 #[.pointer (some ⟨g, 0, none⟩), .func (.func 13) #[] #[], v, u] w fun en w' => (∃ v', en = .returned v' ∧ TrmsAt w' v' (polT (doV e (addO p q)))) ∧ ErrAt w' g (doE e (addO p q)) ∧ OnlyAt g w w' := by
  have HOP : Hid (∀ W, Kept w W → Calls Tryz.prog 13 #[v, u] W fun e w' => TRes w' e (addO p q) ∧ Kept W w') := Lib.hid fun W hk => padd_any v u p q W (hp.kept hk) (hq.kept hk) ha hb hsp hsq
  obtain ⟨R, hR⟩ : ∃ R, R = addO p q := ⟨_, rfl⟩
  rw [← hR] at HOP ⊢
  have HG := Lib.hid hg
  have x0 := hg.1.cell (i := 0) (by simp)
  simp only [List.getElem_cons_zero] at x0
  clear hR hp hq ha hb hsp hsq hg
  cases e with
  | true =>
    rw [if_pos rfl, errV_pos (by decide)] at x0
    go_enter Tryz.func118, Tryz.ntmps118
    go_wp2
    go_ret
    exact ⟨⟨_, rfl, TrmsAt.nil _⟩, HG.out, OnlyAt.refl _ _⟩
  | false =>
    rw [if_neg (by simp), errV_zero] at x0
    go_enter Tryz.func118, Tryz.ntmps118
    go_wp2_with fail
    refine (HOP.out _ (Kept.refl _)).mono ?_
    rintro en w1 ⟨hres, hk1⟩
    have HK1 := Lib.hid hk1
    have HG1 := Lib.hid (HG.out.kept hk1)
    have y0 := hk1.cell x0
    have yf := HG1.out.1.free 0
    cases R with
    | some r =>
      obtain ⟨v1, rfl, hv1⟩ := hres
      obtain ⟨a1, c1, rfl⟩ := hv1.shape
      have HV1 := Lib.hid hv1
      clear hk1 hv1
      go_wp2
      go_ret
      have ho : OnlyAt g w1 (w1.setCell ⟨g, 0, none⟩ .nilIface) := (OnlyAt.refl _ _).store 0 _
      exact ⟨⟨_, rfl, HV1.out.err HG1.out ho⟩, ⟨HG1.out.1.store 0 .nilIface, HG1.out.2.store 0 .nilIface⟩, (OnlyAt.kept HK1.out).trans ho⟩
    | none =>
      have hres : en = .returned (.tuple #[.slice none 0 0, errV 4]) := hres
      rw [errV_pos (by decide)] at hres
      subst hres
      clear hk1
      go_wp2
      go_ret
      have ho : OnlyAt g w1 (w1.setCell ⟨g, 0, none⟩ (.iface 50 (.int .i64 4))) := (OnlyAt.refl _ _).store 0 _
      exact ⟨⟨_, rfl, TrmsAt.nil _⟩, ⟨HG1.out.1.store 0 (.iface 50 (.int .i64 4)), HG1.out.2.store 0 (.iface 50 (.int .i64 4))⟩, (OnlyAt.kept HK1.out).trans ho⟩
set_option maxRecDepth 100000 in
theorem dsub_any (g : Nat) (e : Bool) (v u : Value) (p q : Pol) (w : World) (hg : ErrAt w g e) (hp : TrmsAt w v (polT p)) (hq : TrmsAt w u (polT q)) (ha : Acc p) (hb : Acc q) (hsp : ShP 1000 p) (hsq : ShP 1000 q) :
    Calls Tryz.prog 118 #[.pointer (some ⟨g, 0, none⟩), .func (.func 14) #[] #[], v, u] w fun en w' => (∃ v', en = .returned v' ∧ TrmsAt w' v' (polT (doV e (subO p q)))) ∧ ErrAt w' g (doE e (subO p q)) ∧ OnlyAt g w w' := by
  have HOP : Hid (∀ W, Kept w W → Calls Tryz.prog 14 #[v, u] W fun e w' => TRes w' e (subO p q) ∧ Kept W w') := Lib.hid fun W hk => psub_any v u p q W (hp.kept hk) (hq.kept hk) ha hb hsp hsq
  obtain ⟨R, hR⟩ : ∃ R, R = subO p q := ⟨_, rfl⟩
  rw [← hR] at HOP ⊢
  have HG := Lib.hid hg
  have x0 := hg.1.cell (i := 0) (by simp)
  simp only [List.getElem_cons_zero] at x0
  clear hR hp hq ha hb hsp hsq hg
  cases e with
  | true =>
    rw [if_pos rfl, errV_pos (by decide)] at x0
    go_enter Tryz.func118, Tryz.ntmps118
    go_wp2
    go_ret
    exact ⟨⟨_, rfl, TrmsAt.nil _⟩, HG.out, OnlyAt.refl _ _⟩
  | false =>
    rw [if_neg (by simp), errV_zero] at x0
    go_enter Tryz.func118, Tryz.ntmps118
    go_wp2_with fail
    refine (HOP.out _ (Kept.refl _)).mono ?_
    rintro en w1 ⟨hres, hk1⟩
    have HK1 := Lib.hid hk1
    have HG1 := Lib.hid (HG.out.kept hk1)
    have y0 := hk1.cell x0
    have yf := HG1.out.1.free 0
    cases R with
    | some r =>
      obtain ⟨v1, rfl, hv1⟩ := hres
      obtain ⟨a1, c1, rfl⟩ := hv1.shape
      have HV1 := Lib.hid hv1
      clear hk1 hv1
      go_wp2
      go_ret
      have ho : OnlyAt g w1 (w1.setCell ⟨g, 0, none⟩ .nilIface) := (OnlyAt.refl _ _).store 0 _
      exact ⟨⟨_, rfl, HV1.out.err HG1.out ho⟩, ⟨HG1.out.1.store 0 .nilIface, HG1.out.2.store 0 .nilIface⟩, (OnlyAt.kept HK1.out).trans ho⟩
    | none =>
      have hres : en = .returned (.tuple #[.slice none 0 0, errV 4]) := hres
      rw [errV_pos (by decide)] at hres
      subst hres
      clear hk1
      go_wp2
      go_ret
      have ho : OnlyAt g w1 (w1.setCell ⟨g, 0, none⟩ (.iface 50 (.int .i64 4))) := (OnlyAt.refl _ _).store 0 _
      exact ⟨⟨_, rfl, TrmsAt.nil _⟩, ⟨HG1.out.1.store 0 (.iface 50 (.int .i64 4)), HG1.out.2.store 0 (.iface 50 (.int .i64 4))⟩, (OnlyAt.kept HK1.out).trans ho⟩
set_option maxRecDepth 100000 in
theorem dmul_any (g : Nat) (e : Bool) (v u : Value) (p q : Pol) (w : World) (hg : ErrAt w g e) (hp : TrmsAt w v (polT p)) (hq : TrmsAt w u (polT q)) (ha : Acc p) (hb : Acc q) (hsp : ShP 1000 p) (hsq : ShP 1000 q) :
    Calls Tryz.prog 118 #[.pointer (some ⟨g, 0, none⟩), .func (.func 15) #[] #[], v, u] w fun en w' => (∃ v', en = .returned v' ∧ TrmsAt w' v' (polT (doV e (mulO p q)))) ∧ ErrAt w' g (doE e (mulO p q)) ∧ OnlyAt g w w' := by
  have HOP : Hid (∀ W, Kept w W → Calls Tryz.prog 15 #[v, u] W fun e w' => TRes w' e (mulO p q) ∧ Kept W w') := Lib.hid fun W hk => pmul_any v u p q W (hp.kept hk) (hq.kept hk) ha hb hsp hsq
  obtain ⟨R, hR⟩ : ∃ R, R = mulO p q := ⟨_, rfl⟩
  rw [← hR] at HOP ⊢
  have HG := Lib.hid hg
  have x0 := hg.1.cell (i := 0) (by simp)
  simp only [List.getElem_cons_zero] at x0
  clear hR hp hq ha hb hsp hsq hg
  cases e with
  | true =>
    rw [if_pos rfl, errV_pos (by decide)] at x0
    go_enter Tryz.func118, Tryz.ntmps118
    go_wp2
    go_ret
    exact ⟨⟨_, rfl, TrmsAt.nil _⟩, HG.out, OnlyAt.refl _ _⟩
  | false =>
    rw [if_neg (by simp), errV_zero] at x0
    go_enter Tryz.func118, Tryz.ntmps118
    go_wp2_with fail
    refine (HOP.out _ (Kept.refl _)).mono ?_
    rintro en w1 ⟨hres, hk1⟩
    have HK1 := Lib.hid hk1
    have HG1 := Lib.hid (HG.out.kept hk1)
    have y0 := hk1.cell x0
    have yf := HG1.out.1.free 0
    cases R with
    | some r =>
      obtain ⟨v1, rfl, hv1⟩ := hres
      obtain ⟨a1, c1, rfl⟩ := hv1.shape
      have HV1 := Lib.hid hv1
      clear hk1 hv1
      go_wp2
      go_ret
      have ho : OnlyAt g w1 (w1.setCell ⟨g, 0, none⟩ .nilIface) := (OnlyAt.refl _ _).store 0 _
      exact ⟨⟨_, rfl, HV1.out.err HG1.out ho⟩, ⟨HG1.out.1.store 0 .nilIface, HG1.out.2.store 0 .nilIface⟩, (OnlyAt.kept HK1.out).trans ho⟩
    | none =>
      have hres : en = .returned (.tuple #[.slice none 0 0, errV 4]) := hres
      rw [errV_pos (by decide)] at hres
      subst hres
      clear hk1
      go_wp2
      go_ret
      have ho : OnlyAt g w1 (w1.setCell ⟨g, 0, none⟩ (.iface 50 (.int .i64 4))) := (OnlyAt.refl _ _).store 0 _
      exact ⟨⟨_, rfl, TrmsAt.nil _⟩, ⟨HG1.out.1.store 0 (.iface 50 (.int .i64 4)), HG1.out.2.store 0 (.iface 50 (.int .i64 4))⟩, (OnlyAt.kept HK1.out).trans ho⟩
end Go.Proofs.YtpaedhlacbpmpaaGreatDoor

/-
  Slices of polynomials of the call's own. Printed by gen_PD6.py.
-/
namespace Go.Proofs.YtpaedhlacbpmpaaGreatDoor
open Go.RowKit

/-- A cell that is no number. -/
def NotI (u : Value) : Prop := ∀ k x, u ≠ .int k x
/-- No cell of block g is a number. -/
def NoI (w : World) (g : Nat) : Prop := ∀ cur e fr, w.heap[g]? = some (.cells cur e fr) → ∀ u ∈ cur.toList, NotI u
theorem noI_of {w : World} {g : Nat} {cur : Array Value} {e : TypeId} {fr : Nat × Nat} (h : w.heap[g]? = some (.cells cur e fr)) (hc : ∀ u ∈ cur.toList, NotI u) : NoI w g := by
  intro c e2 f2 h2
  rw [h] at h2
  cases h2
  exact hc
theorem noI_new (w : World) (cs : Array Value) (e : TypeId) (hc : ∀ u ∈ cs.toList, NotI u) : NoI (w.alloc (.cells cs e)) w.heap.size := noI_of (heap_alloc_new w _) hc
theorem NoI.same {w w' : World} {g : Nat} (h : NoI w g) (hk : w'.heap[g]? = w.heap[g]?) : NoI w' g := fun cur e fr h2 => h cur e fr (by rw [← hk]; exact h2)
theorem NoI.cell {w : World} {g i : Nat} {u : Value} (h : NoI w g) (hc : w.cell? ⟨g, i, none⟩ = some u) : NotI u := by
  simp only [World.cell?] at hc
  cases hg : w.heap[g]? with
  | none => rw [hg] at hc; simp at hc
  | some o =>
    cases o with
    | cells cur e fr =>
      rw [hg] at hc
      simp only at hc
      exact h cur e fr hg u (by
        have := Array.getElem?_eq_some_iff.1 hc
        obtain ⟨h1, h2⟩ := this
        rw [← h2]
        exact Array.mem_toList_iff.2 (Array.getElem_mem h1))
    | _ => rw [hg] at hc; simp at hc
/-- append to a row of the call's own whose block holds no word: neither does the new one. -/
theorem run_append_noI {P : Program} (w : World) (base : Nat) (t ty e : TypeId) (i : TypeInfo) (z : Value) (size bytes : Nat) (ht : P.underlying t = some (.slice e)) (hi : P.info? e = some i) (hz : i.zero = some z)
    (hsize : i.size = size) (hby : i.bytes = bytes) (hzs : z.cells.size = size) (hsz : 0 < size)
    (v : Value) (n : Nat) (xs : List Value) (hown : w.ownsRow base e size v n xs)
    (a : Addr) (m c : Nat) (news : List Value) (hl : news.length = m * size) (hnews : ∀ j u, news[j]? = some u → w.cell? (a.add j) = some u) (h1 : ∀ u ∈ news, u.oneCell' = true)
    (h63 : n + m ≤ maxLen) (hbytes : (n + m) * bytes ≤ 140737488355328) (hbase : base ≤ w.heap.size)
    (hno : ∀ g, v.ownBlock = some g → NoI w g) (hnw : ∀ u ∈ news, NotI u) (hzw : ∀ u ∈ z.cells.toList, NotI u) :
    ∃ v' w', (Builtin.append_ #[t, t] ty #[v, .slice (some a) m c]).run P w = .ok v' w' ∧ w'.ownsRow base e size v' (n + m) (xs ++ news) ∧ w.grownBy w' v.ownBlock ∧ ∀ g, v'.ownBlock = some g → NoI w' g := by
  obtain ⟨v', w', hr, h2, h3, h4⟩ := run_append_own (P := P) w base t ty e i z size bytes ht hi hz hsize hby hzs hsz v n xs hown a m c news hl hnews h1 h63 hbytes hbase
  refine ⟨v', w', hr, h2, h3, ?_⟩
  subst hsize
  subst hby
  have hsmall : n + m ≤ 9223372036854775807 := by simp only [maxLen] at h63; omega
  intro k hk
  rcases hown.2 with ⟨rfl, rfl⟩ | ⟨g, cap, cur, rfl, hbg, hg, hnc, hcm, hcs, htake⟩
  · have hx : xs = [] := List.eq_nil_of_length_eq_zero (by simpa using hown.1)
    subst hx
    by_cases hm : m = 0
    · subst hm
      have := h4.2 ⟨rfl, rfl⟩
      subst this
      simp [Value.ownBlock] at hk
    · have hr2 := run_append_nil (P := P) w t ty e i z ht hi hz a m c news hl hnews (by omega) (by omega) (by have hb := hbytes; simp only [Nat.zero_add] at hb; omega)
      have e1 := hr.symm.trans hr2
      injection e1 with e2 e3
      subst e2 e3
      simp only [Value.ownBlock, Option.some.injEq] at hk
      subst hk
      refine noI_of (cur := news.toArray ++ Builtin.zeroCells z.cells (grownCap w m 0 e - m)) (e := e) (fr := (0, 0)) (by have := heap_alloc_new w.drew (.cells (news.toArray ++ Builtin.zeroCells z.cells (grownCap w m 0 e - m)) e); exact this) fun u hu => ?_
      rw [Array.toList_append] at hu
      rcases List.mem_append.1 hu with hu | hu
      · exact hnw u (by simpa using hu)
      · exact hzw u (mem_zeroCells hu)
  · have hno2 := hno g (by simp [Value.ownBlock]) cur e (0, 0) hg
    by_cases hroom : n + m ≤ cap
    · have hfit : n * i.size + news.length ≤ cur.size := by rw [hl, hcs, ← Nat.add_mul]; exact Nat.mul_le_mul_right _ hroom
      have hr2 := run_append_room (P := P) w t ty e i ht hi g n cap cur hg a m c news hl hnews h1 hroom hfit
      have e1 := hr.symm.trans hr2
      injection e1 with e2 e3
      subst e2 e3
      simp only [Value.ownBlock, Option.some.injEq] at hk
      subst hk
      refine noI_of (setRow_heap w g cur _ e _ hg) fun u hu => ?_
      rcases List.mem_append.1 hu with hu | hu
      · rcases List.mem_append.1 hu with hu | hu
        · exact hno2 u (List.mem_of_mem_take hu)
        · exact hnw u hu
      · exact hno2 u (List.mem_of_mem_drop hu)
    · have holds : ∀ j u, xs[j]? = some u → w.cell? ((⟨g, 0, none⟩ : Addr).add j) = some u := hown.cells (g := g) rfl
      have hr2 := run_append_grow (P := P) w t ty e i z ht hi hz ⟨g, 0, none⟩ n cap xs hown.1 holds a m c news hl hnews (by omega) (by omega) (growslice_fits (by omega) hbytes)
      have e1 := hr.symm.trans hr2
      injection e1 with e2 e3
      subst e2 e3
      simp only [Value.ownBlock, Option.some.injEq] at hk
      subst hk
      refine noI_of (heap_alloc_new w.drew _) fun u hu => ?_
      rw [Array.toList_append, Array.toList_append] at hu
      rcases List.mem_append.1 hu with hu | hu
      · rcases List.mem_append.1 hu with hu | hu
        · have hu : u ∈ xs := by simpa using hu
          rw [← htake] at hu
          exact hno2 u (List.mem_of_mem_take hu)
        · exact hnw u (by simpa using hu)
      · exact hzw u (mem_zeroCells hu)
theorem wp_append_noI {P : Program} {o : Oper} {a : Act} {K : Act → World → Prop} {Q : Exit → Act → World → Prop} (w : World) (s x : Operand) (t : TypeId)
    (ho : o.op = .call { callee := .builtin .append, args := #[s, x], argTypes := #[t, t] })
    (base : Nat) (e : TypeId) (i : TypeInfo) (z : Value) (size bytes : Nat) (ht : P.underlying t = some (.slice e)) (hi : P.info? e = some i) (hz : i.zero = some z)
    (hsize : i.size = size) (hby : i.bytes = bytes) (hzs : z.cells.size = size) (hsz : 0 < size)
    (v : Value) (n : Nat) (xs : List Value) (hs : a.eval s = v) (hown : w.ownsRow base e size v n xs)
    (ad : Addr) (m c : Nat) (news : List Value) (hx : a.eval x = .slice (some ad) m c) (hl : news.length = m * size) (hnews : ∀ j u, news[j]? = some u → w.cell? (ad.add j) = some u) (h1 : ∀ u ∈ news, u.oneCell' = true)
    (h63 : n + m ≤ maxLen) (hbytes : (n + m) * bytes ≤ 140737488355328) (hbase : base ≤ w.heap.size)
    (hno : ∀ g, v.ownBlock = some g → NoI w g) (hnw : ∀ u ∈ news, NotI u) (hzw : ∀ u ∈ z.cells.toList, NotI u)
    (h : ∀ v' w', w'.ownsRow base e size v' (n + m) (xs ++ news) → w.grownBy w' v.ownBlock → (∀ g, v'.ownBlock = some g → NoI w' g) → K (a.put o.dst v') w') : o.wp P a w K Q := by
  obtain ⟨v', w', hr, h2, h3, h4⟩ := run_append_noI (P := P) w base t o.type e i z size bytes ht hi hz hsize hby hzs hsz v n xs hown ad m c news hl hnews h1 h63 hbytes hbase hno hnw hzw
  unfold Oper.wp execOp
  simp only [ho, resolve, invoke, builtin, Sem.run_bind, Sem.run_pure, Result.andThen_ok, List.map_toArray, List.map_cons, List.map_nil, hs, hx, hr]
  exact h v' w' h2 h3 h4

theorem noI_kept {w w' : World} {B n : Nat} {e : TypeId} {s : Nat} {v : Value} {xs : List Value} (h : w.ownsRow B e s v n xs) (hn : ∀ g, v.ownBlock = some g → NoI w g) (hk : Kept w w') : ∀ g, v.ownBlock = some g → NoI w' g :=
  fun g hg => (hn g hg).same (hk.block g (h.lt g hg).2)
theorem NoI.store {w : World} {g i : Nat} {u : Value} (h : NoI w g) (hu : NotI u) : NoI (w.setCell ⟨g, i, none⟩ u) g := by
  intro cur e fr h2 x hx
  cases hg : w.heap[g]? with
  | none => simp [World.setCell, Array.getElem?_modify, hg] at h2
  | some o =>
    cases o with
    | cells c e2 f2 =>
      simp [World.setCell, Array.getElem?_modify, hg] at h2
      obtain ⟨rfl, _, _⟩ := h2
      rw [Array.toList_setIfInBounds] at hx
      rcases List.mem_or_eq_of_mem_set hx with h3 | h3
      · exact h c e2 f2 hg x h3
      · rw [h3]; exact hu
    | _ => simp [World.setCell, Array.getElem?_modify, hg] at h2
theorem TrmsAt.noI {w w' : World} {v : Value} {ts : List Trm} {g : Option Nat} (h : TrmsAt w v ts) (hr : ∀ k, g = some k → NoI w k) (ho : ∀ k, k < w.heap.size → some k ≠ g → w'.heap[k]? = w.heap[k]?) : TrmsAt w' v ts := by
  have hn : ∀ k, g = some k → NoW w k := fun k hk cur e fr h2 u hu x => hr k hk cur e fr h2 u hu _ x
  obtain ⟨a, c, h1, h2, h3, h4⟩ := h
  refine ⟨a, c, h1, h2, h3, fun i hi => ?_⟩
  obtain ⟨b, o, u1, u2, h5, h6, h7, h8⟩ := h4 i hi
  have h9 := h6 0 _ rfl
  have hne : some b ≠ g := fun e => (hr b e.symm).cell h9 _ _ rfl
  have hlt : b < w.heap.size := by
    rcases Nat.lt_or_ge b w.heap.size with h10 | h10
    · exact h10
    · simp [World.cell?, Array.getElem?_eq_none h10] at h9
  refine ⟨b, o, u1, u2, h5, fun j v hj => ?_, h7.only hn ho, h8.only hn ho⟩
  have h10 := h6 j v hj
  simp only [World.cell?, ho b hlt hne] at h10 ⊢
  exact h10
/-- Polynomials of the call's own, in a slice. -/
def OwnPols (w : World) (B : Nat) (v : Value) (ps : List Pol) : Prop :=
  ∃ us : List Value, us.length = ps.length ∧ w.ownsRow B 22 1 v ps.length us ∧ ps.length ≤ 1000000 ∧ (∀ g, v.ownBlock = some g → NoI w g) ∧ ∀ i (h : i < us.length) (h' : i < ps.length), TrmsAt w us[i] (polT ps[i])
theorem OwnPols.kept {w w' : World} {B : Nat} {v : Value} {ps : List Pol} (h : OwnPols w B v ps) (hk : Kept w w') : OwnPols w' B v ps := by
  obtain ⟨us, h1, h2, h3, h4, h5⟩ := h
  exact ⟨us, h1, own_kept h2 hk, h3, noI_kept h2 h4 hk, fun i h h' => (h5 i h h').kept hk⟩
theorem OwnPols.mono {w : World} {B B' : Nat} {v : Value} {ps : List Pol} (h : OwnPols w B v ps) (hb : B' ≤ B) : OwnPols w B' v ps := by
  obtain ⟨us, h1, h2, h3⟩ := h
  exact ⟨us, h1, own_mono h2 hb, h3⟩
theorem OwnPols.nil (w : World) (B : Nat) : OwnPols w B (.slice none 0 0) [] := ⟨[], rfl, World.ownsRow_nil _ _ _ _, by simp, (fun g hg => by simp [Value.ownBlock] at hg), fun i h => by simp at h⟩
theorem TrmsAt.notI {w : World} {v : Value} {ts : List Trm} (h : TrmsAt w v ts) : NotI v := fun k x e => by
  obtain ⟨a, c, rfl⟩ := h.shape
  cases e
theorem OwnPols.one {w : World} {B : Nat} {u : Value} {p : Pol} (hu : TrmsAt w u (polT p)) (hB : B ≤ w.heap.size) : OwnPols (w.alloc (.cells #[u] 22)) B (.slice (some ⟨w.heap.size, 0, none⟩) 1 1) [p] :=
  ⟨[u], rfl, ⟨by simp, .inr ⟨w.heap.size, 1, #[u], rfl, hB, heap_alloc_new w _, Nat.le_refl _, by unfold maxLen; omega, by simp, by simp⟩⟩, by simp, (fun g hg => by
    simp only [Value.ownBlock, Option.some.injEq] at hg
    subst hg
    exact noI_new w _ _ fun x hx => by
      have : x = u := by simpa using hx
      rw [this]; exact hu.notI), fun i h h' => by
    have e : i = 0 := by simp at h; omega
    subst e
    exact hu.kept ((Kept.refl _).alloc _)⟩
theorem OwnPols.store {w : World} {B g n cap : Nat} {ps : List Pol} (h : OwnPols w B (.slice (some ⟨g, 0, none⟩) n cap) ps) (hn : n = ps.length) (i : Nat) {u : Value} {p : Pol} (hu : TrmsAt w u (polT p)) :
    OwnPols (w.setCell ⟨g, i, none⟩ u) B (.slice (some ⟨g, 0, none⟩) n cap) (ps.set i p) := by
  obtain ⟨us, h1, h2, h3, h4, h6⟩ := h
  subst hn
  have h5 := h2.stored i u
  have hg : ∀ k, k < w.heap.size → some k ≠ some g → (w.setCell ⟨g, i, none⟩ u).heap[k]? = w.heap[k]? := fun k hk hne => h5.2.block k hk hne
  have hr : ∀ k, some g = some k → NoI w k := fun k hk => h4 k hk
  refine ⟨us.set i u, by simp [h1], by simpa using h5.1, by simpa using h3, fun k hk => ?_, fun j hj hj' => ?_⟩
  · simp only [Value.ownBlock, Option.some.injEq] at hk
    subst hk
    exact (hr _ rfl).store hu.notI
  · by_cases e : i = j
    · subst e
      rw [List.getElem_set_self, List.getElem_set_self]
      exact hu.noI hr hg
    · rw [List.getElem_set_ne e, List.getElem_set_ne e]
      exact (h6 j (by simpa using hj) (by simpa using hj')).noI hr hg
theorem info_pol : (Tryz.prog.info? 22).map (fun i => (i.zero, i.size, i.bytes)) = some (some (.slice none 0 0), 1, 24) := by kernel_rfl
theorem zero_pol : ∀ u ∈ (Value.slice none 0 0).cells.toList, NotI u := fun u hu k x e => by
  have h : u = .slice none 0 0 := by simpa [Value.cells] using hu
  rw [h] at e; cases e
theorem make_pol {ops : Array Oper} {rest : List Oper} {o : Oper} {a : Act} {Q : Exit → Act → World → Prop} {w : World} (hg : o.guard = none) (l c : Operand)
    (hop : o.op = Op.makeSlice 85 l c) (n : Nat) (hl : a.eval l = .int .i64 n) (hc : a.eval c = .int .i64 n) (hb : n ≤ 1000000)
    (hK : ∀ w', OwnPols w' w.heap.size (.slice (some ⟨w.heap.size, 0, none⟩) n n) (List.replicate n []) → Kept w w' → w.heap.size < w'.heap.size → wpList Tryz.prog ops Q rest (a.put o.dst (.slice (some ⟨w.heap.size, 0, none⟩) n n)) w') : wpList Tryz.prog ops Q (o :: rest) a w := by
  obtain ⟨i0, hi0, hz0, hz1, hz2⟩ := info_parts info_pol
  refine wpList_make_full w hg l c 85 hop w.heap.size 22 i0 _ 1 Tryz.underlying85 hi0 hz0 hz1 .i64 .i64 _ _ n hl hc rfl rfl (by rw [hz2]; omega) (by unfold maxLen; omega) (Nat.le_refl _) ?_
  intro w' h1 h2
  rw [made_one _ rfl n] at h1
  refine hK w' ⟨List.replicate n (.slice none 0 0), by simp, by simpa using h1, by simpa using hb, fun k hk => ?_, fun i h h' => by simp; exact TrmsAt.nil _⟩ ⟨h2.os, h2.tape, h2.output, h2.size, fun k hk => h2.block k hk (by simp)⟩ ?_
  · obtain ⟨_, h7⟩ := h1
    rcases h7 with ⟨h8, _⟩ | ⟨g', cap', cur, h8, _, h9, h10, h11, h12, h13⟩
    · cases h8
    · cases h8
      simp only [Value.ownBlock, Option.some.injEq] at hk
      subst hk
      refine noI_of h9 fun u hu k x e => ?_
      rw [← List.take_of_length_le (l := cur.toList) (i := n * 1) (by simp [h12])] at hu
      rw [h13] at hu
      rw [(List.mem_replicate.1 hu).2] at e
      cases e
  · exact (h1.lt _ rfl).2
theorem OwnPols.cell {w : World} {B g n cap : Nat} {ps : List Pol} (h : OwnPols w B (.slice (some ⟨g, 0, none⟩) n cap) ps) (i : Nat) (hi : i < ps.length) : ∃ u, w.cell? ⟨g, i, none⟩ = some u ∧ TrmsAt w u (polT ps[i]) := by
  obtain ⟨us, h1, h2, h3, _, h4⟩ := h
  refine ⟨us[i]'(by omega), ?_, h4 i (by omega) hi⟩
  obtain ⟨h5, h6⟩ := h2
  rcases h6 with ⟨h6, _⟩ | ⟨g', cap', cur, h6, _, h7, h8, h9, h10, h11⟩
  · cases h6
  · cases h6
    have e1 : (cur.toList.take (ps.length * 1))[i]? = us[i]? := by rw [h11]
    rw [List.getElem?_take_of_lt (by omega)] at e1
    simp only [World.cell?, h7]
    simpa [h1, hi] using e1
theorem OwnPols.free {w : World} {B g n cap : Nat} {ps : List Pol} (h : OwnPols w B (.slice (some ⟨g, 0, none⟩) n cap) ps) (i : Nat) : w.frozen? ⟨g, i, none⟩ = false := by
  obtain ⟨us, h1, ⟨h2, h3⟩, _⟩ := h
  rcases h3 with ⟨h3, _⟩ | ⟨g', cap', cur, h3, _, h4, _⟩
  · cases h3
  · cases h3
    simp [World.frozen?, h4]
theorem OwnPols.shape {w : World} {B : Nat} {v : Value} {ps : List Pol} (h : OwnPols w B v ps) (h0 : ps ≠ []) : ∃ g cap, v = .slice (some ⟨g, 0, none⟩) ps.length cap ∧ B ≤ g ∧ g < w.heap.size ∧ ps.length ≤ cap := by
  obtain ⟨us, h1, ⟨h2, h3⟩, _⟩ := h
  rcases h3 with ⟨_, h3⟩ | ⟨g, cap, cur, rfl, h4, h5, h6, _⟩
  · exact absurd (List.eq_nil_of_length_eq_zero h3) h0
  · exact ⟨g, cap, rfl, h4, heap_lt h5, h6⟩
/-- Own polynomials stay when the cell of the first error is written. -/
theorem OwnPols.err {w w' : World} {B g : Nat} {v : Value} {ps : List Pol} {e : Bool} (h : OwnPols w B v ps) (hr : ErrAt w g e) (ho : OnlyAt g w w') : OwnPols w' B v ps := by
  obtain ⟨us, h1, h2, h3, h4, h5⟩ := h
  have hne : ∀ k, v.ownBlock = some k → k ≠ g := fun k hk e => by
    subst e
    obtain ⟨cur, h6, _⟩ := hr.1
    obtain ⟨_, ⟨rfl, _⟩ | ⟨g2, cap2, cur2, rfl, _, h8, _⟩⟩ := h2
    · cases hk
    · cases hk
      rw [h6] at h8
      cases h8
  refine ⟨us, h1, ?_, h3, fun k hk => (h4 k hk).same (ho.block k (h2.lt k hk).2 (hne k hk)), fun i h h' => (h5 i h h').err hr ho⟩
  obtain ⟨h6, h7⟩ := h2
  refine ⟨h6, h7.imp id ?_⟩
  rintro ⟨k, cap, cur, rfl, h8, h9, h10⟩
  exact ⟨k, cap, cur, rfl, h8, (ho.block k (heap_lt h9) (hne k rfl)).trans h9, h10⟩
/-- append of one polynomial. -/
theorem app_pol {ops : Array Oper} {rest : List Oper} {o : Oper} {a : Act} {Q : Exit → Act → World → Prop} {w : World} (hgd : o.guard = none) (s x : Operand)
    (ho : o.op = .call { callee := .builtin .append, args := #[s, x], argTypes := #[85, 85] }) (B : Nat) (v : Value) (ps : List Pol) (hs : a.eval s = v) (hown : OwnPols w B v ps)
    (ad : Addr) (u : Value) (p : Pol) (hx : a.eval x = .slice (some ad) 1 1) (hc : w.cell? ad = some u) (hu : TrmsAt w u (polT p)) (hl : ps.length < 1000000) (hB : B ≤ w.heap.size)
    (h : ∀ v' w', OwnPols w' B v' (ps ++ [p]) → w.grownBy w' v.ownBlock → Below B w w' → wpList Tryz.prog ops Q rest (a.put o.dst v') w') : wpList Tryz.prog ops Q (o :: rest) a w := by
  obtain ⟨i0, hi0, hz0, hz1, hz2⟩ := info_parts info_pol
  obtain ⟨us, h1, h2, h3, h4, h5⟩ := hown
  obtain ⟨ua, uc, rfl⟩ := hu.shape
  refine wpList_plain hgd fun _ hK => wp_append_noI w s x 85 ho B 22 i0 _ 1 24 Tryz.underlying85 hi0 hz0 hz1 hz2 rfl (by decide) v ps.length _ hs h2 ad 1 1 [.slice ua (polT p).length uc] hx (by simp) ?_ (fun u hu => by rw [List.mem_singleton] at hu; rw [hu]; rfl) (by simp [maxLen]; omega) (by omega) hB h4 (fun u hu k x e => by rw [List.mem_singleton] at hu; rw [hu] at e; cases e) zero_pol ?_
  · intro j u hj
    match j, hj with
    | 0, hj =>
      have : Value.slice ua (polT p).length uc = u := by simpa using hj
      rw [← this, show ad.add 0 = ad by unfold Addr.add; split <;> simp_all]
      exact hc
  · intro v' w' h6 h7 h8
    refine hK _ _ (h v' w' ⟨us ++ [.slice ua (polT p).length uc], by simp [h1], by simpa [h1] using h6, by simp; omega, h8, ?_⟩ h7 (grown_below h7 h2 hB))
    intro i hi hi'
    by_cases hik : i < us.length
    · rw [List.getElem_append_left hik, List.getElem_append_left (by omega)]
      exact (h5 i hik (by omega)).noI h4 (fun k hk hne => h7.block k hk hne)
    · have e : i = us.length := by simp at hi; omega
      subst e
      rw [List.getElem_append_right (Nat.le_refl _), List.getElem_append_right (by omega)]
      simp only [Nat.sub_self, h1, List.getElem_cons_zero]
      exact hu.noI h4 (fun k hk hne => h7.block k hk hne)
end Go.Proofs.YtpaedhlacbpmpaaGreatDoor

/-
  Plain: the polynomials of a formula have the values of its nodes.
-/
namespace Go.Proofs.YtpaedhlacbpmpaaGreatDoor

/-- The polynomial of a node from those of its arguments. -/
def nodeP (kind k : Int) (args : List Pol) : Option Pol :=
  if kind = 0 then some (constP (k : Rat)) else if kind = 1 then notO (args.getD 0 []) else if kind = 2 then foldO mulO (args.getD 0 []) args.tail
  else if kind = 3 then (notO (args.getD 0 [])).bind fun n => (foldO mulN n args.tail).bind notO
  else if kind = 4 then voteP k.toNat args else foldO xorO (args.getD 0 []) args.tail
def argP (V : Nat) (out : List Pol) (a : Int) : Pol := if a < V then eventP a.toNat else out.getD (a - V).toNat []
def polStep (V : Nat) (mark : List Bool) (nodes : List Nd) (k : Nat) (out : List Pol) : Option (List Pol) :=
  if mark.getD (V + k) false = true then (nodeP (nodes.getD k noNd).kind (nodes.getD k noNd).k ((nodes.getD k noNd).args.map (argP V out))).map fun p => out ++ [p] else some (out ++ [[]])
def polUp (V : Nat) (mark : List Bool) (nodes : List Nd) : Nat → Option (List Pol)
  | 0 => some []
  | k + 1 => (polUp V mark nodes k).bind (polStep V mark nodes k)
theorem len_polUp (V : Nat) (mark : List Bool) (nodes : List Nd) : ∀ k out, polUp V mark nodes k = some out → out.length = k := by
  intro k
  induction k with
  | zero => intro out h; cases h; rfl
  | succ k ih =>
    intro out h
    obtain ⟨o, h1, h2⟩ := Option.bind_eq_some_iff.1 h
    unfold polStep at h2
    split at h2
    · obtain ⟨p, _, h4⟩ := Option.map_eq_some_iff.1 h2
      rw [← h4, List.length_append, ih o h1]; rfl
    · cases h2; rw [List.length_append, ih o h1]; rfl
theorem PolV.event {i : Nat} (hi : i < 24) : PolV (eventP i) (fun s => s.testBit i) := by
  have hv : ∀ s, valP (eventP i) s = ind (s.testBit i) := fun s => by
    show (1 : Rat) * ind (subN (2 ^ i) s) + 0 = _
    rw [pow_sub]; grind
  refine ⟨⟨List.pairwise_singleton .., fun u hu => ?_⟩, by simp [eventP], fun t ht => ?_, hv⟩
  · unfold eventP at hu; rw [List.mem_singleton] at hu; rw [hu]; show (1 : Rat) ≠ 0; decide
  · unfold eventP at ht; rw [List.mem_singleton] at ht; rw [ht]
    show 2 ^ i < 16777216
    have : 2 ^ i < 2 ^ 24 := Nat.pow_lt_pow_right (by decide) hi
    exact this
theorem fold_and (l : List Bool) : ∀ b, l.foldl (fun a b => a && b) b = (b && decide (cntB l = l.length)) := by
  have hle : ∀ l : List Bool, cntB l ≤ l.length := by
    intro l
    induction l with
    | nil => exact Nat.le_refl _
    | cons x l ih => unfold cntB; rw [List.length_cons]; split <;> omega
  induction l with
  | nil => intro b; simp [cntB]
  | cons x l ih =>
    intro b
    rw [List.foldl_cons, ih]
    have := hle l
    cases x <;> cases b <;> simp [cntB] <;> omega
theorem fold_nor (l : List Bool) : ∀ b, l.foldl (fun a b => a && !b) b = (b && decide (cntB l = 0)) := by
  induction l with
  | nil => intro b; simp [cntB]
  | cons x l ih =>
    intro b
    rw [List.foldl_cons, ih]
    cases x <;> cases b <;> simp [cntB]
theorem fold_xor (l : List Bool) : ∀ b, l.foldl (fun a b => a != b) b = (b != (cntB l % 2 == 1)) := by
  induction l with
  | nil => intro b; simp [cntB]
  | cons x l ih =>
    intro b
    rw [List.foldl_cons, ih]
    cases x
    · simp [cntB]
    · rcases Nat.mod_two_eq_zero_or_one (cntB l) with h | h
      · have e : (1 + cntB l) % 2 = 1 := by omega
        simp [cntB, h, e]
      · have e : (1 + cntB l) % 2 = 0 := by omega
        simp [cntB, h, e]
theorem PolV.mulN {p a r : Pol} {b c : Nat → Bool} (h : PolV p b) (k : PolV a c) (hr : Go.Proofs.YtpaedhlacbpmpaaGreatDoor.mulN p a = some r) : PolV r (fun s => b s && !c s) := by
  obtain ⟨n, hn, hr⟩ := Option.bind_eq_some_iff.1 hr
  exact h.mul (k.not hn) hr
/-- The polynomial of a node has the value of the node. -/
theorem node_v {kind k : Int} {args : List Pol} {vs : Nat → List Bool} {r : Pol} (ha : argsOk kind args.length = true) (hc : chkK kind k args.length = 0) (hl : ∀ s, (vs s).length = args.length)
    (hv : ∀ i (h : i < args.length), PolV args[i] (fun s => (vs s).getD i false)) (h : nodeP kind k args = some r) : PolV r (fun s => nodeV kind k (cntB (vs s)) args.length) := by
  have hcons : 0 < args.length → ∃ a t, args = a :: t ∧ PolV a (fun s => (vs s).getD 0 false) ∧ (∀ s, (vs s).tail.length = t.length) ∧ (∀ i (h : i < t.length), PolV t[i] (fun s => (vs s).tail.getD i false)) ∧ ∀ s, vs s = (vs s).getD 0 false :: (vs s).tail := fun h0 => by
    cases args with
    | nil => cases h0
    | cons a t =>
      have hvs : ∀ s, vs s = (vs s).getD 0 false :: (vs s).tail := fun s => by
        cases e : vs s with
        | nil => have := hl s; rw [e] at this; cases this
        | cons x l => rfl
      refine ⟨a, t, rfl, hv 0 (by simp), fun s => by rw [List.length_tail, hl s]; rfl, fun i hi => ?_, hvs⟩
      refine (hv (i + 1) (by simpa using hi)).congr fun s => ?_
      rw [hvs s]; simp
  have hcnt : ∀ s, vs s = (vs s).getD 0 false :: (vs s).tail → cntB (vs s) = (if (vs s).getD 0 false = true then 1 else 0) + cntB (vs s).tail := fun s e => by
    conv => lhs; rw [e]
    rfl
  unfold nodeP at h
  by_cases k0 : kind = 0
  · rw [if_pos k0] at h
    cases h
    have hk01 : k = 0 ∨ k = 1 := by
      unfold chkK at hc
      rw [if_pos k0] at hc
      split at hc
      · rename_i h1; omega
      · cases hc
    rcases hk01 with e | e
    · refine (PolB.const (B := 1) (k := (k : Rat)) ⟨k, rfl, by omega⟩).v fun s => ?_
      rw [val_const]
      unfold nodeV
      rw [if_pos k0, e]
      rfl
    · refine (PolB.const (B := 1) (k := (k : Rat)) ⟨k, rfl, by omega⟩).v fun s => ?_
      rw [val_const]
      unfold nodeV
      rw [if_pos k0, e]
      rfl
  · rw [if_neg k0] at h
    have hpos : 0 < args.length := by
      unfold argsOk at ha
      rw [if_neg k0] at ha
      split at ha <;> simp at ha <;> omega
    obtain ⟨a, t, rfl, h1, h2, h3, h4⟩ := hcons hpos
    simp only [List.getD_cons_zero, List.tail_cons] at h
    by_cases k1 : kind = 1
    · rw [if_pos k1] at h
      refine (h1.not h).congr fun s => ?_
      unfold nodeV
      rw [if_neg k0, if_pos k1, hcnt s (h4 s)]
      have ht : t = [] := by
        unfold argsOk at ha
        rw [if_neg k0, if_pos k1] at ha
        simpa using ha
      have : (vs s).tail = [] := List.eq_nil_of_length_eq_zero (by rw [h2 s, ht]; rfl)
      rw [this]
      cases (vs s).getD 0 false <;> simp [cntB]
    · rw [if_neg k1] at h
      by_cases k2 : kind = 2
      · rw [if_pos k2] at h
        refine (fold_all (op := mulO) (f := fun a b => a && b) (fun h k r => h.mul k r) h2 h3 h1 h).congr fun s => ?_
        rw [fold_and]
        unfold nodeV
        rw [if_neg k0, if_neg k1, if_pos k2, hcnt s (h4 s), h2 s, List.length_cons]
        have hle : cntB (vs s).tail ≤ t.length := by
          rw [← h2 s]
          generalize (vs s).tail = l
          induction l with
          | nil => exact Nat.le_refl _
          | cons x l ih => unfold cntB; rw [List.length_cons]; split <;> omega
        cases (vs s).getD 0 false
        · simp; omega
        · rw [Bool.eq_iff_iff]; simp; omega
      · rw [if_neg k2] at h
        by_cases k3 : kind = 3
        · rw [if_pos k3] at h
          obtain ⟨n, hn, h⟩ := Option.bind_eq_some_iff.1 h
          obtain ⟨m, hm, h⟩ := Option.bind_eq_some_iff.1 h
          have q1 := fold_all (op := Go.Proofs.YtpaedhlacbpmpaaGreatDoor.mulN) (f := fun a b => a && !b) (fun h k r => h.mulN k r) h2 h3 (h1.not hn) hm
          refine (q1.not h).congr fun s => ?_
          rw [fold_nor]
          unfold nodeV
          rw [if_neg k0, if_neg k1, if_neg k2, if_pos k3, hcnt s (h4 s)]
          cases (vs s).getD 0 false
          · rw [Bool.eq_iff_iff]; simp; omega
          · rw [Bool.eq_iff_iff]; simp; try omega
        · rw [if_neg k3] at h
          by_cases k4 : kind = 4
          · rw [if_pos k4] at h
            refine (vote_v hl hv h).congr fun s => ?_
            unfold nodeV
            rw [if_neg k0, if_neg k1, if_neg k2, if_neg k3, if_pos k4]
            unfold chkK at hc
            rw [if_neg k0, if_pos k4] at hc
            split at hc
            · rename_i hkk
              rw [Bool.eq_iff_iff]; simp
            · cases hc
          · rw [if_neg k4] at h
            refine (fold_all (op := xorO) (f := fun a b => a != b) (fun h k r => h.xor k r) h2 h3 h1 h).congr fun s => ?_
            rw [fold_xor]
            unfold nodeV
            rw [if_neg k0, if_neg k1, if_neg k2, if_neg k3, if_neg k4, hcnt s (h4 s)]
            cases (vs s).getD 0 false
            · simp
            · rcases Nat.mod_two_eq_zero_or_one (cntB (vs s).tail) with h | h
              · have e : (1 + cntB (vs s).tail) % 2 = 1 := by omega
                simp [h, e]
              · have e : (1 + cntB (vs s).tail) % 2 = 0 := by omega
                simp [h, e]
theorem cnt_map (vals : List Bool) (args : List Int) : cntB (args.map fun a => vals.getD a.toNat false) = trueN vals args := by
  induction args with
  | nil => rfl
  | cons a l ih => rw [List.map_cons, cntB, trueN, ih]
/-- The polynomials of the marked nodes have their values. -/
theorem polUp_v {V T : Nat} {f : Fm} (hok : Ok f V T) (mark : List Bool) (hcl : ∀ i (hi : i < f.nodes.length), mark.getD (V + i) false = true → ∀ a ∈ f.nodes[i].args, mark.getD a.toNat false = true) :
    ∀ k out, k ≤ f.nodes.length → polUp V mark f.nodes k = some out → ∀ i (hi : i < out.length), mark.getD (V + i) false = true → PolV out[i] (fun s => (valsUp V s f.nodes k).getD (V + i) false) := by
  intro k
  induction k with
  | zero => intro out _ h i hi; cases h; cases hi
  | succ k ih =>
    intro out hk h i hi hm
    obtain ⟨o, h1, h2⟩ := Option.bind_eq_some_iff.1 h
    have hol := len_polUp V mark f.nodes k o h1
    have hkx : k < f.nodes.length := by omega
    have hnd : f.nodes.getD k noNd = f.nodes[k] := by simp [List.getD_eq_getElem?_getD, hkx]
    have hold : ∀ i (hi : i < o.length), mark.getD (V + i) false = true → PolV o[i] (fun s => (valsUp V s f.nodes (k + 1)).getD (V + i) false) := fun i hi hm =>
      (ih o (by omega) h1 i hi hm).congr fun s => (valsUp_get V s f.nodes k (k + 1) (V + i) (by omega) (by omega)).symm
    unfold polStep at h2
    rw [hnd] at h2
    by_cases e : i = k
    · subst e
      rw [if_pos hm] at h2
      obtain ⟨p, hp, h4⟩ := Option.map_eq_some_iff.1 h2
      subst h4
      have hlast : (o ++ [p])[i] = p := by simp [hol]
      rw [hlast]
      have hval : ∀ s, (valsUp V s f.nodes (i + 1)).getD (V + i) false = nodeV f.nodes[i].kind f.nodes[i].k (trueN (valsUp V s f.nodes i) f.nodes[i].args) f.nodes[i].args.length := fun s => by
        show (valsUp V s f.nodes i ++ _).getD (V + i) false = _
        rw [List.getD_eq_getElem?_getD, List.getElem?_append_right (by rw [len_valsUp]; omega), len_valsUp, Nat.sub_self, hnd]
        rfl
      have hargs : ∀ j (hj : j < (f.nodes[i].args.map (argP V o)).length), PolV (f.nodes[i].args.map (argP V o))[j] (fun s => (f.nodes[i].args.map fun a => (valsUp V s f.nodes i).getD a.toNat false).getD j false) := fun j hj => by
        have hj' : j < f.nodes[i].args.length := by simpa using hj
        rw [List.getElem_map]
        have ha := hok.args i hkx _ (List.getElem_mem hj')
        have hma := hcl i hkx hm _ (List.getElem_mem hj')
        obtain ⟨a, ha2⟩ : ∃ a, a = f.nodes[i].args[j] := ⟨_, rfl⟩
        rw [← ha2] at ha hma ⊢
        obtain ⟨A, rfl⟩ := Int.eq_ofNat_of_zero_le ha.1
        simp only [Int.toNat_natCast] at hma
        have hg : ∀ s, (f.nodes[i].args.map fun a => (valsUp V s f.nodes i).getD a.toNat false).getD j false = (valsUp V s f.nodes i).getD A false := fun s => by
          rw [List.getD_eq_getElem?_getD, List.getElem?_map, List.getElem?_eq_getElem hj', ← ha2]; rfl
        unfold argP
        by_cases hAV : A < V
        · rw [if_pos (by omega)]
          have := hok.v24
          refine (PolV.event (i := A) (by omega)).congr fun s => ?_
          rw [hg, valsUp_event V s f.nodes i A hAV]
        · rw [if_neg (by omega), show ((A : Int) - (V : Int)).toNat = A - V by omega]
          have hAl : A - V < o.length := by omega
          have e2 : o.getD (A - V) [] = o[A - V] := by simp [List.getD_eq_getElem?_getD, hAl]
          rw [e2]
          refine (ih o (by omega) h1 (A - V) hAl (by rw [show V + (A - V) = A by omega]; exact hma)).congr fun s => ?_
          rw [hg, show V + (A - V) = A by omega]
      have hfin := node_v (vs := fun s => f.nodes[i].args.map fun a => (valsUp V s f.nodes i).getD a.toNat false) (by rw [List.length_map]; exact hok.argc i hkx) (by rw [List.length_map]; exact hok.arity i hkx) (fun s => by rw [List.length_map, List.length_map]) hargs hp
      refine hfin.congr fun s => ?_
      rw [hval, cnt_map, List.length_map]
    · split at h2
      · obtain ⟨p, hp, h4⟩ := Option.map_eq_some_iff.1 h2
        subst h4
        have hi2 : i < o.length := by rw [List.length_append] at hi; simp at hi; omega
        rw [List.getElem_append_left hi2]
        exact hold i hi2 hm
      · cases h2
        have hi2 : i < o.length := by rw [List.length_append] at hi; simp at hi; omega
        rw [List.getElem_append_left hi2]
        exact hold i hi2 hm
end Go.Proofs.YtpaedhlacbpmpaaGreatDoor

/-
  Polynomials with whole values are short; walk: work.not.
-/
namespace Go.Proofs.YtpaedhlacbpmpaaGreatDoor
open Go.RowKit Go.Maps

theorem pc_le : ∀ k n, n < 2 ^ k → pc n ≤ k := by
  intro k
  induction k with
  | zero => intro n h; rw [show n = 0 by simpa using h, pc_zero]; exact Nat.le_refl _
  | succ k ih =>
    intro n h
    rw [pc_one]
    have := ih (n / 2) (by rw [Nat.pow_succ] at h; omega)
    omega
theorem can_int_short {z : Int} {k : Nat} (h : z.natAbs < 4294967296 ^ k) (hk : 1 ≤ k) : (canR (z : Rat)).Short k := by
  have hn : (z : Rat).num = z := Rat.num_intCast z
  have hd : (z : Rat).den = 1 := Rat.den_intCast z
  unfold canR
  rw [hn, hd]
  split
  · exact ⟨Nat.zero_le _, Nat.zero_le _⟩
  · refine ⟨nw_len_lt.2 h, nw_len_lt.2 (Nat.one_lt_pow (by omega) (by decide))⟩
theorem PolB.acc {B : Nat} {p : Pol} (h : PolB B p) : Acc p := ⟨h.can, h.len, h.bit⟩
theorem PolB.sh {B : Nat} {p : Pol} (h : PolB B p) (hB : B ≤ 64) : ShP 1000 p := fun t ht => by
  have h1 : IntB (B * 4097 ^ 24) t.2 := coef_bound h.can h.len (fun u _ => h.val u.1) 24 t ht (pc_le 24 _ (h.bit t ht))
  obtain ⟨z, h2, h3⟩ := h1
  have h4 : B * 4097 ^ 24 ≤ 64 * 4097 ^ 24 := Nat.mul_le_mul_right _ hB
  have h5 : 64 * 4097 ^ 24 < 4294967296 ^ 10 := by decide +kernel
  have h6 := can_int_short (Nat.lt_of_le_of_lt (Nat.le_trans h3 h4) h5) (by decide)
  rw [h2]
  exact ⟨Nat.le_trans h6.1 (by omega), Nat.le_trans h6.2 (by omega)⟩
theorem PolV.acc {p : Pol} {b : Nat → Bool} (h : PolV p b) : Acc p := h.b.acc
theorem PolV.sh {p : Pol} {b : Nat → Bool} (h : PolV p b) : ShP 1000 p := h.b.sh (by decide)
set_option maxRecDepth 100000 in
theorem wnot_any (g : Nat) (e : Bool) (v : Value) (p : Pol) (w : World) (hg : ErrAt w g e) (hp : TrmsAt w v (polT p)) (ha : Acc p) (hsp : ShP 1000 p) :
    Calls Tryz.prog 117 #[.pointer (some ⟨g, 0, none⟩), v] w fun en w' => (∃ v', en = .returned v' ∧ TrmsAt w' v' (polT (doV e (notO p)))) ∧ ErrAt w' g (doE e (notO p)) ∧ OnlyAt g w w' := by
  have HON : Hid (Calls Tryz.prog 140 #[] w fun e w' => (∃ v', e = .returned v' ∧ TrmsAt w' v' (polT oneP)) ∧ Kept w w') := Lib.hid (pone_any w)
  have HDO : Hid (∀ W u, Kept w W → TrmsAt W u (polT oneP) → Calls Tryz.prog 118 #[.pointer (some ⟨g, 0, none⟩), .func (.func 14) #[] #[], u, v] W fun en w' => (∃ v', en = .returned v' ∧ TrmsAt w' v' (polT (doV e (notO p)))) ∧ ErrAt w' g (doE e (notO p)) ∧ OnlyAt g W w') :=
    Lib.hid fun W u hk hu => dsub_any g e u v oneP p W (hg.kept hk) hu (hp.kept hk) PolV.one.acc ha PolV.one.sh hsp
  clear hg hp ha hsp
  go_enter Tryz.func117, Tryz.ntmps117
  go_wp2_with fail
  refine HON.out.mono ?_
  rintro en w1 ⟨⟨v1, rfl, hv1⟩, hk1⟩
  go_wp2_with fail
  refine (HDO.out _ _ hk1 hv1).mono ?_
  rintro en w2 ⟨⟨v2, rfl, hv2⟩, he2, ho2⟩
  have HO := Lib.hid ((OnlyAt.kept hk1).trans ho2)
  have HV := Lib.hid hv2
  have HE := Lib.hid he2
  clear hk1 hv1 hv2 he2 ho2
  go_wp2
  go_ret
  exact ⟨⟨_, rfl, HV.out⟩, HE.out, HO.out⟩
end Go.Proofs.YtpaedhlacbpmpaaGreatDoor

/-
  Plain: votes with the flag of the first error.
-/
namespace Go.Proofs.YtpaedhlacbpmpaaGreatDoor

def rowN (a : Pol) (v : List Pol) (e : Bool) : Nat → List Pol × Bool
  | 0 => ([oneP], e)
  | j + 1 => ((rowN a v e j).1 ++ [doV (rowN a v e j).2 (selO a (v.getD j []) (v.getD (j + 1) []))], doE (rowN a v e j).2 (selO a (v.getD j []) (v.getD (j + 1) [])))
def voteN (k : Nat) (args : List Pol) : Nat → List Pol × Bool
  | 0 => (oneP :: List.replicate k [], false)
  | m + 1 => rowN (args.getD (args.length - 1 - m) []) (voteN k args m).1 (voteN k args m).2 k
def GdP (p : Pol) : Prop := ∃ b, PolV p b
theorem GdP.nil : GdP [] := ⟨_, PolV.zero⟩
theorem GdP.one : GdP oneP := ⟨_, PolV.one⟩
theorem GdP.acc {p : Pol} (h : GdP p) : Acc p := let ⟨_, h⟩ := h; h.acc
theorem GdP.sh {p : Pol} (h : GdP p) : ShP 1000 p := let ⟨_, h⟩ := h; h.sh
theorem GdP.doV {e : Bool} {r : Option Pol} (h : ∀ p, r = some p → GdP p) : GdP (doV e r) := by
  unfold Go.Proofs.YtpaedhlacbpmpaaGreatDoor.doV
  cases e
  · cases r with
    | none => exact GdP.nil
    | some p => exact h p rfl
  · exact GdP.nil
theorem GdP.mul {p q r : Pol} (hp : GdP p) (hq : GdP q) (h : mulO p q = some r) : GdP r := let ⟨_, hp⟩ := hp; let ⟨_, hq⟩ := hq; ⟨_, hp.mul hq h⟩
theorem GdP.not {p r : Pol} (hp : GdP p) (h : notO p = some r) : GdP r := let ⟨_, hp⟩ := hp; ⟨_, hp.not h⟩
theorem GdP.xor {p q r : Pol} (hp : GdP p) (hq : GdP q) (h : xorO p q = some r) : GdP r := let ⟨_, hp⟩ := hp; let ⟨_, hq⟩ := hq; ⟨_, hp.xor hq h⟩
theorem GdP.sel {a p q r : Pol} (ha : GdP a) (hp : GdP p) (hq : GdP q) (h : selO a p q = some r) : GdP r := let ⟨_, ha⟩ := ha; let ⟨_, hp⟩ := hp; let ⟨_, hq⟩ := hq; ⟨_, ha.sel hp hq h⟩
/-- Accepted and short, a little less than GdP: what Add makes of two. -/
theorem sel_do (e : Bool) (a p q : Pol) :
    doV (doE (doE (doE e (mulO a p)) (notO a)) (mulO (doV (doE e (mulO a p)) (notO a)) q)) (addO (doV e (mulO a p)) (doV (doE (doE e (mulO a p)) (notO a)) (mulO (doV (doE e (mulO a p)) (notO a)) q))) = doV e (selO a p q) ∧
    doE (doE (doE (doE e (mulO a p)) (notO a)) (mulO (doV (doE e (mulO a p)) (notO a)) q)) (addO (doV e (mulO a p)) (doV (doE (doE e (mulO a p)) (notO a)) (mulO (doV (doE e (mulO a p)) (notO a)) q))) = doE e (selO a p q) := by
  unfold selO
  cases e
  · cases h1 : mulO a p with
    | none => simp [doV, doE]
    | some x =>
      cases h2 : notO a with
      | none => simp [doV, doE]
      | some n =>
        simp only [doV, doE]
        simp
        cases h3 : mulO n q with
        | none => simp
        | some y => simp
  · simp [doV, doE]
theorem rowN_len (a : Pol) (v : List Pol) (e : Bool) : ∀ j, (rowN a v e j).1.length = j + 1 := by
  intro j
  induction j with
  | zero => rfl
  | succ j ih => simp [rowN, ih]
theorem gdp_getD {v : List Pol} (hv : ∀ p ∈ v, GdP p) (i : Nat) : GdP (v.getD i []) := by
  rw [List.getD_eq_getElem?_getD]
  rcases Nat.lt_or_ge i v.length with h | h
  · rw [List.getElem?_eq_getElem h]; exact hv _ (List.getElem_mem h)
  · rw [List.getElem?_eq_none h]; exact GdP.nil
theorem rowN_good {a : Pol} (ha : GdP a) {v : List Pol} (hv : ∀ p ∈ v, GdP p) (e : Bool) : ∀ j, ∀ p ∈ (rowN a v e j).1, GdP p := by
  intro j
  induction j with
  | zero => intro p hp; rw [show (rowN a v e 0).1 = [oneP] from rfl, List.mem_singleton] at hp; rw [hp]; exact GdP.one
  | succ j ih =>
    intro p hp
    rcases List.mem_append.1 hp with h | h
    · exact ih p h
    · rw [List.mem_singleton] at h
      rw [h]
      exact GdP.doV fun r hr => ha.sel (gdp_getD hv _) (gdp_getD hv _) hr
theorem voteN_len (k : Nat) (args : List Pol) : ∀ m, (voteN k args m).1.length = k + 1 := by
  intro m
  cases m with
  | zero => simp [voteN]
  | succ m => exact rowN_len _ _ _ _
theorem voteN_good {k : Nat} {args : List Pol} (ha : ∀ p ∈ args, GdP p) : ∀ m, ∀ p ∈ (voteN k args m).1, GdP p := by
  intro m
  induction m with
  | zero =>
    intro p hp
    rcases List.mem_cons.1 hp with h | h
    · rw [h]; exact GdP.one
    · rw [(List.mem_replicate.1 h).2]; exact GdP.nil
  | succ m ih => exact rowN_good (gdp_getD ha _) ih _ k
theorem row_true (a : Pol) (v : List Pol) : ∀ j, (rowN a v true j).2 = true := by
  intro j
  induction j with
  | zero => rfl
  | succ j ih => simp [rowN, ih, doE]
theorem row_snoc (a : Pol) : ∀ (v : List Pol) (p q : Pol), voteRow a p (v ++ [q]) = (voteRow a p v).bind fun t => (selO a ((p :: v).getD v.length []) q).map fun x => t ++ [x] := by
  intro v
  induction v with
  | nil => intro p q; simp [voteRow]; cases selO a p q <;> simp
  | cons u v ih =>
    intro p q
    rw [List.cons_append]
    unfold voteRow
    rw [ih]
    cases selO a p u with
    | none => simp
    | some x =>
      cases h : voteRow a u v with
      | none => simp
      | some t =>
        simp only [Option.bind_some, Option.map_some, List.length_cons]
        rw [show (p :: u :: v).getD (v.length + 1) [] = (u :: v).getD v.length [] by simp]
        cases selO a ((u :: v).getD v.length []) q <;> simp
theorem row_spec (a p0 : Pol) (t : List Pol) : ∀ j, j ≤ t.length → (∀ l, voteRow a p0 (t.take j) = some l → rowN a (p0 :: t) false j = (oneP :: l, false)) ∧ (voteRow a p0 (t.take j) = none → (rowN a (p0 :: t) false j).2 = true) := by
  intro j
  induction j with
  | zero => intro _; exact ⟨fun l h => by cases h; rfl, fun h => by cases h⟩
  | succ j ih =>
    intro hj
    have hj2 : j < t.length := by omega
    obtain ⟨i1, i2⟩ := ih (by omega)
    have e1 : (p0 :: t.take j).getD (t.take j).length [] = (p0 :: t).getD j [] := by
      rw [List.length_take, Nat.min_eq_left (by omega)]
      cases j with
      | zero => rfl
      | succ j => simp [List.getD_eq_getElem?_getD]
    have e2 : (p0 :: t).getD (j + 1) [] = t[j] := by simp [List.getD_eq_getElem?_getD, hj2]
    rw [List.take_succ_eq_append_getElem hj2, row_snoc, e1]
    unfold rowN
    rw [e2]
    cases h : voteRow a p0 (t.take j) with
    | none =>
      refine ⟨fun l hl => by simp at hl, fun _ => ?_⟩
      show doE _ _ = true
      rw [i2 h]; rfl
    | some l0 =>
      rw [i1 l0 h]
      simp only [Option.bind_some]
      cases h2 : selO a ((p0 :: t).getD j []) t[j] with
      | none => exact ⟨fun l hl => by simp at hl, fun _ => rfl⟩
      | some x => exact ⟨fun l hl => by simp at hl; rw [← hl]; rfl, fun hn => by simp at hn⟩
theorem vote_go (k : Nat) (args : List Pol) : ∀ m, m ≤ args.length → (∀ v, votesP (oneP :: List.replicate k []) (args.drop (args.length - m)) = some v → voteN k args m = (v, false)) ∧ (votesP (oneP :: List.replicate k []) (args.drop (args.length - m)) = none → (voteN k args m).2 = true) := by
  intro m
  induction m with
  | zero =>
    intro _
    rw [Nat.sub_zero, List.drop_length]
    exact ⟨fun v h => by cases h; rfl, fun h => by cases h⟩
  | succ m ih =>
    intro hm
    obtain ⟨i1, i2⟩ := ih (by omega)
    have hi : args.length - (m + 1) < args.length := by omega
    have e : args.drop (args.length - (m + 1)) = args.getD (args.length - 1 - m) [] :: args.drop (args.length - m) := by
      rw [List.drop_eq_getElem_cons hi, show args.length - (m + 1) + 1 = args.length - m by omega]
      simp [List.getD_eq_getElem?_getD, show args.length - 1 - m = args.length - (m + 1) by omega, hi]
    rw [e]
    unfold votesP voteN
    cases h : votesP (oneP :: List.replicate k []) (args.drop (args.length - m)) with
    | none =>
      refine ⟨fun v hv => by simp at hv, fun _ => ?_⟩
      rw [i2 h]; exact row_true _ _ _
    | some v =>
      have h1 := i1 v h
      have hl := voteN_len k args m
      rw [h1] at hl ⊢
      cases v with
      | nil => cases hl
      | cons p0 t =>
        have ht : t.length = k := by simpa using hl
        obtain ⟨s1, s2⟩ := row_spec (args.getD (args.length - 1 - m) []) p0 t k (by omega)
        rw [List.take_of_length_le (by omega)] at s1 s2
        simp only [Option.bind_some]
        unfold voteStep
        clear e
        generalize args.getD (args.length - 1 - m) [] = ar at s1 s2 ⊢
        cases h3 : voteRow ar p0 t with
        | none => exact ⟨fun v hv => by simp [h3] at hv, fun _ => s2 h3⟩
        | some l => exact ⟨fun v hv => by simp [h3] at hv; rw [← hv]; exact s1 l h3, fun hn => by simp [h3] at hn⟩
/-- What vote computes. -/
theorem voteN_p (k : Nat) (args : List Pol) : voteP k args = if (voteN k args args.length).2 = true then none else some ((voteN k args args.length).1.getD k []) := by
  obtain ⟨h1, h2⟩ := vote_go k args args.length (Nat.le_refl _)
  rw [Nat.sub_self, List.drop_zero] at h1 h2
  unfold voteP
  cases h : votesP (oneP :: List.replicate k []) args with
  | none => rw [h2 h]; rfl
  | some v => rw [h1 v h]; rfl
end Go.Proofs.YtpaedhlacbpmpaaGreatDoor

/-
  Walk: work.vote.
-/
namespace Go.Proofs.YtpaedhlacbpmpaaGreatDoor
open Go.RowKit Go.Maps

theorem OwnPols.ne {w : World} {B b n c g : Nat} {ps : List Pol} {e : Bool} (h : OwnPols w B (.slice (some ⟨b, 0, none⟩) n c) ps) (hr : ErrAt w g e) : b ≠ g := fun e => by
  subst e
  obtain ⟨us, h1, h2, h3, h4, h5⟩ := h
  obtain ⟨cur, h6, _⟩ := hr.1
  obtain ⟨_, ⟨h7, _⟩ | ⟨g2, cap2, cur2, h7, _, h8, _⟩⟩ := h2
  · cases h7
  · cases h7
    rw [h6] at h8
    cases h8
theorem ErrAt.below {w w' : World} {B g : Nat} {e : Bool} (h : ErrAt w g e) (hb : Below B w w') (hg : g < B) : ErrAt w' g e := by
  obtain ⟨⟨cur, h1, h2⟩, ⟨cur2, e2, h3, h4⟩⟩ := h
  have := hb.block g hg
  exact ⟨⟨cur, this.trans h1, h2⟩, ⟨cur2, e2, this.trans h3, h4⟩⟩
theorem OnlyAt.below {g : Nat} {w0 w w' : World} (h : OnlyAt g w0 w) (hb : Below w0.heap.size w w') : OnlyAt g w0 w' :=
  ⟨hb.os.trans h.os, hb.tape.trans h.tape, hb.output.trans h.output, Nat.le_trans h.size hb.size, fun k hk hne => (hb.block k hk).trans (h.block k hk hne)⟩
theorem OnlyAt.onKept {g : Nat} {w0 w w' : World} (h : OnlyAt g w0 w) (hk : Kept w w') : OnlyAt g w0 w' := h.trans (OnlyAt.kept hk)
set_option maxRecDepth 100000 in
set_option maxHeartbeats 16000000 in
theorem wvote_any (g B : Nat) (v : Value) (args : List Pol) (k : Nat) (w : World) (hg : ErrAt w g false) (hv : OwnPols w B v args) (ha : ∀ p ∈ args, GdP p) (hk1 : 1 ≤ k) (hk2 : k ≤ args.length) (hl9 : args.length ≤ 1000) :
    Calls Tryz.prog 119 #[.pointer (some ⟨g, 0, none⟩), .int .i64 k, v] w fun en w' => (∃ v', en = .returned v' ∧ TrmsAt w' v' (polT ((voteN k args args.length).1.getD k []))) ∧ ErrAt w' g (voteN k args args.length).2 ∧ OnlyAt g w w' := by
  have hne : args ≠ [] := by intro e; rw [e] at hk2; simp at hk2; omega
  obtain ⟨ga, ca, rfl, _, hga, hca⟩ := hv.shape hne
  obtain ⟨n, hn⟩ : ∃ n, n = args.length := ⟨_, rfl⟩
  rw [← hn] at hk2 hl9 hv hca ⊢
  have HST : Hid (∀ p, p + 1 ≤ n → voteN k args (n - p) = rowN (args.getD p []) (voteN k args (n - (p + 1))).1 (voteN k args (n - (p + 1))).2 k) := Lib.hid fun p hp => by
    rw [show n - p = (n - (p + 1)) + 1 by omega]
    show rowN (args.getD (args.length - 1 - (n - (p + 1))) []) _ _ k = _
    rw [← hn, show n - 1 - (n - (p + 1)) = p by omega]
  have HLN := Lib.hid (voteN_len k args)
  have HGD := Lib.hid (voteN_good (k := k) ha)
  have HGA := Lib.hid (gdp_getD ha)
  have HON : Hid (∀ W, Calls Tryz.prog 140 #[] W fun e w' => (∃ v', e = .returned v' ∧ TrmsAt w' v' (polT oneP)) ∧ Kept W w') := Lib.hid fun W => pone_any W
  have HMU : Hid (∀ (e : Bool) (v u : Value) (p q : Pol) (W : World), ErrAt W g e → TrmsAt W v (polT p) → TrmsAt W u (polT q) → GdP p → GdP q → Calls Tryz.prog 118 #[.pointer (some ⟨g, 0, none⟩), .func (.func 15) #[] #[], v, u] W fun en w' => (∃ v', en = .returned v' ∧ TrmsAt w' v' (polT (doV e (mulO p q)))) ∧ ErrAt w' g (doE e (mulO p q)) ∧ OnlyAt g W w') :=
    Lib.hid fun e v u p q W h1 h2 h3 h4 h5 => dmul_any g e v u p q W h1 h2 h3 h4.acc h5.acc h4.sh h5.sh
  have HAD : Hid (∀ (e : Bool) (v u : Value) (p q : Pol) (W : World), ErrAt W g e → TrmsAt W v (polT p) → TrmsAt W u (polT q) → GdP p → GdP q → Calls Tryz.prog 118 #[.pointer (some ⟨g, 0, none⟩), .func (.func 13) #[] #[], v, u] W fun en w' => (∃ v', en = .returned v' ∧ TrmsAt w' v' (polT (doV e (addO p q)))) ∧ ErrAt w' g (doE e (addO p q)) ∧ OnlyAt g W w') :=
    Lib.hid fun e v u p q W h1 h2 h3 h4 h5 => dadd_any g e v u p q W h1 h2 h3 h4.acc h5.acc h4.sh h5.sh
  have HNT : Hid (∀ (e : Bool) (v : Value) (p : Pol) (W : World), ErrAt W g e → TrmsAt W v (polT p) → GdP p → Calls Tryz.prog 117 #[.pointer (some ⟨g, 0, none⟩), v] W fun en w' => (∃ v', en = .returned v' ∧ TrmsAt w' v' (polT (doV e (notO p)))) ∧ ErrAt w' g (doE e (notO p)) ∧ OnlyAt g W w') :=
    Lib.hid fun e v p W h1 h2 h4 => wnot_any g e v p W h1 h2 h4.acc h4.sh
  have HG := Lib.hid hg
  have HA := Lib.hid hv
  have HN := Lib.hid hn
  obtain ⟨R, hR⟩ : ∃ R, R = voteN k args n := ⟨_, rfl⟩
  have HRR := Lib.hid hR
  rw [← hR]
  have HGS : Hid (g < w.heap.size) := Lib.hid hg.1.lt
  clear hg hv ha hn hne hR
  go_enter Tryz.func119, Tryz.ntmps119
  go_wp2_with (at_make; refine make_pol rfl _ _ rfl (k + 1) (by show Value.int .i64 ((k : Int) + 1) = .int .i64 ((k + 1 : Nat) : Int); rw [Int.natCast_add]; rfl) (by show Value.int .i64 ((k : Int) + 1) = .int .i64 ((k + 1 : Nat) : Int); rw [Int.natCast_add]; rfl) (by omega) ?_; intro w1 ho1 hk1' hz1; have O1 := Lib.hid ho1; have HK1 := Lib.hid hk1'; have HZ1 := Lib.hid hz1; clear ho1 hk1' hz1)
  refine (HON.out _).mono ?_
  rintro en w2 ⟨⟨v2, rfl, hv2⟩, hk2'⟩
  have O2 := O1.out.kept hk2'
  obtain ⟨u0, hc0, _⟩ := O2.cell 0 (by simp)
  have hf0 := O2.free 0
  obtain ⟨a2, c2, rfl⟩ := hv2.shape
  have e21 : (polT oneP).length = 1 := rfl
  rw [e21] at hv2
  rw [e21]
  obtain ⟨w3, hw3⟩ : ∃ w3, w3 = w2.setCell ⟨w.heap.size, 0, none⟩ (.slice a2 1 c2) := ⟨_, rfl⟩
  have HT3 : Hid (OwnPols w3 w.heap.size (.slice (some ⟨w.heap.size, 0, none⟩) (k + 1) (k + 1)) (voteN k args 0).1) := Lib.hid (by
    have h1 := O2.store (by simp) 0 hv2
    rw [List.replicate_succ] at h1
    rw [hw3]
    exact h1)
  have HK3 : Hid (Kept w w3) := Lib.hid (by rw [hw3]; exact (HK1.out.trans hk2').store (Nat.le_refl _) _ _)
  have HW3 := Lib.hid hw3
  clear O2 hv2 hk2' hw3 e21
  go_wp2_with fail
  rw [← HW3.out]
  go_loopw [7, 8, 9, 10, 11, 12] (fun tv i _ _ _ _ wr => ∃ (q : Nat), q ≤ n ∧ i = .int .i64 ((q : Int) - 1) ∧ OwnPols wr w.heap.size tv (voteN k args (n - q)).1 ∧ Hid (ErrAt wr g (voteN k args (n - q)).2) ∧ Hid (OnlyAt g w wr)) (fun _ i _ _ _ _ _ => (intOf i + 1).toNat)
  case atStart => exact ⟨n, Nat.le_refl _, rfl, by rw [Nat.sub_self]; exact HT3.out, Lib.hid (by rw [Nat.sub_self]; exact HG.out.kept HK3.out), Lib.hid (OnlyAt.kept HK3.out)⟩
  case round =>
    clear HT3 HK3 O1 hc0 hf0
    obtain ⟨q, hq, rfl, hot, HE, HO⟩ := hrel
    have htl := HLN.out (n - q)
    obtain ⟨g2, tc, rfl, hg1, hg2, hcap⟩ := hot.shape (by intro e; rw [e] at htl; simp at htl)
    rw [htl]
    rw [htl] at hot hcap
    by_cases hpos : 0 < q
    · obtain ⟨p, rfl⟩ : ∃ p, q = p + 1 := ⟨q - 1, by omega⟩
      have e1 : ((p + 1 : Nat) : Int) - 1 = (p : Int) := by omega
      rw [e1]
      have hpx : p < args.length := by have := HN.out; omega
      have hpn : (p : Int) < (n : Int) := by omega
      have HS1 := Lib.hid (HST.out p hq)
      have HGT := Lib.hid (HGD.out (n - (p + 1)))
      obtain ⟨t, ht⟩ : ∃ t, t = (voteN k args (n - (p + 1))).1 := ⟨_, rfl⟩
      obtain ⟨e0, he0⟩ : ∃ e, e = (voteN k args (n - (p + 1))).2 := ⟨_, rfl⟩
      obtain ⟨A, hA⟩ : ∃ A, A = args.getD p [] := ⟨_, rfl⟩
      rw [← ht, ← he0, ← hA] at HS1
      rw [← ht] at HGT hot htl
      rw [← he0] at HE
      have HGP : Hid (GdP A) := Lib.hid (by rw [hA]; exact HGA.out p)
      have hAe : A = args[p] := by rw [hA]; simp [List.getD_eq_getElem?_getD, hpx]
      obtain ⟨wo, rfl⟩ : ∃ wo : World, wo = wr := ⟨_, rfl⟩
      have HOT := Lib.hid hot
      have HAR := Lib.hid (HA.out.err HG.out HO.out)
      obtain ⟨u, hcu0, hu0⟩ := HAR.out.cell p hpx
      rw [← hAe] at hu0
      have HU0 := Lib.hid hu0
      have HNA : Hid (ga ≠ g) := Lib.hid (HAR.out.ne HE.out)
      have HN2 : Hid (g2 ≠ g) := Lib.hid (hot.ne HE.out)
      have HGW : Hid (g < wo.heap.size) := Lib.hid HE.out.1.lt
      have hsz := HO.out.size
      clear e1 ht he0 hA hAe hot hu0
      go_wp2_with fail
      refine (HON.out _).mono ?_
      rintro en w4 ⟨⟨v4, rfl, hv4⟩, hk4⟩
      obtain ⟨a4, c4, rfl⟩ := hv4.shape
      have e41 : (polT oneP).length = 1 := rfl
      rw [e41] at hv4
      rw [e41]
      obtain ⟨w5, hw5⟩ : ∃ w5, w5 = w4.alloc (.cells #[.slice a4 1 c4] 22) := ⟨_, rfl⟩
      have HST5 : Hid (OwnPols w5 wo.heap.size (.slice (some ⟨w4.heap.size, 0, none⟩) 1 1) (rowN A t e0 0).1) := Lib.hid (by rw [hw5]; exact OwnPols.one hv4 hk4.size)
      have HK5 : Hid (Kept wo w5) := Lib.hid (by rw [hw5]; exact hk4.alloc _)
      have HW5 := Lib.hid hw5
      clear hw5 hv4 hk4 e41
      go_wp2_with fail
      rw [← HW5.out]
      go_loopw [9, 10, 11, 12] (fun nv j _ _ wi => ∃ (m : Nat), m ≤ k ∧ j = .int .i64 ((m : Int) + 1) ∧ OwnPols wi wo.heap.size nv (rowN A t e0 m).1 ∧ Hid (ErrAt wi g (rowN A t e0 m).2) ∧ Hid (OnlyAt g wo wi)) (fun _ j _ _ _ => k + 1 - (intOf j).toNat)
      case atStart => exact ⟨0, Nat.zero_le _, rfl, HST5.out, Lib.hid (HE.out.kept HK5.out), Lib.hid (OnlyAt.kept HK5.out)⟩
      case round =>
        clear HST5 HK5
        obtain ⟨m, hm, rfl, hon, HEi, HOi⟩ := hrel
        obtain ⟨wi, rfl⟩ : ∃ wi : World, wi = wr := ⟨_, rfl⟩
        by_cases hmk : m < k
        · obtain ⟨um, hcm0, hum0⟩ := HOT.out.cell m (by omega)
          obtain ⟨um1, hcm10, hum10⟩ := HOT.out.cell (m + 1) (by omega)
          obtain ⟨Q0, hQ0⟩ : ∃ x, x = t[m] := ⟨_, rfl⟩
          obtain ⟨Q1, hQ1⟩ : ∃ x, x = t[m + 1] := ⟨_, rfl⟩
          rw [← hQ0] at hum0
          rw [← hQ1] at hum10
          have HQ0 : Hid (GdP Q0) := Lib.hid (by rw [hQ0]; exact HGT.out _ (List.getElem_mem _))
          have HQ1 : Hid (GdP Q1) := Lib.hid (by rw [hQ1]; exact HGT.out _ (List.getElem_mem _))
          have g0 : t.getD m [] = Q0 := by rw [hQ0]; simp [List.getD_eq_getElem?_getD, show m < t.length by omega]
          have g1 : t.getD (m + 1) [] = Q1 := by rw [hQ1]; simp [List.getD_eq_getElem?_getD, show m + 1 < t.length by omega]
          have HRW : Hid (rowN A t e0 (m + 1) = ((rowN A t e0 m).1 ++ [doV (rowN A t e0 m).2 (selO A Q0 Q1)], doE (rowN A t e0 m).2 (selO A Q0 Q1))) := Lib.hid (by rw [← g0, ← g1]; rfl)
          have hal := rowN_len A t e0 m
          obtain ⟨acc, hacc⟩ : ∃ x, x = (rowN A t e0 m).1 := ⟨_, rfl⟩
          obtain ⟨em, hem⟩ : ∃ x, x = (rowN A t e0 m).2 := ⟨_, rfl⟩
          rw [← hacc, ← hem] at HRW
          rw [← hacc] at hon hal
          rw [← hem] at HEi
          have HSD := Lib.hid (sel_do em A Q0 Q1)
          have hcu := HOi.out.cell HNA.out hcu0
          have hcm := HOi.out.cell HN2.out hcm0
          have hcm1 := HOi.out.cell HN2.out hcm10
          have HU := Lib.hid (HU0.out.err HE.out HOi.out)
          have HUM := Lib.hid (hum0.err HE.out HOi.out)
          have HUM1 := Lib.hid (hum10.err HE.out HOi.out)
          have HNX := Lib.hid hon
          have hi1 : (m : Int) < ((k + 1 : Nat) : Int) ∧ (m : Int) + 1 < ((k + 1 : Nat) : Int) := by omega
          have hi2 : (m : Int) + 1 ≤ (k : Int) := by omega
          have hw1 := wrapS m (by omega)
          have hw3 := wrapT m (by omega)
          have hw2 : (0 : Int) ≤ (m : Int) ∧ (m : Int) < (k : Int) + 1 := by omega
          have hw4 : (0 : Int) ≤ (m : Int) + 1 ∧ (m : Int) + 1 < (k : Int) + 1 := by omega
          have HCL0 : Hid ((fun W : World => W.cell? ⟨ga, p, none⟩ = some u ∧ W.cell? ⟨g2, m, none⟩ = some um) wi) := Lib.hid ⟨hcu, hcm⟩
          have HCLd : Hid ((fun W : World => W.cell? ⟨ga, p, none⟩ = some u ∧ W.cell? ⟨g2, m, none⟩ = some um) wi.drew) := Lib.hid ⟨(Kept.refl wi).drew.cell hcu, (Kept.refl wi).drew.cell hcm⟩
          clear hcm0 hum0 hcm10 hum10 hQ0 hQ1 g0 g1 hacc hem hon
          go_wp2_with fail
          go_region_held3 (fun W => W.cell? ⟨ga, p, none⟩ = some u ∧ W.cell? ⟨g2, m, none⟩ = some um)
            (with_reducible first | exact HCL5.out | exact HCLd.out | exact HCL0.out)
            (first
            | (go_at_call 118; (with_reducible refine (HMU.out em u um A Q0 _ (HEi.out.kept (Kept.refl _).drew) (HU.out.kept (Kept.refl _).drew) (HUM.out.kept (Kept.refl _).drew) HGP.out HQ0.out).mono ?_); rintro en w6 ⟨⟨v6, rfl, hv6⟩, he6, ho6⟩; have ho6' := OnlyAt.trans (OnlyAt.kept (Kept.refl wi).drew) ho6; have HO6 := Lib.hid ho6'; have HV6 := Lib.hid hv6; have HE6 := Lib.hid he6; have HCL5 : Hid ((fun W : World => W.cell? ⟨ga, p, none⟩ = some u ∧ W.cell? ⟨g2, m, none⟩ = some um) w6) := Lib.hid ⟨ho6'.cell HNA.out hcu, ho6'.cell HN2.out hcm⟩; clear hv6 he6 ho6 ho6'))
          have HG6 : Hid (GdP (doV em (mulO A Q0))) := Lib.hid (GdP.doV fun r hr => HGP.out.mul HQ0.out hr)
          have HU6 := Lib.hid (HU.out.err HEi.out HO6.out)
          have HM6 := Lib.hid (HUM1.out.err HEi.out HO6.out)
          have hcub := HO6.out.cell HNA.out hcu
          have hcmb := HO6.out.cell HN2.out hcm1
          have HCLa : Hid ((fun W : World => W.cell? ⟨ga, p, none⟩ = some u ∧ W.cell? ⟨g2, m + 1, none⟩ = some um1) w6) := Lib.hid ⟨hcub, hcmb⟩
          have HCLb : Hid ((fun W : World => W.cell? ⟨ga, p, none⟩ = some u ∧ W.cell? ⟨g2, m + 1, none⟩ = some um1) w6.drew) := Lib.hid ⟨(Kept.refl w6).drew.cell hcub, (Kept.refl w6).drew.cell hcmb⟩
          clear hcu hcm hcm1 hw1
          go_wp2_with fail
          go_region_held3 (fun W => W.cell? ⟨ga, p, none⟩ = some u ∧ W.cell? ⟨g2, m + 1, none⟩ = some um1)
            (with_reducible first | exact HCL8.out | exact HCL7.out | exact HCLb.out | exact HCLa.out)
            (first
            | (go_at_call 117; (with_reducible refine (HNT.out _ u A _ (HE6.out.kept (Kept.refl _).drew) (HU6.out.kept (Kept.refl _).drew) HGP.out).mono ?_); rintro en w7 ⟨⟨v7, rfl, hv7⟩, he7, ho7⟩; have ho7' := OnlyAt.trans (OnlyAt.kept (Kept.refl w6).drew) ho7; have HO7 := Lib.hid ho7'; have HV7 := Lib.hid hv7; have HE7 := Lib.hid he7; have HM7 := Lib.hid (HM6.out.err HE6.out ho7'); have hcuc := ho7'.cell HNA.out hcub; have hcmc := ho7'.cell HN2.out hcmb; have HCL7 : Hid ((fun W : World => W.cell? ⟨ga, p, none⟩ = some u ∧ W.cell? ⟨g2, m + 1, none⟩ = some um1) w7) := Lib.hid ⟨hcuc, hcmc⟩; clear hv7 he7 ho7 ho7')
            | (go_at_call 118; (with_reducible refine (HMU.out _ v7 um1 _ Q1 _ HE7.out HV7.out HM7.out (GdP.doV fun r hr => HGP.out.not hr) HQ1.out).mono ?_); rintro en w8 ⟨⟨v8, rfl, hv8⟩, he8, ho8⟩; have HO8 := Lib.hid ho8; have HV8 := Lib.hid hv8; have HE8 := Lib.hid he8; have HCL8 : Hid ((fun W : World => W.cell? ⟨ga, p, none⟩ = some u ∧ W.cell? ⟨g2, m + 1, none⟩ = some um1) w8) := Lib.hid ⟨ho8.cell HNA.out hcuc, ho8.cell HN2.out hcmc⟩; clear hv8 he8 ho8))
          have HV68 := Lib.hid (HV6.out.err HE6.out (HO7.out.trans HO8.out))
          have HG8 : Hid (GdP (doV (doE (doE em (mulO A Q0)) (notO A)) (mulO (doV (doE em (mulO A Q0)) (notO A)) Q1))) := Lib.hid (GdP.doV fun r hr => GdP.mul (GdP.doV fun r hr => HGP.out.not hr) HQ1.out hr)
          have HO68 := Lib.hid ((HO6.out.trans HO7.out).trans HO8.out)
          clear hcub hcmb hcuc hcmc
          go_wp2_with (first
            | (go_at_call 118; (with_reducible refine (HAD.out _ v6 v8 _ _ _ HE8.out HV68.out HV8.out HG6.out HG8.out).mono ?_); rintro en w9 ⟨⟨v9, rfl, hv9⟩, he9, ho9⟩; have HO9 := Lib.hid (HO68.out.trans ho9); have HE9 := Lib.hid he9; have hz9 := HO9.out.size; have hzi := HOi.out.size; rw [HSD.out.1] at hv9; obtain ⟨a9, c9, rfl⟩ := hv9.shape; have HV9 := Lib.hid hv9; have HNX9 := Lib.hid (HNX.out.err HEi.out HO9.out); clear hv9 he9 ho9)
            | (at_builtin; refine app_pol rfl _ _ rfl wo.heap.size _ acc rfl (HNX9.out.kept ((Kept.refl _).alloc _)) _ _ (doV em (selO A Q0 Q1)) rfl (by simp) (HV9.out.kept ((Kept.refl _).alloc _)) (by omega) (by simp; omega) ?_; intro nv' w10 hown10 hg10 hb10; have O10 := Lib.hid hown10; clear hown10))
          go_roundw
          case rel =>
            refine ⟨m + 1, by omega, by go_num, ?_, Lib.hid ?_, Lib.hid (((HOi.out.trans HO9.out).onKept ((Kept.refl _).alloc _)).below hb10)⟩
            · rw [HRW.out]; exact O10.out
            · have h := (HE9.out.kept ((Kept.refl w9).alloc _)).below hb10 HGW.out
              rw [HSD.out.2] at h
              rw [HRW.out]; exact h
          case measure => simp [intOf]; omega
        · have e : m = k := by omega
          subst e
          have HON2 := Lib.hid (hon.mono hsz)
          clear hon
          go_wp2
          go_roundw
          case rel => exact ⟨p, by omega, by go_num, by rw [HS1.out]; exact HON2.out, Lib.hid (by rw [HS1.out]; exact HEi.out), Lib.hid (HO.out.trans HOi.out)⟩
          case measure => simp [intOf]
    · have e : q = 0 := by omega
      subst e
      rw [Nat.sub_zero] at hot htl HE
      rw [← HRR.out] at hot htl HE
      obtain ⟨uk, hck, huk⟩ := hot.cell k (by omega)
      have hki : (k : Int) < ((k + 1 : Nat) : Int) := by omega
      have hki2 : (k : Int) < (k : Int) + 1 := by omega
      have HUK : Hid (TrmsAt wr uk (polT (R.1.getD k []))) := Lib.hid (by
        rw [show R.1.getD k [] = R.1[k] by simp [List.getD_eq_getElem?_getD, show k < R.1.length by omega]]
        exact huk)
      clear huk hot
      go_wp2
      go_ret
      exact ⟨⟨_, rfl, HUK.out⟩, HE.out, HO.out⟩
end Go.Proofs.YtpaedhlacbpmpaaGreatDoor

/-
  Plain: folds with the flag of the first error.
-/
namespace Go.Proofs.YtpaedhlacbpmpaaGreatDoor

def foldN (op : Pol → Pol → Option Pol) : Pol → Bool → List Pol → Pol × Bool
  | p, e, [] => (p, e)
  | p, e, a :: l => foldN op (doV e (op p a)) (doE e (op p a)) l
theorem foldN_snoc (op : Pol → Pol → Option Pol) (a : Pol) : ∀ (l : List Pol) (p : Pol) (e : Bool), foldN op p e (l ++ [a]) = (doV (foldN op p e l).2 (op (foldN op p e l).1 a), doE (foldN op p e l).2 (op (foldN op p e l).1 a)) := by
  intro l
  induction l with
  | nil => intro p e; rfl
  | cons b l ih => intro p e; exact ih _ _
theorem foldN_true (op : Pol → Pol → Option Pol) : ∀ (l : List Pol) (p : Pol), (foldN op p true l).2 = true := by
  intro l
  induction l with
  | nil => intro p; rfl
  | cons b l ih => intro p; exact ih _
theorem foldN_p (op : Pol → Pol → Option Pol) : ∀ (l : List Pol) (p : Pol), foldO op p l = if (foldN op p false l).2 = true then none else some (foldN op p false l).1 := by
  intro l
  induction l with
  | nil => intro p; rfl
  | cons b l ih =>
    intro p
    unfold foldO foldN
    cases h : op p b with
    | none => rw [show doE false (none : Option Pol) = true from rfl, foldN_true]; rfl
    | some r => exact ih r
theorem foldN_good {op : Pol → Pol → Option Pol} (hop : ∀ {p q r}, GdP p → GdP q → op p q = some r → GdP r) : ∀ (l : List Pol) (p : Pol) (e : Bool), GdP p → (∀ a ∈ l, GdP a) → GdP (foldN op p e l).1 := by
  intro l
  induction l with
  | nil => intro p e hp _; exact hp
  | cons b l ih => intro p e hp hl; exact ih _ _ (GdP.doV fun r hr => hop hp (hl b (List.mem_cons_self ..)) hr) fun a ha => hl a (List.mem_cons_of_mem _ ha)
theorem GdP.mulN {p a r : Pol} (hp : GdP p) (ha : GdP a) (h : Go.Proofs.YtpaedhlacbpmpaaGreatDoor.mulN p a = some r) : GdP r := by
  obtain ⟨n, hn, hr⟩ := Option.bind_eq_some_iff.1 h
  exact hp.mul (ha.not hn) hr
theorem mulN_do (e : Bool) (p a : Pol) : doV (doE e (notO a)) (mulO p (doV e (notO a))) = doV e (mulN p a) ∧ doE (doE e (notO a)) (mulO p (doV e (notO a))) = doE e (mulN p a) := by
  unfold mulN
  cases e
  · cases notO a <;> simp [doV, doE]
  · simp [doV, doE]
theorem xor_do (e : Bool) (p a : Pol) :
    doV (doE (doE (doE e (addO p a)) (mulO p a)) (subO (doV e (addO p a)) (doV (doE e (addO p a)) (mulO p a)))) (subO (doV (doE (doE e (addO p a)) (mulO p a)) (subO (doV e (addO p a)) (doV (doE e (addO p a)) (mulO p a)))) (doV (doE e (addO p a)) (mulO p a))) = doV e (xorO p a) ∧
    doE (doE (doE (doE e (addO p a)) (mulO p a)) (subO (doV e (addO p a)) (doV (doE e (addO p a)) (mulO p a)))) (subO (doV (doE (doE e (addO p a)) (mulO p a)) (subO (doV e (addO p a)) (doV (doE e (addO p a)) (mulO p a)))) (doV (doE e (addO p a)) (mulO p a))) = doE e (xorO p a) := by
  unfold xorO
  cases e
  · cases h1 : addO p a with
    | none => simp [doV, doE]
    | some x =>
      cases h2 : mulO p a with
      | none => simp [doV, doE]
      | some m =>
        simp only [doV, doE]
        simp
        cases h3 : subO x m with
        | none => simp
        | some y => simp
  · simp [doV, doE]
/-- Accepted and short. -/
def AcS (p : Pol) : Prop := Acc p ∧ ShP 1000 p
theorem GdP.s {p : Pol} (h : GdP p) : AcS p := ⟨h.acc, h.sh⟩
theorem PolB.s {B : Nat} {p : Pol} (h : PolB B p) (hB : B ≤ 64) : AcS p := ⟨h.acc, h.sh hB⟩
theorem AcS.nil : AcS [] := GdP.nil.s
/-- What Add, Sub make of good ones and of what they made. -/
theorem xor_s1 {e : Bool} {p a : Pol} (hp : GdP p) (ha : GdP a) : AcS (doV e (addO p a)) := by
  obtain ⟨_, hp⟩ := hp
  obtain ⟨_, ha⟩ := ha
  unfold doV
  cases e
  · cases h : addO p a with
    | none => exact AcS.nil
    | some x => exact (hp.b.add ha.b h).1.s (by omega)
  · exact AcS.nil
theorem xor_s2 {e e1 e2 : Bool} {p a : Pol} (hp : GdP p) (ha : GdP a) : AcS (doV e2 (subO (doV e (addO p a)) (doV e1 (mulO p a)))) := by
  obtain ⟨b, hp⟩ := hp
  obtain ⟨c, ha⟩ := ha
  have h1 : ∃ B, B ≤ 2 ∧ PolB B (doV e (addO p a)) := by
    unfold doV
    cases e
    · cases h : addO p a with
      | none => exact ⟨1, by omega, PolV.zero.b⟩
      | some x => exact ⟨_, by omega, (hp.b.add ha.b h).1⟩
    · exact ⟨1, by omega, PolV.zero.b⟩
  have h2 : ∃ B, B ≤ 2 ∧ PolB B (doV e1 (mulO p a)) := by
    unfold doV
    cases e1
    · cases h : mulO p a with
      | none => exact ⟨1, by omega, PolV.zero.b⟩
      | some x => exact ⟨_, by omega, (hp.mul ha h).b⟩
    · exact ⟨1, by omega, PolV.zero.b⟩
  obtain ⟨B1, hB1, h1⟩ := h1
  obtain ⟨B2, hB2, h2⟩ := h2
  generalize doV e (addO p a) = x at *
  generalize doV e1 (mulO p a) = y at *
  unfold doV
  cases e2
  · cases h : subO x y with
    | none => exact AcS.nil
    | some z => exact (h1.sub h2 h).1.s (by omega)
  · exact AcS.nil
end Go.Proofs.YtpaedhlacbpmpaaGreatDoor

/-
  Walks: work.node, kind by kind. Printed by gen_PE2.py.
-/
namespace Go.Proofs.YtpaedhlacbpmpaaGreatDoor
open Go.RowKit Go.Maps

/-- What node gives. -/
def NdP (w' : World) (g : Nat) (en : Ending) (o : Option Pol) : Prop := ∃ v r, en = .returned v ∧ TrmsAt w' v (polT r) ∧ ErrAt w' g o.isNone ∧ ∀ p, o = some p → r = p
theorem node_cells (w : World) (kd k : Int) (x : Value) : (w.alloc (.cells #[.int .i64 kd, .int .i64 k, x] 80)).cell? ⟨w.heap.size, 0, none⟩ = some (.int .i64 kd) ∧ (w.alloc (.cells #[.int .i64 kd, .int .i64 k, x] 80)).cell? ⟨w.heap.size, 1, none⟩ = some (.int .i64 k) ∧ (w.alloc (.cells #[.int .i64 kd, .int .i64 k, x] 80)).cell? ⟨w.heap.size, 2, none⟩ = some x := by
  have hr := RowAt.made w #[.int .i64 kd, .int .i64 k, x] 80
  have q0 := hr.cell (i := 0) (by simp)
  have q1 := hr.cell (i := 1) (by simp)
  have q2 := hr.cell (i := 2) (by simp)
  simp only [List.getElem_cons_succ, List.getElem_cons_zero] at q0 q1 q2
  exact ⟨q0, q1, q2⟩
theorem NdP.fold {w' : World} {g : Nat} {v : Value} {o : Option Pol} {R : Pol × Bool} (ho : o = if R.2 = true then none else some R.1) (hv : TrmsAt w' v (polT R.1)) (he : ErrAt w' g R.2) : NdP w' g (.returned v) o := by
  subst ho
  obtain ⟨p, e⟩ := R
  refine ⟨v, p, rfl, hv, ?_, ?_⟩
  · cases e <;> exact he
  · intro q hq
    cases e
    · cases hq; rfl
    · cases hq
theorem NdP.one {w' : World} {g : Nat} {v : Value} {o : Option Pol} (hv : TrmsAt w' v (polT (doV false o))) (he : ErrAt w' g (doE false o)) : NdP w' g (.returned v) o := by
  refine ⟨v, doV false o, rfl, hv, he, ?_⟩
  intro q hq
  rw [hq]; rfl
theorem or_p (A : Pol) (T : List Pol) : ((notO A).bind fun n => (foldO mulN n T).bind notO) = if doE (foldN mulN (doV false (notO A)) (doE false (notO A)) T).2 (notO (foldN mulN (doV false (notO A)) (doE false (notO A)) T).1) = true then none else some (doV (foldN mulN (doV false (notO A)) (doE false (notO A)) T).2 (notO (foldN mulN (doV false (notO A)) (doE false (notO A)) T).1)) := by
  cases h : notO A with
  | none =>
    rw [show doE false (none : Option Pol) = true from rfl, foldN_true]
    rfl
  | some n =>
    show (foldO mulN n T).bind notO = _
    rw [foldN_p, show doE false (some n) = false from rfl, show doV false (some n) = n from rfl]
    generalize foldN mulN n false T = R
    obtain ⟨p, e⟩ := R
    cases e
    · show notO p = _
      cases notO p <;> rfl
    · rfl
set_option maxRecDepth 100000 in
set_option maxHeartbeats 16000000 in
theorem wnode0 (g : Nat) (v : Value) (k : Int) (na : Option Addr) (nn nc : Nat) (w : World) (hg : ErrAt w g false) (hv : ∃ a n c, v = .slice a n c) (hk0 : 0 ≤ k) (hk1 : k ≤ 1) :
    Calls Tryz.prog 85 #[.pointer (some ⟨g, 0, none⟩), .agg #[.int .i64 0, .int .i64 k, .slice na nn nc], v] w fun en w' => NdP w' g en (some (constP (k : Rat))) ∧ OnlyAt g w w' := by
  have HOF : Hid (∀ W, Calls Tryz.prog 46 #[.int .i64 k] W fun e w' => (∃ v', e = .returned v' ∧ RatAt w' v' (canR (k : Rat))) ∧ Kept W w') := Lib.hid fun W => rof_any k W (by omega) (by omega)
  have HCS : Hid (∀ W u, RatAt W u (canR (k : Rat)) → Calls Tryz.prog 30 #[u] W fun e w' => (∃ v', e = .returned v' ∧ TrmsAt w' v' (polT (constP (k : Rat)))) ∧ Kept W w') := Lib.hid fun W u hu => by
    have hs : (canR (k : Rat)).Short 34359738368 := by
      have h := can_int_short (z := k) (k := 1) (by omega) (by omega)
      exact ⟨Nat.le_trans h.1 (by omega), Nat.le_trans h.2 (by omega)⟩
    have h := pconst_any u _ W hu hs
    rw [ratOf_can] at h
    exact h
  obtain ⟨va, vn, vc, rfl⟩ := hv
  obtain ⟨x0, x1, x2⟩ := node_cells w 0 k (.slice na nn nc)
  have hK1 : Kept w (w.alloc (.cells #[.int .i64 0, .int .i64 k, .slice na nn nc] 80)) := (Kept.refl _).alloc _
  have HG := Lib.hid hg
  have HK1 := Lib.hid hK1
  clear hg hK1
  go_enter Tryz.func85, Tryz.ntmps85
  go_wp2_with fail
  refine (HOF.out _).mono ?_
  rintro e w2 ⟨⟨v2, rfl, hv2⟩, hk2⟩
  obtain ⟨y1, y2, y3, a1, c1, a2, c2, rfl⟩ := hv2.parts
  have HV2 := Lib.hid hv2
  have HK2 := Lib.hid (HK1.out.trans hk2)
  clear hv2 hk2 x0 x1 x2
  go_wp2_with fail
  refine (HCS.out _ _ HV2.out).mono ?_
  rintro e w3 ⟨⟨v3, rfl, hv3⟩, hk3⟩
  have HV3 := Lib.hid hv3
  have HK3 := Lib.hid (HK2.out.trans hk3)
  clear hv3 hk3
  go_wp2
  go_ret
  exact ⟨⟨_, _, rfl, HV3.out, HG.out.kept HK3.out, fun p hp => by cases hp; rfl⟩, OnlyAt.kept HK3.out⟩
set_option maxRecDepth 100000 in
set_option maxHeartbeats 16000000 in
theorem wnode1 (g B : Nat) (v : Value) (args : List Pol) (k : Int) (na : Option Addr) (nn nc : Nat) (w : World) (hg : ErrAt w g false) (hv : OwnPols w B v args) (ha : ∀ p ∈ args, GdP p) (hpos : 0 < args.length) (hl9 : args.length ≤ 1000) :
    Calls Tryz.prog 85 #[.pointer (some ⟨g, 0, none⟩), .agg #[.int .i64 1, .int .i64 k, .slice na nn nc], v] w fun en w' => NdP w' g en (notO (args.getD 0 [])) ∧ OnlyAt g w w' := by
  have hne : args ≠ [] := by intro e; rw [e] at hpos; simp at hpos
  have HNT : Hid (∀ (e : Bool) (v : Value) (p : Pol) (W : World), ErrAt W g e → TrmsAt W v (polT p) → GdP p → Calls Tryz.prog 117 #[.pointer (some ⟨g, 0, none⟩), v] W fun en w' => (∃ v', en = .returned v' ∧ TrmsAt w' v' (polT (doV e (notO p)))) ∧ ErrAt w' g (doE e (notO p)) ∧ OnlyAt g W w') :=
    Lib.hid fun e v p W h1 h2 h4 => wnot_any g e v p W h1 h2 h4.acc h4.sh
  obtain ⟨ga, ca, rfl, _, hga, hca⟩ := hv.shape hne
  obtain ⟨m, hm⟩ : ∃ m, args.length = m + 1 := ⟨args.length - 1, by omega⟩
  obtain ⟨T, hT⟩ : ∃ T, T = args.tail := ⟨_, rfl⟩
  have HTL : Hid (T.length = m) := Lib.hid (by rw [hT]; simp; omega)
  have HTG : Hid (∀ j (h : j < T.length) (h2 : j + 1 < args.length), T[j] = args[j + 1]) := Lib.hid (by subst hT; intro j h h2; simp)
  have HTA : Hid (∀ p ∈ T, GdP p) := Lib.hid fun p hp => ha p (List.mem_of_mem_tail (by rw [← hT]; exact hp))
  clear hT
  rw [hm] at hpos hl9 hv hca ⊢
  have hm9 : m ≤ 1000 := by omega
  obtain ⟨x0, x1, x2⟩ := node_cells w 1 k (.slice na nn nc)
  have hK1 : Kept w (w.alloc (.cells #[.int .i64 1, .int .i64 k, .slice na nn nc] 80)) := (Kept.refl _).alloc _
  have HV1 := Lib.hid (hv.kept hK1)
  have HE1 := Lib.hid (hg.kept hK1)
  have HK1 := Lib.hid hK1
  have HN := Lib.hid hm
  have HGA := Lib.hid (gdp_getD ha)
  obtain ⟨u0, hc0, hu0⟩ := HV1.out.cell 0 (by omega)
  have HU0 := Lib.hid hu0
  obtain ⟨A0, hA0⟩ : ∃ A, A = args[0] := ⟨_, rfl⟩
  rw [← hA0] at HU0
  have HA0 : Hid (GdP A0) := Lib.hid (by rw [hA0]; exact ha _ (List.getElem_mem _))
  have hA0d : args.getD 0 [] = A0 := by rw [hA0]; simp [List.getD_eq_getElem?_getD, show 0 < args.length by omega]
  have hi0 : (0 : Int) ≤ 0 ∧ (0 : Int) < (m : Int) + 1 := by omega
  have hi0b : (0 : Int) < ((m + 1 : Nat) : Int) := by omega
  have hi1 : (1 : Int) ≤ ((m + 1 : Nat) : Int) := by omega
  obtain ⟨o, ho⟩ : ∃ o, o = notO (args.getD 0 []) := ⟨_, rfl⟩
  rw [← ho]
  rw [hA0d] at ho
  have HOO := Lib.hid ho
  obtain ⟨w1, hw1⟩ : ∃ w1, w1 = w.alloc (.cells #[.int .i64 1, .int .i64 k, .slice na nn nc] 80) := ⟨_, rfl⟩
  have HW1 := Lib.hid hw1
  rw [← hw1] at HV1 HE1 HU0 HK1
  clear hg hv ha hu0 hA0 hA0d ho hK1 hw1 hm hne
  go_enter Tryz.func85, Tryz.ntmps85
  go_wp2_with fail
  rw [← HW1.out]
  refine (HNT.out false u0 A0 w1 HE1.out HU0.out HA0.out).mono ?_
  rintro en w2 ⟨⟨v2, rfl, hv2⟩, he2, ho2⟩
  have HV2 := Lib.hid hv2
  have HE2 := Lib.hid he2
  have HO2 := Lib.hid ho2
  clear x0 x1 x2 hc0 hv2 he2 ho2
  go_wp2
  go_ret
  exact ⟨by rw [HOO.out]; exact NdP.one HV2.out HE2.out, (OnlyAt.kept HK1.out).trans HO2.out⟩
set_option maxRecDepth 100000 in
set_option maxHeartbeats 16000000 in
theorem wnode2 (g B : Nat) (v : Value) (args : List Pol) (k : Int) (na : Option Addr) (nn nc : Nat) (w : World) (hg : ErrAt w g false) (hv : OwnPols w B v args) (ha : ∀ p ∈ args, GdP p) (hpos : 0 < args.length) (hl9 : args.length ≤ 1000) :
    Calls Tryz.prog 85 #[.pointer (some ⟨g, 0, none⟩), .agg #[.int .i64 2, .int .i64 k, .slice na nn nc], v] w fun en w' => NdP w' g en (foldO mulO (args.getD 0 []) args.tail) ∧ OnlyAt g w w' := by
  have hne : args ≠ [] := by intro e; rw [e] at hpos; simp at hpos
  have HMU : Hid (∀ (e : Bool) (v u : Value) (p q : Pol) (W : World), ErrAt W g e → TrmsAt W v (polT p) → TrmsAt W u (polT q) → AcS p → AcS q → Calls Tryz.prog 118 #[.pointer (some ⟨g, 0, none⟩), .func (.func 15) #[] #[], v, u] W fun en w' => (∃ v', en = .returned v' ∧ TrmsAt w' v' (polT (doV e (mulO p q)))) ∧ ErrAt w' g (doE e (mulO p q)) ∧ OnlyAt g W w') :=
    Lib.hid fun e v u p q W h1 h2 h3 h4 h5 => dmul_any g e v u p q W h1 h2 h3 h4.1 h5.1 h4.2 h5.2
  obtain ⟨ga, ca, rfl, _, hga, hca⟩ := hv.shape hne
  obtain ⟨m, hm⟩ : ∃ m, args.length = m + 1 := ⟨args.length - 1, by omega⟩
  obtain ⟨T, hT⟩ : ∃ T, T = args.tail := ⟨_, rfl⟩
  have HTL : Hid (T.length = m) := Lib.hid (by rw [hT]; simp; omega)
  have HTG : Hid (∀ j (h : j < T.length) (h2 : j + 1 < args.length), T[j] = args[j + 1]) := Lib.hid (by subst hT; intro j h h2; simp)
  have HTA : Hid (∀ p ∈ T, GdP p) := Lib.hid fun p hp => ha p (List.mem_of_mem_tail (by rw [← hT]; exact hp))
  rw [← hT]
  rw [hm] at hpos hl9 hv hca ⊢
  have hm9 : m ≤ 1000 := by omega
  obtain ⟨x0, x1, x2⟩ := node_cells w 2 k (.slice na nn nc)
  have hK1 : Kept w (w.alloc (.cells #[.int .i64 2, .int .i64 k, .slice na nn nc] 80)) := (Kept.refl _).alloc _
  have HV1 := Lib.hid (hv.kept hK1)
  have HE1 := Lib.hid (hg.kept hK1)
  have HK1 := Lib.hid hK1
  have HN := Lib.hid hm
  have HGA := Lib.hid (gdp_getD ha)
  obtain ⟨u0, hc0, hu0⟩ := HV1.out.cell 0 (by omega)
  have HU0 := Lib.hid hu0
  obtain ⟨A0, hA0⟩ : ∃ A, A = args[0] := ⟨_, rfl⟩
  rw [← hA0] at HU0
  have HA0 : Hid (GdP A0) := Lib.hid (by rw [hA0]; exact ha _ (List.getElem_mem _))
  have hA0d : args.getD 0 [] = A0 := by rw [hA0]; simp [List.getD_eq_getElem?_getD, show 0 < args.length by omega]
  have hi0 : (0 : Int) ≤ 0 ∧ (0 : Int) < (m : Int) + 1 := by omega
  have hi0b : (0 : Int) < ((m + 1 : Nat) : Int) := by omega
  have hi1 : (1 : Int) ≤ ((m + 1 : Nat) : Int) := by omega
  obtain ⟨o, ho⟩ : ∃ o, o = foldO mulO (args.getD 0 []) T := ⟨_, rfl⟩
  rw [← ho]
  rw [hA0d] at ho
  have HOO := Lib.hid ho
  obtain ⟨w1, hw1⟩ : ∃ w1, w1 = w.alloc (.cells #[.int .i64 2, .int .i64 k, .slice na nn nc] 80) := ⟨_, rfl⟩
  have HW1 := Lib.hid hw1
  rw [← hw1] at HV1 HE1 HU0 HK1
  clear hg hv ha hu0 hA0 hA0d ho hK1 hw1 hm hT hne
  go_enter Tryz.func85, Tryz.ntmps85
  go_wp2_with fail
  all_goals rw [← HW1.out]
  all_goals clear x0 x1 x2 hc0
  all_goals
    go_loopg [7, 9, 41] m (fun kx s7 s9 s41 wr => ∃ j : Nat, j ≤ m ∧ s41 = .int .i64 j ∧ m - j ≤ kx ∧ Hid (TrmsAt wr s7 (polT (foldN mulO A0 false (T.take j)).1)) ∧ Hid (ErrAt wr g (foldN mulO A0 false (T.take j)).2) ∧ Hid (OnlyAt g w1 wr))
    case atStart => exact ⟨0, Nat.zero_le _, rfl, by omega, HU0, HE1, Lib.hid (OnlyAt.refl _ _)⟩
    case round =>
      obtain ⟨j, hj, rfl, hjx, HT7, HE7, HO7⟩ := hrel
      by_cases hlt : j < m
      · have hji : (j : Int) < (m : Int) := by omega
        first
          | (exfalso; omega)
          | (have HAR := Lib.hid (HV1.out.err HE1.out HO7.out)
             have hj1 : j + 1 < args.length := by have := HN.out; omega
             have hjT : j < T.length := by have := HTL.out; omega
             obtain ⟨u, hcu, hu⟩ := HAR.out.cell (j + 1) hj1
             rw [Nat.add_comm] at hcu
             have HU := Lib.hid hu
             obtain ⟨A, hA⟩ : ∃ A, A = args[j + 1] := ⟨_, rfl⟩
             rw [← hA] at HU
             have hTj : T[j] = A := by rw [hA]; exact HTG.out j hjT hj1
             have HGB : Hid (GdP A) := Lib.hid (by rw [← hTj]; exact HTA.out _ (List.getElem_mem _))
             have HST : Hid (foldN mulO A0 false (T.take (j + 1)) = (doV (foldN mulO A0 false (T.take j)).2 (mulO (foldN mulO A0 false (T.take j)).1 A), doE (foldN mulO A0 false (T.take j)).2 (mulO (foldN mulO A0 false (T.take j)).1 A))) := Lib.hid (by
               rw [List.take_succ_eq_append_getElem hjT, foldN_snoc, hTj])
             have HGQ : Hid (GdP (foldN mulO A0 false (T.take j)).1) := Lib.hid (foldN_good GdP.mul _ _ _ HA0.out fun a ha => HTA.out a (List.mem_of_mem_take ha))
             obtain ⟨P, hP⟩ : ∃ P, P = (foldN mulO A0 false (T.take j)).1 := ⟨_, rfl⟩
             obtain ⟨E, hE⟩ : ∃ E, E = (foldN mulO A0 false (T.take j)).2 := ⟨_, rfl⟩
             rw [← hP] at HT7 HGQ
             rw [← hE] at HE7
             rw [← hP, ← hE] at HST
             clear hu hA hTj hP hE hj1 hjT
             go_wp2_with (go_at_call 118; (with_reducible refine (HMU.out E _ u P A _ HE7.out HT7.out HU.out HGQ.out.s HGB.out.s).mono ?_); rintro en w3 ⟨⟨v3, rfl, hv3⟩, he3, ho3⟩; have HV3 := Lib.hid hv3; have HE3 := Lib.hid he3; have HO3 := Lib.hid ho3; clear hv3 he3 ho3)
             go_roundg (m - (j + 1))
             case measure => omega
             case rel => exact ⟨j + 1, by omega, by go_num, Nat.le_refl _, Lib.hid (by rw [HST.out]; exact HV3.out), Lib.hid (by rw [HST.out]; exact HE3.out), Lib.hid (HO7.out.trans HO3.out)⟩)
      · have hje : j = m := by omega
        have hji : ¬ (j : Int) < (m : Int) := by omega
        have htk : T.take j = T := List.take_of_length_le (by have := HTL.out; omega)
        rw [htk] at HT7 HE7
        clear htk hje
        go_wp2
        go_ret
        exact ⟨NdP.fold (by rw [HOO.out]; exact foldN_p _ _ _) HT7.out HE7.out, (OnlyAt.kept HK1.out).trans HO7.out⟩
set_option maxRecDepth 100000 in
set_option maxHeartbeats 16000000 in
theorem wnode3 (g B : Nat) (v : Value) (args : List Pol) (k : Int) (na : Option Addr) (nn nc : Nat) (w : World) (hg : ErrAt w g false) (hv : OwnPols w B v args) (ha : ∀ p ∈ args, GdP p) (hpos : 0 < args.length) (hl9 : args.length ≤ 1000) :
    Calls Tryz.prog 85 #[.pointer (some ⟨g, 0, none⟩), .agg #[.int .i64 3, .int .i64 k, .slice na nn nc], v] w fun en w' => NdP w' g en ((notO (args.getD 0 [])).bind fun n => (foldO mulN n args.tail).bind notO) ∧ OnlyAt g w w' := by
  have hne : args ≠ [] := by intro e; rw [e] at hpos; simp at hpos
  have HMU : Hid (∀ (e : Bool) (v u : Value) (p q : Pol) (W : World), ErrAt W g e → TrmsAt W v (polT p) → TrmsAt W u (polT q) → AcS p → AcS q → Calls Tryz.prog 118 #[.pointer (some ⟨g, 0, none⟩), .func (.func 15) #[] #[], v, u] W fun en w' => (∃ v', en = .returned v' ∧ TrmsAt w' v' (polT (doV e (mulO p q)))) ∧ ErrAt w' g (doE e (mulO p q)) ∧ OnlyAt g W w') :=
    Lib.hid fun e v u p q W h1 h2 h3 h4 h5 => dmul_any g e v u p q W h1 h2 h3 h4.1 h5.1 h4.2 h5.2
  have HNT : Hid (∀ (e : Bool) (v : Value) (p : Pol) (W : World), ErrAt W g e → TrmsAt W v (polT p) → GdP p → Calls Tryz.prog 117 #[.pointer (some ⟨g, 0, none⟩), v] W fun en w' => (∃ v', en = .returned v' ∧ TrmsAt w' v' (polT (doV e (notO p)))) ∧ ErrAt w' g (doE e (notO p)) ∧ OnlyAt g W w') :=
    Lib.hid fun e v p W h1 h2 h4 => wnot_any g e v p W h1 h2 h4.acc h4.sh
  obtain ⟨ga, ca, rfl, _, hga, hca⟩ := hv.shape hne
  obtain ⟨m, hm⟩ : ∃ m, args.length = m + 1 := ⟨args.length - 1, by omega⟩
  obtain ⟨T, hT⟩ : ∃ T, T = args.tail := ⟨_, rfl⟩
  have HTL : Hid (T.length = m) := Lib.hid (by rw [hT]; simp; omega)
  have HTG : Hid (∀ j (h : j < T.length) (h2 : j + 1 < args.length), T[j] = args[j + 1]) := Lib.hid (by subst hT; intro j h h2; simp)
  have HTA : Hid (∀ p ∈ T, GdP p) := Lib.hid fun p hp => ha p (List.mem_of_mem_tail (by rw [← hT]; exact hp))
  rw [← hT]
  rw [hm] at hpos hl9 hv hca ⊢
  have hm9 : m ≤ 1000 := by omega
  obtain ⟨x0, x1, x2⟩ := node_cells w 3 k (.slice na nn nc)
  have hK1 : Kept w (w.alloc (.cells #[.int .i64 3, .int .i64 k, .slice na nn nc] 80)) := (Kept.refl _).alloc _
  have HV1 := Lib.hid (hv.kept hK1)
  have HE1 := Lib.hid (hg.kept hK1)
  have HK1 := Lib.hid hK1
  have HN := Lib.hid hm
  have HGA := Lib.hid (gdp_getD ha)
  obtain ⟨u0, hc0, hu0⟩ := HV1.out.cell 0 (by omega)
  have HU0 := Lib.hid hu0
  obtain ⟨A0, hA0⟩ : ∃ A, A = args[0] := ⟨_, rfl⟩
  rw [← hA0] at HU0
  have HA0 : Hid (GdP A0) := Lib.hid (by rw [hA0]; exact ha _ (List.getElem_mem _))
  have hA0d : args.getD 0 [] = A0 := by rw [hA0]; simp [List.getD_eq_getElem?_getD, show 0 < args.length by omega]
  have hi0 : (0 : Int) ≤ 0 ∧ (0 : Int) < (m : Int) + 1 := by omega
  have hi0b : (0 : Int) < ((m + 1 : Nat) : Int) := by omega
  have hi1 : (1 : Int) ≤ ((m + 1 : Nat) : Int) := by omega
  obtain ⟨o, ho⟩ : ∃ o, o = (notO (args.getD 0 [])).bind fun n => (foldO mulN n T).bind notO := ⟨_, rfl⟩
  rw [← ho]
  rw [hA0d] at ho
  have HOO := Lib.hid ho
  obtain ⟨w1, hw1⟩ : ∃ w1, w1 = w.alloc (.cells #[.int .i64 3, .int .i64 k, .slice na nn nc] 80) := ⟨_, rfl⟩
  have HW1 := Lib.hid hw1
  rw [← hw1] at HV1 HE1 HU0 HK1
  clear hg hv ha hu0 hA0 hA0d ho hK1 hw1 hm hT hne
  go_enter Tryz.func85, Tryz.ntmps85
  go_wp2_with fail
  rw [← HW1.out]
  refine (HNT.out false u0 A0 w1 HE1.out HU0.out HA0.out).mono ?_
  rintro en w2 ⟨⟨v2, rfl, hv2⟩, he2, ho2⟩
  have HV2 := Lib.hid hv2
  have HE2 := Lib.hid he2
  have HO2 := Lib.hid ho2
  have HG2 : Hid (GdP (doV false (notO A0))) := Lib.hid (GdP.doV fun r hr => HA0.out.not hr)
  clear x0 x1 x2 hc0 hv2 he2 ho2
  go_wp2_with fail
  all_goals
    go_loopg [10, 12, 61] m (fun kx s10 s12 s61 wr => ∃ j : Nat, j ≤ m ∧ s61 = .int .i64 j ∧ m - j ≤ kx ∧ Hid (TrmsAt wr s10 (polT (foldN mulN (doV false (notO A0)) (doE false (notO A0)) (T.take j)).1)) ∧ Hid (ErrAt wr g (foldN mulN (doV false (notO A0)) (doE false (notO A0)) (T.take j)).2) ∧ Hid (OnlyAt g w1 wr))
    case atStart => exact ⟨0, Nat.zero_le _, rfl, by omega, HV2, HE2, HO2⟩
    case round =>
      obtain ⟨j, hj, rfl, hjx, HT7, HE7, HO7⟩ := hrel
      by_cases hlt : j < m
      · have hji : (j : Int) < (m : Int) := by omega
        first
          | (exfalso; omega)
          | (have HAR := Lib.hid (HV1.out.err HE1.out HO7.out)
             have hj1 : j + 1 < args.length := by have := HN.out; omega
             have hjT : j < T.length := by have := HTL.out; omega
             obtain ⟨u, hcu, hu⟩ := HAR.out.cell (j + 1) hj1
             rw [Nat.add_comm] at hcu
             have HU := Lib.hid hu
             obtain ⟨A, hA⟩ : ∃ A, A = args[j + 1] := ⟨_, rfl⟩
             rw [← hA] at HU
             have hTj : T[j] = A := by rw [hA]; exact HTG.out j hjT hj1
             have HGB : Hid (GdP A) := Lib.hid (by rw [← hTj]; exact HTA.out _ (List.getElem_mem _))
             have HST : Hid (foldN mulN (doV false (notO A0)) (doE false (notO A0)) (T.take (j + 1)) = (doV (foldN mulN (doV false (notO A0)) (doE false (notO A0)) (T.take j)).2 (mulN (foldN mulN (doV false (notO A0)) (doE false (notO A0)) (T.take j)).1 A), doE (foldN mulN (doV false (notO A0)) (doE false (notO A0)) (T.take j)).2 (mulN (foldN mulN (doV false (notO A0)) (doE false (notO A0)) (T.take j)).1 A))) := Lib.hid (by
               rw [List.take_succ_eq_append_getElem hjT, foldN_snoc, hTj])
             have HGQ : Hid (GdP (foldN mulN (doV false (notO A0)) (doE false (notO A0)) (T.take j)).1) := Lib.hid (foldN_good GdP.mulN _ _ _ HG2.out fun a ha => HTA.out a (List.mem_of_mem_take ha))
             obtain ⟨P, hP⟩ : ∃ P, P = (foldN mulN (doV false (notO A0)) (doE false (notO A0)) (T.take j)).1 := ⟨_, rfl⟩
             obtain ⟨E, hE⟩ : ∃ E, E = (foldN mulN (doV false (notO A0)) (doE false (notO A0)) (T.take j)).2 := ⟨_, rfl⟩
             rw [← hP] at HT7 HGQ
             rw [← hE] at HE7
             rw [← hP, ← hE] at HST
             clear hu hA hTj hP hE hj1 hjT
             go_wp2_with (first
               | (go_at_call 117; (with_reducible refine (HNT.out E u A _ HE7.out HU.out HGB.out).mono ?_); rintro en w3 ⟨⟨v3, rfl, hv3⟩, he3, ho3⟩; have HV3 := Lib.hid hv3; have HE3 := Lib.hid he3; have HO3 := Lib.hid ho3; have HT3 := Lib.hid (HT7.out.err HE7.out ho3); clear hv3 he3 ho3)
               | (go_at_call 118; (with_reducible refine (HMU.out _ _ _ P _ _ HE3.out HT3.out HV3.out HGQ.out.s (GdP.doV fun r hr => HGB.out.not hr).s).mono ?_); rintro en w4 ⟨⟨v4, rfl, hv4⟩, he4, ho4⟩; have HV4 := Lib.hid hv4; have HE4 := Lib.hid he4; have HO4 := Lib.hid ho4; clear hv4 he4 ho4))
             have HMD := Lib.hid (mulN_do E P A)
             go_roundg (m - (j + 1))
             case measure => omega
             case rel => exact ⟨j + 1, by omega, by go_num, Nat.le_refl _, Lib.hid (by rw [HST.out, ← HMD.out.1]; exact HV4.out), Lib.hid (by rw [HST.out, ← HMD.out.2]; exact HE4.out), Lib.hid ((HO7.out.trans HO3.out).trans HO4.out)⟩)
      · have hje : j = m := by omega
        have hji : ¬ (j : Int) < (m : Int) := by omega
        have htk : T.take j = T := List.take_of_length_le (by have := HTL.out; omega)
        rw [htk] at HT7 HE7
        clear htk hje
        have HGR : Hid (GdP (foldN mulN (doV false (notO A0)) (doE false (notO A0)) T).1) := Lib.hid (foldN_good GdP.mulN _ _ _ HG2.out HTA.out)
        go_wp2_with (go_at_call 117; (with_reducible refine (HNT.out _ _ _ _ HE7.out HT7.out HGR.out).mono ?_); rintro en w3 ⟨⟨v3, rfl, hv3⟩, he3, ho3⟩; have HV3 := Lib.hid hv3; have HE3 := Lib.hid he3; have HO3 := Lib.hid ho3; clear hv3 he3 ho3)
        go_ret
        exact ⟨NdP.fold (R := (_, _)) (by rw [HOO.out]; exact or_p _ _) HV3.out HE3.out, (OnlyAt.kept HK1.out).trans (HO7.out.trans HO3.out)⟩
end Go.Proofs.YtpaedhlacbpmpaaGreatDoor

/-
  Walks: work.node: xor, vote, all kinds. Printed by gen_PE2.py.
-/
namespace Go.Proofs.YtpaedhlacbpmpaaGreatDoor
open Go.RowKit Go.Maps

set_option maxRecDepth 100000 in
set_option maxHeartbeats 16000000 in
theorem wnode5 (g B : Nat) (v : Value) (args : List Pol) (k : Int) (na : Option Addr) (nn nc : Nat) (w : World) (hg : ErrAt w g false) (hv : OwnPols w B v args) (ha : ∀ p ∈ args, GdP p) (hpos : 0 < args.length) (hl9 : args.length ≤ 1000) :
    Calls Tryz.prog 85 #[.pointer (some ⟨g, 0, none⟩), .agg #[.int .i64 5, .int .i64 k, .slice na nn nc], v] w fun en w' => NdP w' g en (foldO xorO (args.getD 0 []) args.tail) ∧ OnlyAt g w w' := by
  have hne : args ≠ [] := by intro e; rw [e] at hpos; simp at hpos
  have HMU : Hid (∀ (e : Bool) (v u : Value) (p q : Pol) (W : World), ErrAt W g e → TrmsAt W v (polT p) → TrmsAt W u (polT q) → AcS p → AcS q → Calls Tryz.prog 118 #[.pointer (some ⟨g, 0, none⟩), .func (.func 15) #[] #[], v, u] W fun en w' => (∃ v', en = .returned v' ∧ TrmsAt w' v' (polT (doV e (mulO p q)))) ∧ ErrAt w' g (doE e (mulO p q)) ∧ OnlyAt g W w') :=
    Lib.hid fun e v u p q W h1 h2 h3 h4 h5 => dmul_any g e v u p q W h1 h2 h3 h4.1 h5.1 h4.2 h5.2
  have HAD : Hid (∀ (e : Bool) (v u : Value) (p q : Pol) (W : World), ErrAt W g e → TrmsAt W v (polT p) → TrmsAt W u (polT q) → AcS p → AcS q → Calls Tryz.prog 118 #[.pointer (some ⟨g, 0, none⟩), .func (.func 13) #[] #[], v, u] W fun en w' => (∃ v', en = .returned v' ∧ TrmsAt w' v' (polT (doV e (addO p q)))) ∧ ErrAt w' g (doE e (addO p q)) ∧ OnlyAt g W w') :=
    Lib.hid fun e v u p q W h1 h2 h3 h4 h5 => dadd_any g e v u p q W h1 h2 h3 h4.1 h5.1 h4.2 h5.2
  have HSU : Hid (∀ (e : Bool) (v u : Value) (p q : Pol) (W : World), ErrAt W g e → TrmsAt W v (polT p) → TrmsAt W u (polT q) → AcS p → AcS q → Calls Tryz.prog 118 #[.pointer (some ⟨g, 0, none⟩), .func (.func 14) #[] #[], v, u] W fun en w' => (∃ v', en = .returned v' ∧ TrmsAt w' v' (polT (doV e (subO p q)))) ∧ ErrAt w' g (doE e (subO p q)) ∧ OnlyAt g W w') :=
    Lib.hid fun e v u p q W h1 h2 h3 h4 h5 => dsub_any g e v u p q W h1 h2 h3 h4.1 h5.1 h4.2 h5.2
  obtain ⟨ga, ca, rfl, _, hga, hca⟩ := hv.shape hne
  obtain ⟨m, hm⟩ : ∃ m, args.length = m + 1 := ⟨args.length - 1, by omega⟩
  obtain ⟨T, hT⟩ : ∃ T, T = args.tail := ⟨_, rfl⟩
  have HTL : Hid (T.length = m) := Lib.hid (by rw [hT]; simp; omega)
  have HTG : Hid (∀ j (h : j < T.length) (h2 : j + 1 < args.length), T[j] = args[j + 1]) := Lib.hid (by subst hT; intro j h h2; simp)
  have HTA : Hid (∀ p ∈ T, GdP p) := Lib.hid fun p hp => ha p (List.mem_of_mem_tail (by rw [← hT]; exact hp))
  rw [← hT]
  rw [hm] at hpos hl9 hv hca ⊢
  have hm9 : m ≤ 1000 := by omega
  obtain ⟨x0, x1, x2⟩ := node_cells w 5 k (.slice na nn nc)
  have hK1 : Kept w (w.alloc (.cells #[.int .i64 5, .int .i64 k, .slice na nn nc] 80)) := (Kept.refl _).alloc _
  have HV1 := Lib.hid (hv.kept hK1)
  have HE1 := Lib.hid (hg.kept hK1)
  have HK1 := Lib.hid hK1
  have HN := Lib.hid hm
  have HGA := Lib.hid (gdp_getD ha)
  obtain ⟨u0, hc0, hu0⟩ := HV1.out.cell 0 (by omega)
  have HU0 := Lib.hid hu0
  obtain ⟨A0, hA0⟩ : ∃ A, A = args[0] := ⟨_, rfl⟩
  rw [← hA0] at HU0
  have HA0 : Hid (GdP A0) := Lib.hid (by rw [hA0]; exact ha _ (List.getElem_mem _))
  have hA0d : args.getD 0 [] = A0 := by rw [hA0]; simp [List.getD_eq_getElem?_getD, show 0 < args.length by omega]
  have hi0 : (0 : Int) ≤ 0 ∧ (0 : Int) < (m : Int) + 1 := by omega
  have hi0b : (0 : Int) < ((m + 1 : Nat) : Int) := by omega
  have hi1 : (1 : Int) ≤ ((m + 1 : Nat) : Int) := by omega
  obtain ⟨o, ho⟩ : ∃ o, o = foldO xorO (args.getD 0 []) T := ⟨_, rfl⟩
  rw [← ho]
  rw [hA0d] at ho
  have HOO := Lib.hid ho
  obtain ⟨w1, hw1⟩ : ∃ w1, w1 = w.alloc (.cells #[.int .i64 5, .int .i64 k, .slice na nn nc] 80) := ⟨_, rfl⟩
  have HW1 := Lib.hid hw1
  rw [← hw1] at HV1 HE1 HU0 HK1
  clear hg hv ha hu0 hA0 hA0d ho hK1 hw1 hm hT hne
  go_enter Tryz.func85, Tryz.ntmps85
  go_wp2_with fail
  all_goals rw [← HW1.out]
  all_goals clear x0 x1 x2 hc0
  all_goals
    go_loopg [13, 15, 16, 17, 83] m (fun kx s13 s15 s16 s17 s83 wr => ∃ j : Nat, j ≤ m ∧ s83 = .int .i64 j ∧ m - j ≤ kx ∧ Hid (TrmsAt wr s13 (polT (foldN xorO A0 false (T.take j)).1)) ∧ Hid (ErrAt wr g (foldN xorO A0 false (T.take j)).2) ∧ Hid (OnlyAt g w1 wr))
    case atStart => exact ⟨0, Nat.zero_le _, rfl, by omega, HU0, HE1, Lib.hid (OnlyAt.refl _ _)⟩
    case round =>
      obtain ⟨j, hj, rfl, hjx, HT7, HE7, HO7⟩ := hrel
      by_cases hlt : j < m
      · have hji : (j : Int) < (m : Int) := by omega
        first
          | (exfalso; omega)
          | (have HAR := Lib.hid (HV1.out.err HE1.out HO7.out)
             have hj1 : j + 1 < args.length := by have := HN.out; omega
             have hjT : j < T.length := by have := HTL.out; omega
             obtain ⟨u, hcu, hu⟩ := HAR.out.cell (j + 1) hj1
             rw [Nat.add_comm] at hcu
             have HU := Lib.hid hu
             obtain ⟨A, hA⟩ : ∃ A, A = args[j + 1] := ⟨_, rfl⟩
             rw [← hA] at HU
             have hTj : T[j] = A := by rw [hA]; exact HTG.out j hjT hj1
             have HGB : Hid (GdP A) := Lib.hid (by rw [← hTj]; exact HTA.out _ (List.getElem_mem _))
             have HST : Hid (foldN xorO A0 false (T.take (j + 1)) = (doV (foldN xorO A0 false (T.take j)).2 (xorO (foldN xorO A0 false (T.take j)).1 A), doE (foldN xorO A0 false (T.take j)).2 (xorO (foldN xorO A0 false (T.take j)).1 A))) := Lib.hid (by
               rw [List.take_succ_eq_append_getElem hjT, foldN_snoc, hTj])
             have HGQ : Hid (GdP (foldN xorO A0 false (T.take j)).1) := Lib.hid (foldN_good GdP.xor _ _ _ HA0.out fun a ha => HTA.out a (List.mem_of_mem_take ha))
             obtain ⟨P, hP⟩ : ∃ P, P = (foldN xorO A0 false (T.take j)).1 := ⟨_, rfl⟩
             obtain ⟨E, hE⟩ : ∃ E, E = (foldN xorO A0 false (T.take j)).2 := ⟨_, rfl⟩
             rw [← hP] at HT7 HGQ
             rw [← hE] at HE7
             rw [← hP, ← hE] at HST
             clear hu hA hTj hP hE hj1 hjT
             have HXD := Lib.hid (xor_do E P A)
             go_wp2_with (first
               | (go_at_call 118; (with_reducible refine (HAD.out E _ u P A _ HE7.out HT7.out HU.out HGQ.out.s HGB.out.s).mono ?_); rintro en w3 ⟨⟨v3, rfl, hv3⟩, he3, ho3⟩; have HV3 := Lib.hid hv3; have HE3 := Lib.hid he3; have HO3 := Lib.hid ho3; have HT3 := Lib.hid (HT7.out.err HE7.out ho3); have HU3 := Lib.hid (HU.out.err HE7.out ho3); clear hv3 he3 ho3)
               | (go_at_call 118; (with_reducible refine (HMU.out _ _ u P A _ HE3.out HT3.out HU3.out HGQ.out.s HGB.out.s).mono ?_); rintro en w4 ⟨⟨v4, rfl, hv4⟩, he4, ho4⟩; have HV4 := Lib.hid hv4; have HE4 := Lib.hid he4; have HO4 := Lib.hid (HO3.out.trans ho4); have HT4 := Lib.hid (HV3.out.err HE3.out ho4); clear hv4 he4 ho4)
               | (go_at_call 118; (with_reducible refine (HSU.out _ _ _ _ _ _ HE4.out HT4.out HV4.out (xor_s1 HGQ.out HGB.out) (GdP.doV fun r hr => HGQ.out.mul HGB.out hr).s).mono ?_); rintro en w5 ⟨⟨v5, rfl, hv5⟩, he5, ho5⟩; have HV5 := Lib.hid hv5; have HE5 := Lib.hid he5; have HO5 := Lib.hid (HO4.out.trans ho5); have HT5 := Lib.hid (HV4.out.err HE4.out ho5); clear hv5 he5 ho5)
               | (go_at_call 118; (with_reducible refine (HSU.out _ _ _ _ _ _ HE5.out HV5.out HT5.out (xor_s2 HGQ.out HGB.out) (GdP.doV fun r hr => HGQ.out.mul HGB.out hr).s).mono ?_); rintro en w6 ⟨⟨v6, rfl, hv6⟩, he6, ho6⟩; have HV6 := Lib.hid hv6; have HE6 := Lib.hid he6; have HO6 := Lib.hid (HO5.out.trans ho6); clear hv6 he6 ho6))
             go_roundg (m - (j + 1))
             case measure => omega
             case rel => exact ⟨j + 1, by omega, by go_num, Nat.le_refl _, Lib.hid (by rw [HST.out, ← HXD.out.1]; exact HV6.out), Lib.hid (by rw [HST.out, ← HXD.out.2]; exact HE6.out), Lib.hid (HO7.out.trans HO6.out)⟩)
      · have hje : j = m := by omega
        have hji : ¬ (j : Int) < (m : Int) := by omega
        have htk : T.take j = T := List.take_of_length_le (by have := HTL.out; omega)
        rw [htk] at HT7 HE7
        clear htk hje
        go_wp2
        go_ret
        exact ⟨NdP.fold (by rw [HOO.out]; exact foldN_p _ _ _) HT7.out HE7.out, (OnlyAt.kept HK1.out).trans HO7.out⟩
set_option maxRecDepth 100000 in
set_option maxHeartbeats 16000000 in
theorem wnode4 (g B : Nat) (v : Value) (args : List Pol) (k : Nat) (na : Option Addr) (nn nc : Nat) (w : World) (hg : ErrAt w g false) (hv : OwnPols w B v args) (ha : ∀ p ∈ args, GdP p) (hk1 : 1 ≤ k) (hk2 : k ≤ args.length) (hl9 : args.length ≤ 1000) :
    Calls Tryz.prog 85 #[.pointer (some ⟨g, 0, none⟩), .agg #[.int .i64 4, .int .i64 k, .slice na nn nc], v] w fun en w' => NdP w' g en (voteP k args) ∧ OnlyAt g w w' := by
  have hne : args ≠ [] := by intro e; rw [e] at hk2; simp at hk2; omega
  have hK1 : Kept w (w.alloc (.cells #[.int .i64 4, .int .i64 k, .slice na nn nc] 80)) := (Kept.refl _).alloc _
  have HVT : Hid (Calls Tryz.prog 119 #[.pointer (some ⟨g, 0, none⟩), .int .i64 k, v] (w.alloc (.cells #[.int .i64 4, .int .i64 k, .slice na nn nc] 80)) fun en w' => (∃ v', en = .returned v' ∧ TrmsAt w' v' (polT ((voteN k args args.length).1.getD k []))) ∧ ErrAt w' g (voteN k args args.length).2 ∧ OnlyAt g (w.alloc (.cells #[.int .i64 4, .int .i64 k, .slice na nn nc] 80)) w') := Lib.hid (wvote_any g B v args k _ (hg.kept hK1) (hv.kept hK1) ha hk1 hk2 hl9)
  have HVP := Lib.hid (voteN_p k args)
  obtain ⟨R, hR⟩ : ∃ R : Pol × Bool, R = ((voteN k args args.length).1.getD k [], (voteN k args args.length).2) := ⟨_, rfl⟩
  have e1 : (voteN k args args.length).1.getD k [] = R.1 := by rw [hR]
  have e2 : (voteN k args args.length).2 = R.2 := by rw [hR]
  rw [e1, e2] at HVT HVP
  obtain ⟨ga, ca, rfl, _, hga, hca⟩ := hv.shape hne
  obtain ⟨x0, x1, x2⟩ := node_cells w 4 k (.slice na nn nc)
  have HK1 := Lib.hid hK1
  obtain ⟨n, hn⟩ : ∃ n, n = args.length := ⟨_, rfl⟩
  rw [← hn] at HVT ⊢
  clear hg hv ha hk1 hk2 hl9 hne hK1 hR e1 e2 hn hca
  obtain ⟨w1, hw1⟩ : ∃ w1, w1 = w.alloc (.cells #[.int .i64 4, .int .i64 k, .slice na nn nc] 80) := ⟨_, rfl⟩
  rw [← hw1] at HVT HK1
  have HW1 := Lib.hid hw1
  clear hw1
  go_enter Tryz.func85, Tryz.ntmps85
  go_wp2_with fail
  rw [← HW1.out]
  refine HVT.out.mono ?_
  rintro en w2 ⟨⟨v2, rfl, hv2⟩, he2, ho2⟩
  have HV2 := Lib.hid hv2
  have HE2 := Lib.hid he2
  have HO2 := Lib.hid ho2
  clear x0 x1 x2 hv2 he2 ho2
  go_wp2
  go_ret
  exact ⟨NdP.fold HVP.out HV2.out HE2.out, (OnlyAt.kept HK1.out).trans HO2.out⟩
/-- node, of any kind. -/
theorem wnode_any (g B : Nat) (v : Value) (args : List Pol) (kd k : Int) (na : Option Addr) (nn nc : Nat) (w : World) (hg : ErrAt w g false) (hv : OwnPols w B v args) (ha : ∀ p ∈ args, GdP p) (hkd : 0 ≤ kd ∧ kd ≤ 5) (hargs : argsOk kd args.length = true) (hck : chkK kd k args.length = 0) (hl9 : args.length ≤ 1000) :
    Calls Tryz.prog 85 #[.pointer (some ⟨g, 0, none⟩), .agg #[.int .i64 kd, .int .i64 k, .slice na nn nc], v] w fun en w' => NdP w' g en (nodeP kd k args) ∧ OnlyAt g w w' := by
  have hs : ∃ a n c, v = .slice a n c := by
    by_cases h0 : args = []
    · obtain ⟨_, _, ⟨_, ⟨rfl, _⟩ | ⟨_, _, _, rfl, _⟩⟩, _⟩ := hv
      · exact ⟨_, _, _, rfl⟩
      · exact ⟨_, _, _, rfl⟩
    · obtain ⟨_, _, rfl, _⟩ := hv.shape h0
      exact ⟨_, _, _, rfl⟩
  have hpos : kd ≠ 0 → 0 < args.length := fun h0 => by
    rcases Nat.eq_zero_or_pos args.length with h | h
    · rw [h] at hargs
      unfold argsOk at hargs
      rw [if_neg h0] at hargs
      split at hargs <;> simp at hargs
    · exact h
  rcases (show kd = 0 ∨ kd = 1 ∨ kd = 2 ∨ kd = 3 ∨ kd = 4 ∨ kd = 5 by omega) with rfl | rfl | rfl | rfl | rfl | rfl
  · have h01 : 0 ≤ k ∧ k ≤ 1 := by
      unfold chkK at hck
      rw [if_pos rfl] at hck
      split at hck
      · rename_i h; omega
      · cases hck
    have h := wnode0 g v k na nn nc w hg hs h01.1 h01.2
    exact h
  · exact wnode1 g B v args k na nn nc w hg hv ha (hpos (by omega)) hl9
  · exact wnode2 g B v args k na nn nc w hg hv ha (hpos (by omega)) hl9
  · exact wnode3 g B v args k na nn nc w hg hv ha (hpos (by omega)) hl9
  · have h4 : 1 ≤ k ∧ k ≤ args.length := by
      unfold chkK at hck
      rw [if_neg (by omega), if_pos rfl] at hck
      split at hck
      · assumption
      · cases hck
    obtain ⟨q, rfl⟩ := Int.eq_ofNat_of_zero_le (show 0 ≤ k by omega)
    exact wnode4 g B v args q na nn nc w hg hv ha (by omega) (by omega) hl9
  · exact wnode5 g B v args k na nn nc w hg hv ha (hpos (by omega)) hl9
end Go.Proofs.YtpaedhlacbpmpaaGreatDoor

/-
  Plain: the polynomial of a formula: its values, its events.
-/
namespace Go.Proofs.YtpaedhlacbpmpaaGreatDoor

theorem sdiff_bitP (a i j : Nat) : (sdiff a (2 ^ i)).testBit j = (a.testBit j && !decide (i = j)) := by
  unfold sdiff
  rw [Nat.testBit_xor, Nat.testBit_and, Nat.testBit_two_pow]
  cases a.testBit j <;> simp
/-- An event that changes no value stands in no term. -/
theorem no_bit {p : Pol} (h : CanP p) {i : Nat} (hv : ∀ s, valP p (2 ^ i ||| s) = valP p s) : ∀ t ∈ p, t.1.testBit i = false := by
  have key : ∀ k, ∀ t ∈ p, pc t.1 ≤ k → t.1.testBit i = false := by
    intro k
    induction k using Nat.strongRecOn with
    | ind k ih =>
      intro t ht hk
      cases hb : t.1.testBit i with
      | false => rfl
      | true =>
        exfalso
        have e := val_split h ht
        have e1 := hv (sdiff t.1 (2 ^ i))
        rw [sdiff_or hb] at e1
        have e2 : sumP (fun u => if u = t.1 then 0 else ind (subN u t.1)) p = sumP (fun u => ind (subN u (sdiff t.1 (2 ^ i)))) p := sumP_congr fun u hu => by
          show (if u.1 = t.1 then 0 else ind (subN u.1 t.1)) = ind (subN u.1 (sdiff t.1 (2 ^ i)))
          split
          · rename_i eu
            have : subN u.1 (sdiff t.1 (2 ^ i)) = false := by
              cases hs : subN u.1 (sdiff t.1 (2 ^ i)) with
              | false => rfl
              | true =>
                have := subN_iff.1 hs i (by rw [eu]; exact hb)
                rw [sdiff_bitP] at this
                simp at this
            rw [this]; rfl
          · rename_i hne
            have : subN u.1 t.1 = subN u.1 (sdiff t.1 (2 ^ i)) := by
              cases hs : subN u.1 t.1 with
              | true =>
                symm
                refine subN_iff.2 fun j hj => ?_
                rw [sdiff_bitP, subN_iff.1 hs j hj]
                have hij : i ≠ j := fun eij => by
                  subst eij
                  have h2 := subN_le hs
                  have h3 : pc u.1 < pc t.1 := by
                    rcases Nat.lt_or_ge (pc u.1) (pc t.1) with h3 | h3
                    · exact h3
                    · exact absurd (h2.2 (by omega)) hne
                  have := ih (pc u.1) (by omega) u hu (Nat.le_refl _)
                  rw [hj] at this
                  cases this
                simp [hij]
              | false =>
                cases hs2 : subN u.1 (sdiff t.1 (2 ^ i)) with
                | false => rfl
                | true =>
                  have : subN u.1 t.1 = true := subN_iff.2 fun j hj => by
                    have := subN_iff.1 hs2 j hj
                    rw [sdiff_bitP] at this
                    simp at this
                    exact this.1
                  rw [hs] at this
                  cases this
            rw [this]
        rw [e2] at e
        have e3 : valP p (sdiff t.1 (2 ^ i)) = sumP (fun u => ind (subN u (sdiff t.1 (2 ^ i)))) p := rfl
        rw [e1, ← e3] at e
        exact h.2 t ht (by grind)
  exact fun t ht => key _ t ht (Nat.le_refl _)
theorem valsUp_eq (V s t : Nat) (nodes : List Nd) (h : ∀ i, i < V → s.testBit i = t.testBit i) : ∀ k, valsUp V s nodes k = valsUp V t nodes k := by
  intro k
  induction k with
  | zero =>
    show (List.range V).map _ = (List.range V).map _
    exact List.map_congr_left fun i hi => h i (List.mem_range.1 hi)
  | succ k ih =>
    show valsUp V s nodes k ++ _ = valsUp V t nodes k ++ _
    rw [ih]
theorem below_topP {V T : Nat} {f : Fm} (hok : Ok f V T) : (belowK V T f.nodes).getD T false = true := by
  refine belowGo_keep V f.nodes _ _ T ?_
  rw [List.getD_eq_getElem?_getD, List.getElem?_set_self (by simp; exact hok.tlt)]
  rfl
/-- The polynomial of a formula. -/
def topP (V T : Nat) (nodes : List Nd) : Option Pol := (polUp V (belowK V T nodes) nodes nodes.length).map fun out => argP V out (T : Int)
theorem argP_good {V T : Nat} {f : Fm} (hok : Ok f V T) : ∀ k out, k ≤ f.nodes.length → polUp V (belowK V T f.nodes) f.nodes k = some out → ∀ p ∈ out, GdP p := by
  intro k out hk h p hp
  obtain ⟨i, hi, rfl⟩ := List.getElem_of_mem hp
  cases hm : (belowK V T f.nodes).getD (V + i) false with
  | true => exact ⟨_, polUp_v hok _ (below_closed V T f hok) k out hk h i hi hm⟩
  | false =>
    have : out[i] = [] := by
      clear hp
      induction k generalizing out with
      | zero => cases h; cases hi
      | succ k ih =>
        obtain ⟨o, h1, h2⟩ := Option.bind_eq_some_iff.1 h
        have hol := len_polUp V _ f.nodes k o h1
        unfold polStep at h2
        split at h2
        · rename_i hmk
          obtain ⟨q, hq, h4⟩ := Option.map_eq_some_iff.1 h2
          subst h4
          have hik : i < o.length := by
            rw [List.length_append] at hi
            simp at hi
            have : i ≠ o.length := fun e => by rw [hol] at e; subst e; rw [hmk] at hm; cases hm
            omega
          rw [List.getElem_append_left hik]
          exact ih o (by omega) h1 hik
        · cases h2
          by_cases hik : i < o.length
          · rw [List.getElem_append_left hik]
            exact ih o (by omega) h1 hik
          · rw [List.getElem_append_right (by omega)]
            simp
    rw [this]
    exact GdP.nil
theorem topP_v {V T : Nat} {f : Fm} (hok : Ok f V T) {r : Pol} (h : topP V T f.nodes = some r) : PolV r (fun s => (valsK V s f.nodes).getD T false) := by
  obtain ⟨out, h1, rfl⟩ := Option.map_eq_some_iff.1 h
  have hT := hok.tlt
  have hV := hok.v24
  unfold argP
  by_cases hTV : T < V
  · rw [if_pos (by omega), Int.toNat_natCast]
    exact (PolV.event (by omega)).congr fun s => (valsUp_event V s f.nodes f.nodes.length T hTV).symm
  · rw [if_neg (by omega), show ((T : Int) - (V : Int)).toNat = T - V by omega]
    have hl := len_polUp V _ f.nodes f.nodes.length out h1
    have hi : T - V < out.length := by omega
    rw [show out.getD (T - V) [] = out[T - V] by simp [List.getD_eq_getElem?_getD, hi]]
    have h2 := polUp_v hok _ (below_closed V T f hok) f.nodes.length out (Nat.le_refl _) h1 (T - V) hi (by rw [show V + (T - V) = T by omega]; exact below_topP hok)
    exact h2.congr fun s => by rw [show V + (T - V) = T by omega]; rfl
theorem topP_bits {V T : Nat} {f : Fm} (hok : Ok f V T) {r : Pol} (h : topP V T f.nodes = some r) : ∀ t ∈ r, ∀ i, t.1.testBit i = true → i < V := by
  intro t ht i hi
  have hv := topP_v hok h
  rcases Nat.lt_or_ge i V with h1 | h1
  · exact h1
  · have h2 := no_bit hv.can (i := i) (fun s => by
      rw [hv.val, hv.val]
      have : valsK V (2 ^ i ||| s) f.nodes = valsK V s f.nodes := valsUp_eq V _ _ _ (fun j hj => by
        rw [Nat.testBit_or, Nat.testBit_two_pow]
        simp [show i ≠ j by omega]) _
      simp only [this]) t ht
    rw [hi] at h2
    cases h2
end Go.Proofs.YtpaedhlacbpmpaaGreatDoor

/-
  Walks: polynomial.below, slices.Clone of terms. Printed by gen_PF2.py.
-/
namespace Go.Proofs.YtpaedhlacbpmpaaGreatDoor
open Go.RowKit

set_option maxHeartbeats 4000000 in
theorem polBelow_any (v : Value) (f : Fm) (V T : Nat) (w : World) (hv : NodesAt w v f.nodes) (hok : Ok f V T) :
    Calls Tryz.prog 84 #[.agg #[.int .i64 V, v, .int .i64 T]] w fun e w' => ∃ g, e = .returned (.slice (some ⟨g, 0, none⟩) (V + f.nodes.length) (V + f.nodes.length)) ∧ w.heap.size ≤ g ∧ RowAt w' g 4 ((belowK V T f.nodes).map .bool) ∧ Kept w w' := by
  obtain ⟨a, c, rfl, _, hl, hx⟩ := hv
  obtain ⟨n, hn⟩ : ∃ n, n = f.nodes.length := ⟨_, rfl⟩
  rw [← hn] at hl ⊢
  have hn9 : n ≤ 128 := by rw [hn]; exact hok.n128
  have hV9 := hok.v24
  have hT9 : T < V + n := by rw [hn]; exact hok.tlt
  obtain ⟨R, hR⟩ : ∃ R, R = belowK V T f.nodes := ⟨_, rfl⟩
  rw [← hR]
  have HX := Lib.hid hx
  have HN := Lib.hid hn
  have HO := Lib.hid hok
  have HR := Lib.hid hR
  have hTV : ((T : Nat) : Int) < ((V + n : Nat) : Int) := by omega
  have hTV2 : (T : Int) < (V : Int) + (n : Int) := by omega
  clear hx hn hok hR hl
  go_enter Tryz.func84, Tryz.ntmps84
  go_wp2_with (at_make; refine make_one 112 4 _ 1 info_bool Tryz.underlying112 rfl rfl _ _ rfl (V + n) (by show Value.int .i64 ((V : Int) + (n : Int)) = .int .i64 ((V + n : Nat) : Int); rw [Int.natCast_add]) (by show Value.int .i64 ((V : Int) + (n : Int)) = .int .i64 ((V + n : Nat) : Int); rw [Int.natCast_add]) (by omega) (by unfold maxLen; omega) ?_; intro w1 hr1 hk1; simp only [World.size_alloc] at hr1; have hs1 := hk1.size; simp only [World.size_alloc] at hs1; have c0 := hr1.cell (i := T) (by simp; omega); simp only [List.getElem_replicate] at c0; have f0 := hr1.free T; have b0 := hk1.cell (p := ⟨w.heap.size, 0, none⟩) (v := .int .i64 V) (by simp); have b1 := hk1.cell (p := ⟨w.heap.size, 1, none⟩) (v := .slice a n c) (by simp); have b2 := hk1.cell (p := ⟨w.heap.size, 2, none⟩) (v := .int .i64 T) (by simp); have HR1 := Lib.hid hr1; clear hr1)
  have hKb : Kept (w.alloc (.cells #[.int .i64 V, .slice a n c, .int .i64 T] 67)) (w1.setCell ⟨w.heap.size + 1, T, none⟩ (.bool true)) := hk1.store (by simp) _ _
  have hRow := HR1.out.store T (.bool true)
  have hRw : RowAt (w1.setCell ⟨w.heap.size + 1, T, none⟩ (.bool true)) (w.heap.size + 1) 4 ((((List.replicate (V + n) false).set T true)).map .bool) := by
    rw [List.map_set, List.map_replicate]; exact hRow
  clear hRow c0 f0 b0 b1 b2 hs1 hk1 HR1
  go_loopw [4, 6, 40] (fun i _ _ wr => ∃ (k : Nat) (m : List Bool), k ≤ n ∧ i = .int .i64 ((k : Int) - 1) ∧ Hid (m.length = V + n ∧ belowGo V f.nodes k m = R) ∧ RowAt wr (w.heap.size + 1) 4 (m.map .bool) ∧ Kept (w.alloc (.cells #[.int .i64 V, .slice a n c, .int .i64 T] 67)) wr) (fun i _ _ _ => (intOf i + 1).toNat)
  case atStart => exact ⟨n, _, Nat.le_refl _, rfl, Lib.hid ⟨by simp, by rw [HR.out, HN.out]; rfl⟩, hRw, hKb⟩
  case round =>
    clear hRw hKb
    obtain ⟨k, m, hk, rfl, HM, hrow, hK⟩ := hrel
    have hlen := HM.out.1
    by_cases hpos : 0 < k
    · obtain ⟨q, rfl⟩ : ∃ q, k = q + 1 := ⟨k - 1, by omega⟩
      have e1 : ((q + 1 : Nat) : Int) - 1 = (q : Int) := by omega
      rw [e1]
      have hqx : q < f.nodes.length := by have := HN.out; omega
      obtain ⟨b, o, rfl, u, hc1, hc2, hc3, hI⟩ := HX.out q hqx
      have hn3 := (((Kept.refl w).alloc (.cells #[.int .i64 V, .slice (some ⟨b, o, none⟩) n c, .int .i64 T] 67)).trans hK).cell hc3
      have b0 := hK.cell (p := ⟨w.heap.size, 0, none⟩) (v := .int .i64 V) (by simp)
      have b1 := hK.cell (p := ⟨w.heap.size, 1, none⟩) (v := .slice (some ⟨b, o, none⟩) n c) (by simp)
      have cm := hrow.cell (i := V + q) (by simp; omega)
      rw [getD_map_bool m (V + q) (by omega)] at cm
      have harg : ∀ x ∈ f.nodes[q].args, 0 ≤ x ∧ x < (V : Int) + q := HO.out.args q hqx
      have hgo : belowGo V f.nodes (q + 1) m = belowGo V f.nodes q (if m.getD (V + q) false then markAll m f.nodes[q].args else m) := by
        show belowGo V f.nodes q (if m.getD (V + q) false then markAll m (f.nodes.getD q noNd).args else m) = _
        rw [show f.nodes.getD q noNd = f.nodes[q] by simp [List.getD_eq_getElem?_getD, hqx]]
      obtain ⟨args, hargs⟩ : ∃ x, x = f.nodes[q].args := ⟨_, rfl⟩
      rw [← hargs] at harg hgo hI
      obtain ⟨ax, cx, rfl, _, hlx, hcx⟩ := hI
      obtain ⟨na, hna⟩ : ∃ x, x = args.length := ⟨_, rfl⟩
      rw [← hna] at hn3 hlx
      have hq1 : (0 : Int) ≤ (V : Int) + (q : Int) ∧ (V : Int) + (q : Int) < (V : Int) + (n : Int) := by omega
      have hq2 : (V : Int) + (q : Int) < ((V + n : Nat) : Int) := by omega
      have hq3 : (q : Int) < (n : Int) := by omega
      have HG := Lib.hid hgo
      have HAR := Lib.hid harg
      have HCX := Lib.hid hcx
      have HNA := Lib.hid hna
      have HROW := Lib.hid hrow
      have HKK := Lib.hid hK
      clear hc1 hc2 hc3 harg hgo hcx hna hargs hrow e1
      cases hmk : m.getD (V + q) false with
      | false =>
        rw [hmk] at cm
        have HMK := Lib.hid hmk
        clear hmk hK
        go_wp2
        go_roundw
        case rel => exact ⟨q, m, by omega, by go_num, Lib.hid ⟨hlen, by have := HM.out.2; rw [HG.out, HMK.out] at this; exact this⟩, HROW.out, HKK.out⟩
        case measure => simp [intOf]
      | true =>
        rw [hmk] at cm
        have HMK := Lib.hid hmk
        clear hmk hK
        go_wp2
        obtain ⟨wo, hwo⟩ : ∃ wo : World, wo = wr := ⟨_, rfl⟩
        rw [← hwo] at HROW HKK hn3 b0 b1 cm
        clear hn3 b0 b1 cm
        go_loopw [6, 40] (fun _ j wi => ∃ (p : Nat) (m2 : List Bool), p ≤ na ∧ j = .int .i64 p ∧ Hid (m2 = markAll m (args.take p)) ∧ RowAt wi (w.heap.size + 1) 4 (m2.map .bool) ∧ Kept (w.alloc (.cells #[.int .i64 V, .slice (some ⟨b, o, none⟩) n c, .int .i64 T] 67)) wi) (fun _ j _ => na - (intOf j).toNat)
        case atStart => exact ⟨0, m, Nat.zero_le _, rfl, Lib.hid rfl, by rw [← hwo]; exact HROW.out, by rw [← hwo]; exact HKK.out⟩
        case round =>
          obtain ⟨p, m2, hp, rfl, HM2, hrow2, hK2⟩ := hrel
          have hlen2 : m2.length = V + n := by rw [HM2.out, len_markAll]; exact hlen
          by_cases hpa : p < na
          · have hpx : p < args.length := by have := HNA.out; omega
            obtain ⟨b2, o2, rfl, hc0⟩ := HCX.out p hpx
            have hcell := (((Kept.refl w).alloc (.cells #[.int .i64 V, .slice (some ⟨b, o, none⟩) n c, .int .i64 T] 67)).trans hK2).cell hc0
            obtain ⟨y, hy⟩ : ∃ y, y = args[p] := ⟨_, rfl⟩
            have hy2 := HAR.out args[p] (List.getElem_mem _)
            rw [← hy] at hcell hy2
            obtain ⟨Y, hY⟩ := Int.eq_ofNat_of_zero_le hy2.1
            subst hY
            have hstep : markAll m (args.take (p + 1)) = (markAll m (args.take p)).set Y true := by
              unfold markAll
              rw [List.take_succ_eq_append_getElem hpx, List.foldl_append, ← hy]; simp
            have hYl : Y < V + n := by omega
            have cY := hrow2.cell (i := Y) (by simp; omega)
            rw [getD_map_bool m2 Y (by omega)] at cY
            have fY := hrow2.free Y
            have hnew := hrow2.store Y (.bool true)
            rw [← List.map_set] at hnew
            have hKn := hK2.store (g := w.heap.size + 1) (by simp) Y (.bool true)
            have hY1 : (Y : Int) < (V : Int) + (n : Int) := by omega
            have hY2 : (Y : Int) < ((V + n : Nat) : Int) := by omega
            have HST := Lib.hid hstep
            have HNW := Lib.hid hnew
            have HKN := Lib.hid hKn
            clear hc0 hy hstep hnew hKn hK2 hrow2 hlen2
            go_wp2
            go_roundw
            case rel => exact ⟨p + 1, _, by omega, by go_num, Lib.hid (by rw [HST.out, ← HM2.out]), HNW.out, HKN.out⟩
            case measure => simp [intOf]; omega
          · have e : p = na := by omega
            have hfin : m2 = markAll m args := by rw [HM2.out, e, List.take_of_length_le (by have := HNA.out; omega)]
            have HFIN := Lib.hid hfin
            have HR2 := Lib.hid hrow2
            have HK2 := Lib.hid hK2
            clear hfin e hrow2 hK2 hlen2
            go_wp2
            go_roundw
            case rel => exact ⟨q, m2, by omega, by go_num, Lib.hid ⟨by rw [HFIN.out, len_markAll]; exact hlen, by have := HM.out.2; rw [HG.out, HMK.out] at this; rw [HFIN.out]; exact this⟩, HR2.out, HK2.out⟩
            case measure => simp [intOf]
    · have e : k = 0 := by omega
      subst e
      have hRm : R = m := HM.out.2.symm
      have HRM := Lib.hid hRm
      have HRW := Lib.hid hrow
      have HKK := Lib.hid hK
      clear hRm hrow hK
      go_wp2
      go_ret
      exact ⟨_, rfl, by omega, by rw [HRM.out]; exact HRW.out, ((Kept.refl _).alloc _).trans HKK.out⟩
theorem own_emptyT (w : World) (B : Nat) (hB : B ≤ w.heap.size) : OwnTrms (w.alloc (.cells #[] 83)) B (.slice (some ⟨w.heap.size, 0, none⟩) 0 0) [] :=
  ⟨[], rfl, ⟨by simp, .inr ⟨w.heap.size, 0, #[], rfl, hB, heap_alloc_new w _, Nat.le_refl _, by unfold maxLen; omega, by simp, by simp⟩⟩, by simp, (fun g hg => by
    simp only [Value.ownBlock, Option.some.injEq] at hg
    subst hg
    exact noW_new w _ _ fun u hu => by simp at hu), fun x hx => by cases hx⟩
set_option maxRecDepth 100000 in
theorem cloneT_any (v : Value) (ts : List Trm) (w : World) (hv : TrmsAt w v ts) (hl : ts.length ≤ 1000000) :
    Calls Tryz.prog 86 #[v] w fun e w' => (∃ v', e = .returned v' ∧ TrmsAt w' v' ts) ∧ Kept w w' := by
  obtain ⟨a, c, rfl⟩ := hv.shape
  have HV := Lib.hid hv
  obtain ⟨n, hn⟩ : ∃ n, n = ts.length := ⟨_, rfl⟩
  rw [← hn] at HV hl ⊢
  have HN := Lib.hid hn
  cases a with
  | none =>
    obtain ⟨_, _, h1, ⟨h2, h3⟩, _⟩ := hv
    cases h1
    have hc0 : c = 0 := h3 rfl
    subst hc0
    have hn0 : n = 0 := by omega
    subst hn0
    have hts : ts = [] := List.eq_nil_of_length_eq_zero hn.symm
    have HTS := Lib.hid hts
    clear hn h2 h3 hts hl
    have hnl : ∀ w : World, (binOp .eql 22 (.slice none 0 0) (.slice none 0 0)).run Tryz.prog w = .ok (.bool true) w := fun w => Lib.run_eql_slice_nil w 22 83 none 0 0 0 0 Tryz.underlying22
    go_enter Tryz.func86, Tryz.ntmps86
    go_wp2
    go_ret
    exact ⟨⟨_, rfl, by rw [HTS.out]; exact TrmsAt.nil _⟩, Kept.refl _⟩
  | some ad =>
    clear hv hn
    have hnl : ∀ w : World, (binOp .eql 22 (.slice (some ad) n c) (.slice none 0 0)).run Tryz.prog w = .ok (.bool false) w := fun w => Lib.run_eql_slice_nil w 22 83 (some ad) n c 0 0 Tryz.underlying22
    go_enter Tryz.func86, Tryz.ntmps86
    go_wp2_with (at_builtin; refine app_trms rfl _ _ rfl w.heap.size _ [] rfl (own_emptyT w _ (Nat.le_refl _)) _ ts rfl (HV.out.kept ((Kept.refl _).alloc _)) (by rw [← HN.out]; simp; omega) (by simp) ?_; intro v7 w7 hown7 hb7; have O7 := Lib.hid hown7; have HB7 := Lib.hid hb7; clear hown7 hb7)
    go_ret
    exact ⟨⟨_, rfl, O7.out.at⟩, ((Kept.refl _).alloc _).app HB7.out⟩
end Go.Proofs.YtpaedhlacbpmpaaGreatDoor
