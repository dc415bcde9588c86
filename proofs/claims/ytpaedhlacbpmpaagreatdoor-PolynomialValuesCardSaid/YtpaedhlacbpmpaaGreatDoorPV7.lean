import Derived.Test.YtpaedhlacbpmpaaGreatDoorPX1
import Derived.Test.YtpaedhlacbpmpaaGreatDoorPX2
import Derived.Test.YtpaedhlacbpmpaaGreatDoorPX3
import Derived.Test.YtpaedhlacbpmpaaGreatDoorPX4
import Derived.Test.YtpaedhlacbpmpaaGreatDoorPX5
import Derived.Test.YtpaedhlacbpmpaaGreatDoorPX6
import Derived.Test.YtpaedhlacbpmpaaGreatDoorPX7
import Derived.Test.YtpaedhlacbpmpaaGreatDoorPV8
/-
  Walks: faultlineref20.Value. Printed by gen_PJ.py.
-/
namespace Go.Proofs.YtpaedhlacbpmpaaGreatDoor
open Go.RowKit

theorem and_subN (t s : Nat) : (((t &&& s : Nat) : Int) == (t : Int)) = subN t s := by
  have h : ((((t &&& s : Nat) : Int) == (t : Int)) = true) ↔ subN t s = true := by
    rw [beq_iff_eq, subN_iff, Int.ofNat_inj]
    constructor
    · intro h i hi
      rw [← h, Nat.testBit_and] at hi
      simp at hi
      exact hi.2
    · intro h
      refine Nat.eq_of_testBit_eq fun i => ?_
      rw [Nat.testBit_and]
      cases e : t.testBit i with
      | false => rfl
      | true => rw [h i e]; rfl
  cases h1 : (((t &&& s : Nat) : Int) == (t : Int)) <;> cases h2 : subN t s <;> simp [h1, h2] at h ⊢
set_option maxRecDepth 100000 in
set_option maxHeartbeats 16000000 in
theorem rvalue_any (v : Value) (p : Pol) (s : Nat) (w : World) (hp : TrmsAt w v (polT p)) (sp : Sm 1000 64 p) (hs : s < 16777216) : Calls Tryz.prog 38 #[v, .int .i64 s] w fun e w' => (∃ v', e = .returned v' ∧ RatAt w' v' (canR (valP p s))) ∧ Kept w w' := by
  have ha := sp.acc
  have hsp : ShP 100000 p := sp.sh.mono (by omega)
  have HTK : Hid (∀ j (h : j < p.length), valP (p.take (j + 1)) s = valP (p.take j) s + if subN p[j].1 s = true then p[j].2 else 0) := Lib.hid fun j h => val_take h
  have HSV : Hid (∀ j, j ≤ p.length → (canR (valP (p.take j) s)).Short 34359738368) := Lib.hid fun j hj => by
    have h := val_short (s := s) (c := 100000) (by omega) hsp j hj
    have := ha.len
    have h2 : 100001 * j ≤ 100001 * 4096 := Nat.mul_le_mul_left _ (by omega)
    exact ⟨Nat.le_trans h.1 (by omega), Nat.le_trans h.2 (by omega)⟩
  obtain ⟨a, ac, rfl⟩ := hp.shape
  obtain ⟨n, hn⟩ : ∃ n, n = p.length := ⟨_, rfl⟩
  rw [polT_len, ← hn] at hp ⊢
  have hnl : n ≤ 4096 := by rw [hn]; exact ha.len
  have HP := Lib.hid hp
  have HS24 := Lib.hid hs
  have HN := Lib.hid hn
  have HSP := Lib.hid hsp
  have HBP := Lib.hid ha.bit
  obtain ⟨w0, hw0⟩ : ∃ w0, w0 = w.alloc (.cells #[.bool false, .slice none 0 0, .slice none 0 0] 38) := ⟨_, rfl⟩
  have HR0 : Hid (RatCell w0 w.heap.size ⟨false, [], []⟩) := Lib.hid (by rw [hw0]; exact RatCell.zero w)
  have HK0 : Hid (Kept w w0) := Lib.hid (by rw [hw0]; exact (Kept.refl _).alloc _)
  have HW0 := Lib.hid hw0
  have HZ0 : Hid (w0.heap.size = w.heap.size + 1) := Lib.hid (by rw [hw0]; simp)
  clear hp ha hsp sp hn hw0
  go_enter Tryz.func38, Tryz.ntmps38
  go_wp2_with fail
  have HZ1 : Hid (w.heap.size < w.heap.size + 1) := Lib.hid (Nat.lt_succ_self _)
  obtain ⟨w2, hw2⟩ : ∃ w2, w2 = w0.alloc (.cells #[.bool false, .slice none 0 0, .slice none 0 0] 38) := ⟨_, rfl⟩
  have HC2 : Hid (RatCell w2 (w.heap.size + 1) (canR (valP (p.take 0) s))) := Lib.hid (by rw [hw2, ← HZ0.out]; exact RatCell.zero w0)
  have HR2 : Hid (RatCell w2 w.heap.size ⟨false, [], []⟩) := Lib.hid (HR0.out.kept (by rw [hw2]; exact (Kept.refl _).alloc _))
  have HK2 : Hid (Kept w w2) := Lib.hid (HK0.out.trans (by rw [hw2]; exact (Kept.refl _).alloc _))
  have HW2 := Lib.hid hw2
  clear hw2
  rw [← HW0.out, ← HW2.out]
  go_loopg [11] n (fun kx sj wr => ∃ j : Nat, j ≤ n ∧ sj = .int .i64 j ∧ n - j ≤ kx ∧ Hid (RatCell wr (w.heap.size + 1) (canR (valP (p.take j) s))) ∧ Hid (RatCell wr w.heap.size ⟨false, [], []⟩) ∧ Hid (Kept w wr))
  case atStart => exact ⟨0, Nat.zero_le _, rfl, by omega, HC2, HR2, HK2⟩
  case round =>
    obtain ⟨j, hj, rfl, hjx, HC, HR, HKr⟩ := hrel
    obtain ⟨wi, rfl⟩ : ∃ wi : World, wi = wr := ⟨_, rfl⟩
    by_cases hlt : j < n
    · have hjn : (j : Int) < (n : Int) := by omega
      have hjl : j < p.length := by rw [← HN.out]; exact hlt
      obtain ⟨b, o, y1, y2, y3, a1, c1, a2, c2, rfl, z0, z1, z2, z3, HRT⟩ := (HP.out.kept HKr.out).term j hjl
      obtain ⟨t, ht⟩ : ∃ t, t = p[j].1 := ⟨_, rfl⟩
      obtain ⟨c, hc⟩ : ∃ c, c = p[j].2 := ⟨_, rfl⟩
      have hcs : (canR c).Short 100000 := by rw [hc]; exact HSP.out _ (List.getElem_mem _)
      have ht24 : t < 16777216 := by rw [ht]; exact HBP.out _ (List.getElem_mem _)
      have HST := Lib.hid (HTK.out j hjl)
      rw [← ht, ← hc] at HST
      have HSJ := Lib.hid (HSV.out j (Nat.le_of_lt hjl))
      rw [← ht] at z0
      rw [← hc] at HRT
      obtain ⟨bb, hbb⟩ : ∃ bb, bb = subN t s := ⟨_, rfl⟩
      have hand : bits .and .i64 (t : Int) (s : Int) = ((t &&& s : Nat) : Int) := and_i64 _ _ (by omega) (by have := HS24.out; omega)
      have hbe : (((t &&& s : Nat) : Int) == (t : Int)) = bb := by rw [hbb]; exact and_subN t s
      obtain ⟨z, hz⟩ : ∃ z, z = t &&& s := ⟨_, rfl⟩
      rw [← hz] at hand hbe
      rw [← hbb] at HST
      have HAD : Hid (∀ W u1 u2, RatAt W u1 (canR (valP (p.take j) s)) → RatAt W u2 (canR c) → Calls Tryz.prog 77 #[u1, u2] W fun e w' => (∃ v', e = .returned v' ∧ RatAt w' v' (canR (valP (p.take j) s + c))) ∧ Kept W w') := Lib.hid fun W u1 u2 k1 k2 => by
        have h := refadd02_any u1 u2 _ _ W k1 k2 HSJ.out ⟨Nat.le_trans hcs.1 (by omega), Nat.le_trans hcs.2 (by omega)⟩
        rw [ratOf_can, ratOf_can] at h
        exact h
      clear ht hc hcs hbb hz
      obtain ⟨w3, hw3⟩ : ∃ w3, w3 = wi.alloc (.cells #[.int .i64 t, .bool y1, .slice a1 y2 c1, .slice a2 y3 c2] 83) := ⟨_, rfl⟩
      have HX3 : Hid (RowAt w3 wi.heap.size 83 [.int .i64 t, .bool y1, .slice a1 y2 c1, .slice a2 y3 c2]) := Lib.hid (by rw [hw3]; exact RowAt.made wi #[.int .i64 t, .bool y1, .slice a1 y2 c1, .slice a2 y3 c2] 83)
      have HK3 : Hid (Kept wi w3) := Lib.hid (by rw [hw3]; exact (Kept.refl wi).alloc _)
      have HW3 := Lib.hid hw3
      have HR3 := Lib.hid (HRT.out.kept HK3.out)
      clear hw3
      cases bb with
      | false =>
        go_wp2_with fail
        rw [← HW3.out]
        go_roundg (n - (j + 1))
        case measure => omega
        case rel => exact ⟨j + 1, by omega, by go_num, Nat.le_refl _, Lib.hid (by rw [HST.out, if_neg (by simp), Rat.add_zero]; exact HC.out.kept HK3.out), Lib.hid (HR.out.kept HK3.out), Lib.hid (HKr.out.trans HK3.out)⟩
      | true =>
        go_upto_region 6 with fail
        rw [← HW3.out]
        clear z0 z1 z2 z3
        obtain ⟨x0, x1, x2, x3⟩ := trm4_at HX3.out
        obtain ⟨p1, p2, p3, b1, d1, b2, d2, v0, v1, v2, hlv, HRO⟩ := (HC.out.kept HK3.out).read
        go_wp2_with fail
        refine (HAD.out _ _ _ HRO.out HR3.out).mono ?_
        rintro e w4 ⟨⟨v4, rfl, hv4⟩, hk4⟩
        have HK4 := Lib.hid (HK3.out.trans hk4)
        clear x0 x1 x2 x3 v0 v1 v2 hlv HRO
        obtain ⟨n5, l5, m5, g1, h1, g2, h2, w5, rfl, hw5, ⟨⟨t0, p0⟩, ⟨t1, q1⟩, ⟨t2, q2⟩⟩, ⟨f0, f1, f2⟩, hl6, _, _, HSN, HKP⟩ := (HC.out.kept HK4.out).save hv4
        have HKN := Lib.hid (HKP.out w (HKr.out.trans HK4.out) (Nat.le_of_lt HZ1.out))
        have HRN := Lib.hid ((HR.out.kept HK4.out).apart (w' := w5) (Nat.ne_of_lt HZ1.out) (HC.out.kept HK4.out) (by rw [hw5]; exact (((OnlyAt.refl _ _).store 0 _).store 1 _).store 2 _))
        rw [hw5] at HSN HKN HRN
        clear hv4 hk4 hw5 HKP
        go_wp2_with fail
        go_roundg (n - (j + 1))
        case measure => omega
        case rel => exact ⟨j + 1, by omega, by go_num, Nat.le_refl _, Lib.hid (by rw [HST.out]; simpa using HSN.out), HRN, HKN⟩
    · have hjn : ¬ (j : Int) < (n : Int) := by omega
      have hje : j = p.length := by have := HN.out; omega
      have HCE : Hid (RatCell wi (w.heap.size + 1) (canR (valP p s))) := Lib.hid (by have h := HC.out; rw [hje, List.take_length] at h; exact h)
      clear hje
      obtain ⟨p1, p2, p3, b1, d1, b2, d2, v0, v1, v2, hlv, HRO⟩ := HCE.out.read
      obtain ⟨n5, l5, m5, g1, h1, g2, h2, w5, he, hw5, ⟨⟨t0, p0⟩, ⟨t1, q1⟩, ⟨t2, q2⟩⟩, ⟨f0, f1, f2⟩, hl6, Y, HRA, _, HKP⟩ := HR.out.save HRO.out
      have HKN := Lib.hid (HKP.out w HKr.out (Nat.le_refl _))
      simp only [Value.agg.injEq, Array.mk.injEq, List.cons.injEq, Value.bool.injEq, Value.slice.injEq, and_true] at he
      obtain ⟨rfl, ⟨rfl, rfl, rfl⟩, rfl, rfl, rfl⟩ := he
      rw [hw5] at Y HRA HKN
      clear hw5 HKP
      go_wp2
      refine bodyPost_ret (v := .agg #[.bool p1, .slice b1 p2 d1, .slice b2 p3 d2]) ?_ rfl ⟨⟨_, rfl, HRA.out⟩, HKN.out⟩
      simp [results, Tryz.results38, go_sem, Y.out.1, Y.out.2.1, Y.out.2.2]
end Go.Proofs.YtpaedhlacbpmpaaGreatDoor
