import Derived.Test.YtpaedhlacbpmpaaGreatDoorPX1
import Derived.Test.YtpaedhlacbpmpaaGreatDoorPX2
import Derived.Test.YtpaedhlacbpmpaaGreatDoorPX3
import Derived.Test.YtpaedhlacbpmpaaGreatDoorPX4
import Derived.Test.YtpaedhlacbpmpaaGreatDoorPX5
import Derived.Test.YtpaedhlacbpmpaaGreatDoorPX6
import Derived.Test.YtpaedhlacbpmpaaGreatDoorPX7
import Derived.Test.YtpaedhlacbpmpaaGreatDoorPV8
import Derived.Test.YtpaedhlacbpmpaaGreatDoorPV1
import Derived.Test.YtpaedhlacbpmpaaGreatDoorPV2
import Derived.Test.YtpaedhlacbpmpaaGreatDoorPV3
import Derived.Test.YtpaedhlacbpmpaaGreatDoorPV5
/-
  Walks: faultlineref20.Restrict. Printed by gen_PJ.py.
-/
namespace Go.Proofs.YtpaedhlacbpmpaaGreatDoor
open Go.RowKit

theorem TBox.saveS {w : World} {g s : Nat} {R : Rw} (h : TBox w g s R) (y : Nat) : w.frozen? ⟨g, 0, none⟩ = false ∧ Hid (TBox (w.setCell ⟨g, 0, none⟩ (.int .i64 y)) g y R) ∧ Hid (OnlyAt g w (w.setCell ⟨g, 0, none⟩ (.int .i64 y))) := by
  obtain ⟨n0, a10, l10, c10, a20, l20, c20, h1, h2, h3⟩ := h
  obtain ⟨u1, u2, e, k1, k2⟩ := h3
  simp only [Value.agg.injEq, Array.mk.injEq, List.cons.injEq, and_true] at e
  obtain ⟨e0, rfl, rfl⟩ := e
  obtain ⟨w', hw'⟩ : ∃ w', w' = w.setCell ⟨g, 0, none⟩ (.int .i64 y) := ⟨_, rfl⟩
  have hO : OnlyAt g w w' := by rw [hw']; exact (OnlyAt.refl g w).store 0 _
  have hR : RowAt w' g 83 [.int .i64 y, .bool n0, .slice a10 l10 c10, .slice a20 l20 c20] := by
    rw [hw']
    exact h1.store 0 (.int .i64 y)
  have hr : ∀ k, some g = some k → NoW w k := fun k hk => by cases hk; exact h2
  have ho : ∀ k, k < w.heap.size → some k ≠ some g → w'.heap[k]? = w.heap[k]? := fun k hk hne => hO.block k hk fun e => hne (by rw [e])
  have hN : NoW w' g := by rw [hw']; exact noW_setP h2 (fun x e => by cases e)
  rw [← hw']
  exact ⟨h1.free 0, Lib.hid ⟨_, _, _, _, _, _, _, hR, hN, _, _, by rw [e0], k1.only hr ho, k2.only hr ho⟩, Lib.hid hO⟩
set_option maxRecDepth 100000 in
set_option maxHeartbeats 16000000 in
theorem rrestrict_any (v : Value) (p : Pol) (i : Nat) (bf : Bool) (w : World) (hp : TrmsAt w v (polT p)) (sp : Sm 1000 64 p) (hi : i < 24) :
    Calls Tryz.prog 40 #[v, .int .i64 i, .bool bf] w fun e w' => (∃ v', e = .returned v' ∧ TrmsAt w' v' (polT (normP (resT i bf p)))) ∧ Kept w w' := by
  have hshl := (shl_mk i hi).1
  have hshl2 : IntKind.i64.wrap ((2 : Int) ^ i) = ((2 ^ i : Nat) : Int) := by
    have hq : ((2 : Int) ^ i) = ((2 ^ i : Nat) : Int) := by simp
    have hb : 2 ^ i < 2 ^ 24 := Nat.pow_lt_pow_right (by omega) hi
    rw [hq]
    generalize (2 : Nat) ^ i = z at hb ⊢
    rw [IntKind.wrap_i64]; omega
  have hp24 : 2 ^ i < 16777216 := Nat.lt_of_lt_of_le (Nat.pow_lt_pow_right (by omega) hi) (by decide)
  have HHA := Lib.hid (fun (s : Nat) (hs : s < 16777216) W => hasR05_any s i hs W)
  obtain ⟨a, ac, rfl⟩ := hp.shape
  obtain ⟨n, hn⟩ : ∃ n, n = p.length := ⟨_, rfl⟩
  rw [polT_len, ← hn] at hp ⊢
  have hnl : n ≤ 64 := by rw [hn]; exact sp.len
  have HP := Lib.hid hp
  have HN := Lib.hid hn
  have HSP := Lib.hid sp.sh
  have HBP := Lib.hid sp.acc.bit
  have HSTEP : Hid (∀ j (h : j < p.length), resT i bf (p.take (j + 1)) = resT i bf (p.take j) ++ if bf = true ∨ p[j].1.testBit i = false then [(sdiff p[j].1 (2 ^ i), p[j].2)] else []) := Lib.hid fun j h => by
    rw [List.take_succ_eq_append_getElem h, resT_app]
    rfl
  have HNO : Hid (∀ j, NOk (normP (resT i bf (p.take j)))) := Lib.hid fun j => norm_ok (c := 1000) (fun t ht => by
    obtain ⟨u, hu, rfl⟩ := mem_resT ht
    exact Nat.lt_of_le_of_lt (sdiff_leP _ _) (sp.acc.bit u (List.mem_of_mem_take hu))) (by
    have h := resT_len i bf (p.take j)
    rw [List.length_take] at h
    have := sp.len
    omega) (fun t ht => by
    obtain ⟨u, hu, rfl⟩ := mem_resT ht
    exact sp.sh u (List.mem_of_mem_take hu)) (by omega) (by omega)
  have hi0 : (0 : Int) ≤ (i : Int) := by omega
  have hi24 : (i : Int) < 24 := by omega
  obtain ⟨pw, hpw⟩ : ∃ pw, pw = 2 ^ i := ⟨_, rfl⟩
  rw [← hpw] at hshl hshl2 hp24 HSTEP
  have HSD : Hid (∀ s : Nat, s < 16777216 → s.testBit i = true → sdiff s pw + pw = s) := Lib.hid fun s hs h => by rw [hpw] at hp24 ⊢; exact sdiff_sub hs hp24 h
  have HOF : Hid (∀ s : Nat, s.testBit i = false → sdiff s pw = s) := Lib.hid fun s h => by rw [hpw]; exact sdiff_off h
  clear hp sp hi hn hpw
  go_enter Tryz.func40, Tryz.ntmps40
  go_wp2_with fail
  go_loopg [7, 12] n (fun kx s7 sj wr => ∃ j : Nat, j ≤ n ∧ sj = .int .i64 j ∧ n - j ≤ kx ∧ Hid (TrmsAt wr s7 (polT (normP (resT i bf (p.take j))))) ∧ Hid (Kept w wr))
  case atStart => exact ⟨0, Nat.zero_le _, rfl, by omega, Lib.hid (TrmsAt.nil _), Lib.hid (Kept.refl _)⟩
  case round =>
    obtain ⟨j, hj, rfl, hjx, HS, HKr⟩ := hrel
    obtain ⟨wi, rfl⟩ : ∃ wi : World, wi = wr := ⟨_, rfl⟩
    by_cases hlt : j < n
    · have hjn : (j : Int) < (n : Int) := by omega
      have hjl : j < p.length := by rw [← HN.out]; exact hlt
      obtain ⟨b, o, y1, y2, y3, a1, c1, a2, c2, rfl, z0, z1, z2, z3, HRT⟩ := (HP.out.kept HKr.out).term j hjl
      obtain ⟨s, hs⟩ : ∃ s, s = p[j].1 := ⟨_, rfl⟩
      obtain ⟨c, hc⟩ : ∃ c, c = p[j].2 := ⟨_, rfl⟩
      have hcs : (canR c).Short 1000 := by rw [hc]; exact HSP.out _ (List.getElem_mem _)
      have hs24 : s < 16777216 := by rw [hs]; exact HBP.out _ (List.getElem_mem _)
      rw [← hs] at z0
      rw [← hc] at HRT
      obtain ⟨w3, hw3⟩ : ∃ w3, w3 = wi.alloc (.cells #[.int .i64 s, .bool y1, .slice a1 y2 c1, .slice a2 y3 c2] 83) := ⟨_, rfl⟩
      have HX3 : Hid (RowAt w3 wi.heap.size 83 [.int .i64 s, .bool y1, .slice a1 y2 c1, .slice a2 y3 c2]) := Lib.hid (by rw [hw3]; exact RowAt.made wi #[.int .i64 s, .bool y1, .slice a1 y2 c1, .slice a2 y3 c2] 83)
      have HK3 : Hid (Kept wi w3) := Lib.hid (by rw [hw3]; exact (Kept.refl wi).alloc _)
      have HW3 := Lib.hid hw3
      have HR3 := Lib.hid (HRT.out.kept HK3.out)
      clear hw3
      have HST := Lib.hid (HSTEP.out j hjl)
      rw [← hs, ← hc] at HST
      have HNJ := Lib.hid (HNO.out j)
      have HS3 := Lib.hid (HS.out.kept HK3.out)
      obtain ⟨hb, hhb⟩ : ∃ hb, hb = s.testBit i := ⟨_, rfl⟩
      have HHS : Hid (∀ W, Calls Tryz.prog 79 #[.int .i64 s, .int .i64 i] W fun e w' => e = .returned (.bool hb) ∧ w' = W) := Lib.hid fun W => by rw [hhb]; exact HHA.out s hs24 W
      rw [← hhb] at HST
      have HSDs : Hid (hb = true → sdiff s pw + pw = s) := Lib.hid fun h => HSD.out s hs24 (by rw [← hhb]; exact h)
      have HOFs : Hid (hb = false → sdiff s pw = s) := Lib.hid fun h => HOF.out s (by rw [← hhb]; exact h)
      have HPL : Hid (∀ (y : Nat) W o n l1 l2 e1 f1 e2 f2, y < 16777216 → resT i bf (p.take (j + 1)) = resT i bf (p.take j) ++ [(y, c)] → TrmsAt W o (polT (normP (resT i bf (p.take j)))) → RatAt W (.agg #[.bool n, .slice e1 l1 f1, .slice e2 l2 f2]) (canR c) → Calls Tryz.prog 58 #[o, .agg #[.int .i64 y, .bool n, .slice e1 l1 f1, .slice e2 l2 f2]] W fun e w' => (∃ v', e = .returned v' ∧ TrmsAt w' v' (polT (normP (resT i bf (p.take (j + 1)))))) ∧ Kept W w') := Lib.hid fun y W o n l1 l2 e1 f1 e2 f2 hy hL h1 h2 => by
        rw [hL, norm_snoc]
        have h := rplus_ok o _ y n _ _ (canR c) W h1 h2 hy HNJ.out ⟨Nat.le_trans hcs.1 (by omega), Nat.le_trans hcs.2 (by omega)⟩
        rw [ratOf_can] at h
        exact h
      clear hs hc hcs hhb
      have HT3 : Hid (TBox w3 wi.heap.size s (canR c)) := Lib.hid (by rw [HW3.out]; exact TBox.made HRT.out)
      cases hb with
      | false =>
        rw [if_pos (.inr rfl), HOFs.out rfl] at HST
        go_wp2_with fail
        rw [← HW3.out]
        refine (HHS.out _).mono ?_
        rintro e w30 ⟨rfl, h30⟩
        rw [h30]
        clear h30
        obtain ⟨x0, x1, x2, x3⟩ := trm4_at HX3.out
        clear z0 z1 z2 z3
        go_wp2_with fail
        refine (HPL.out s _ _ _ _ _ _ _ _ _ hs24 HST.out HS3.out HR3.out).mono ?_
        rintro e w5 ⟨⟨v5, rfl, hv5⟩, hk5⟩
        have HV5 := Lib.hid hv5
        have HK5 := Lib.hid ((Lib.hid (HKr.out.trans HK3.out)).out.trans hk5)
        clear hv5 hk5 x0 x1 x2 x3
        go_wp2_with fail
        go_roundg (n - (j + 1))
        case measure => omega
        case rel => exact ⟨j + 1, by omega, by go_num, Nat.le_refl _, HV5, HK5⟩
      | true =>
        cases bf with
        | false =>
          rw [if_neg (by simp), List.append_nil] at HST
          go_wp2_with fail
          rw [← HW3.out]
          refine (HHS.out _).mono ?_
          rintro e w30 ⟨rfl, h30⟩
          rw [h30]
          clear h30
          go_wp2_with fail
          go_roundg (n - (j + 1))
          case measure => omega
          case rel => exact ⟨j + 1, by omega, by go_num, Nat.le_refl _, Lib.hid (by rw [HST.out]; exact HS3.out), Lib.hid (HKr.out.trans HK3.out)⟩
        | true =>
          rw [if_pos (.inl rfl)] at HST
          obtain ⟨y, hy⟩ : ∃ y, y = sdiff s pw := ⟨_, rfl⟩
          have hys : y + pw = s := by rw [hy]; exact HSDs.out rfl
          have hsub : IntKind.i64.wrap ((s : Int) - (pw : Int)) = ((y : Nat) : Int) := by rw [IntKind.wrap_i64]; omega
          have hy24 : y < 16777216 := by omega
          rw [← hy] at HST
          obtain ⟨f0, HT7, HO7⟩ := HT3.out.saveS y
          obtain ⟨x0, x1, x2, x3⟩ := trm4_at HX3.out
          clear hy hys
          go_wp2_with fail
          rw [← HW3.out]
          refine (HHS.out _).mono ?_
          rintro e w30 ⟨rfl, h30⟩
          rw [h30]
          clear h30
          go_upto_region 7 with fail
          clear z0 z1 z2 z3
          go_region
          obtain ⟨w7, hw7⟩ : ∃ w7, w7 = (w3.setCell ⟨wi.heap.size, 0, none⟩ (.int .i64 (y : Int))).drew := ⟨_, rfl⟩
          have HK7 : Hid (Kept wi w7) := Lib.hid (by rw [hw7]; exact (HO7.out.toKept HK3.out (Nat.le_refl _)).trans (Kept.refl _).drew)
          have HX7 : Hid (TBox w7 wi.heap.size y (canR c)) := Lib.hid (by rw [hw7]; exact HT7.out.kept (Kept.refl _).drew)
          rw [← hw7]
          clear x0 x1 x2 x3 f0 hw7
          obtain ⟨m1, l1, l2, e1, f1, e2, f2, x0, x1, x2, x3, hlx, HRX⟩ := HX7.out.read
          go_wp2_with fail
          refine (HPL.out y _ _ _ _ _ _ _ _ _ hy24 HST.out (HS.out.kept HK7.out) HRX.out).mono ?_
          rintro e w5 ⟨⟨v5, rfl, hv5⟩, hk5⟩
          have HV5 := Lib.hid hv5
          have HK5 := Lib.hid ((Lib.hid (HKr.out.trans HK7.out)).out.trans hk5)
          clear hv5 hk5 x0 x1 x2 x3
          go_wp2_with fail
          go_roundg (n - (j + 1))
          case measure => omega
          case rel => exact ⟨j + 1, by omega, by go_num, Nat.le_refl _, HV5, HK5⟩
    · have hjn : ¬ (j : Int) < (n : Int) := by omega
      have hje : j = p.length := by have := HN.out; omega
      have HSE : Hid (TrmsAt wi u7 (polT (normP (resT i bf p)))) := Lib.hid (by have h := HS.out; rw [hje, List.take_length] at h; exact h)
      clear hje
      go_wp2_with fail
      go_ret
      exact ⟨⟨_, rfl, HSE.out⟩, HKr.out⟩
end Go.Proofs.YtpaedhlacbpmpaaGreatDoor
