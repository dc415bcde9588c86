import Derived.Test.YtpaedhlacbpmpaaGreatDoorPX1
import Derived.Test.YtpaedhlacbpmpaaGreatDoorPX2
import Derived.Test.YtpaedhlacbpmpaaGreatDoorPX3
import Derived.Test.YtpaedhlacbpmpaaGreatDoorPX4
import Derived.Test.YtpaedhlacbpmpaaGreatDoorPX5
import Derived.Test.YtpaedhlacbpmpaaGreatDoorPX6
import Derived.Test.YtpaedhlacbpmpaaGreatDoorPX7
import Derived.Test.YtpaedhlacbpmpaaGreatDoorPV8
import Derived.Test.YtpaedhlacbpmpaaGreatDoorPV1
/-
  Walk: faultlineref20.plus of an empty list, of any list. Printed by gen_PG3.py.
-/
namespace Go.Proofs.YtpaedhlacbpmpaaGreatDoor
open Go.RowKit

set_option maxRecDepth 100000 in
set_option maxHeartbeats 16000000 in
theorem rplus_nil (a : Option Addr) (pc : Nat) (s : Nat) (ng : Bool) (u1 u2 : Value) (r : Rw) (w : World) (hzn : a = none → pc = 0) (hr : RatAt w (.agg #[.bool ng, u1, u2]) r) (hrs : r.Short 17179869000) :
    Calls Tryz.prog 58 #[.slice a 0 pc, .agg #[.int .i64 s, .bool ng, u1, u2]] w fun e w' => (∃ v', e = .returned v' ∧ TrmsAt w' v' (polT (plusP [] (s, ratOf r)))) ∧ Kept w w' := by
  obtain ⟨a1, c1, rfl⟩ : ∃ a c, u1 = .slice a r.num.length c := by obtain ⟨x1, x2, e, h1, h2⟩ := hr; simp only [Value.agg.injEq, Array.mk.injEq, List.cons.injEq, and_true] at e; obtain ⟨_, rfl, rfl⟩ := e; exact h1.shape
  obtain ⟨a2, c2, rfl⟩ : ∃ a c, u2 = .slice a r.den.length c := by obtain ⟨x1, x2, e, h1, h2⟩ := hr; simp only [Value.agg.injEq, Array.mk.injEq, List.cons.injEq, and_true] at e; obtain ⟨_, rfl, rfl⟩ := e; exact h2.shape
  obtain ⟨q1, hq1⟩ : ∃ q, q = r.num.length := ⟨_, rfl⟩
  obtain ⟨q2, hq2⟩ : ∃ q, q = r.den.length := ⟨_, rfl⟩
  rw [← hq1, ← hq2] at hr ⊢
  obtain ⟨Q, hQ⟩ : ∃ Q, Q = plusP [] (s, ratOf r) := ⟨_, rfl⟩
  rw [← hQ]
  have HRS := Lib.hid hrs
  have HQ := Lib.hid hQ
  have HZN := Lib.hid hzn
  obtain ⟨w0, hw0⟩ : ∃ w0, w0 = w.alloc (.cells #[.int .i64 s, .bool ng, .slice a1 q1 c1, .slice a2 q2 c2] 83) := ⟨_, rfl⟩
  have HX0 : Hid (TBox w0 w.heap.size s r) := Lib.hid (by rw [hw0]; exact TBox.made hr)
  have HK0 : Hid (Kept w w0) := Lib.hid (by rw [hw0]; exact (Kept.refl _).alloc _)
  have HZ0 : Hid (w0.heap.size = w.heap.size + 1) := Lib.hid (by rw [hw0]; simp)
  have HW0 := Lib.hid hw0
  clear hr hrs hQ hw0 hq1 hq2 hzn
  go_enter Tryz.func58, Tryz.ntmps58
  go_wp2_with fail
  rw [← HW0.out]
  go_loopg [5] 0 (fun kx s5 wr => s5 = .int .i64 0 ∧ Hid (Kept w0 wr))
  case atStart => exact ⟨rfl, Lib.hid (Kept.refl _)⟩
  case round =>
    obtain ⟨rfl, HKr⟩ := hrel
    obtain ⟨wi, rfl⟩ : ∃ wi : World, wi = wr := ⟨_, rfl⟩
    go_upto_region 2 with fail
    go_quiet (fail)
    have hkq : Kept wi (wi.drewN nq) := (Kept.refl wi).drewN _
    obtain ⟨wj, hwj⟩ : ∃ wj, wj = wi.drewN nq := ⟨_, rfl⟩
    rw [← hwj] at hkq ⊢
    have HKj := Lib.hid (HKr.out.trans hkq)
    clear hwj hkq HKr
    have HBS : Hid (w.heap.size + 1 ≤ wj.heap.size) := Lib.hid (by have := HKj.out.size; have := HZ0.out; omega)
    have HTK : Hid (TrmsAt (wj.alloc (.cells #[] 83)) (.slice a 0 pc) []) := Lib.hid (TrmsAt.none _ _ _ HZN.out)
    go_wp2_with (at_builtin; refine app_trms rfl _ _ rfl (w.heap.size + 1) _ [] rfl (own_emptyT wj _ HBS.out) _ [] rfl HTK.out (by simp) (by have := HBS.out; simp; omega) ?_; intro v4 w4 hown4 hb4; have HO4 := Lib.hid hown4; have HB4 := Lib.hid hb4; clear hown4 hb4)
    have HK4 : Hid (Kept w0 w4) := Lib.hid ((HKj.out.alloc _).app (by rw [HZ0.out]; exact HB4.out))
    have HX4 := Lib.hid (HX0.out.kept HK4.out)
    replace HO4 : Hid (OwnTrms w4 (w.heap.size + 1) v4 []) := Lib.hid HO4.out
    clear HB4 HTK HKj HBS
    go_quiet (fail)
    have hkq : Kept w4 (w4.drewN nq) := (Kept.refl w4).drewN _
    obtain ⟨w5, hw5⟩ : ∃ w5, w5 = w4.drewN nq := ⟨_, rfl⟩
    rw [← hw5] at hkq ⊢
    have HK5 := Lib.hid (HK0.out.trans (HK4.out.trans hkq))
    have HB5 : Hid (w.heap.size + 1 ≤ w5.heap.size) := Lib.hid (by have := (HK4.out.trans hkq).size; have := HZ0.out; omega)
    have HX5 := Lib.hid (HX4.out.kept hkq)
    have HO5 := Lib.hid (HO4.out.kept hkq)
    clear hw5 hkq
    have HQE : Hid (Q = if ratOf r = 0 then [] else [(s, ratOf r)]) := Lib.hid (by rw [HQ.out]; rfl)
    have HRT : Hid (r.Short 34359738100) := Lib.hid ⟨Nat.le_trans HRS.out.1 (by omega), Nat.le_trans HRS.out.2 (by omega)⟩
    obtain ⟨S, hS⟩ : ∃ S, S = sgnR (ratOf r) := ⟨_, rfl⟩
    have HS0 : Hid (S = 0 ↔ ratOf r = 0) := Lib.hid (by rw [hS]; exact sgnR_zero)
    have HSG : Hid (∀ W u, RatAt W u r → Calls Tryz.prog 52 #[u] W fun e w' => e = .returned (.int .i64 S) ∧ Kept W w') := Lib.hid fun W u hu => by
      rw [hS]
      exact refsign_any u _ W hu ⟨Nat.le_trans HRT.out.1 (by omega), Nat.le_trans HRT.out.2 (by omega)⟩
    have HAZ : Hid (∀ W u, RatAt W u r → Calls Tryz.prog 77 #[u, .agg #[.bool false, .slice none 0 0, .slice none 0 0]] W fun e w' => (∃ v', e = .returned v' ∧ RatAt w' v' (canR (ratOf r))) ∧ Kept W w') := Lib.hid fun W u hu => by
      have h := refadd02_any u _ r (canR 0) W hu ⟨_, _, rfl, WdsAt.nil W, WdsAt.nil W⟩ ⟨Nat.le_trans HRT.out.1 (by omega), Nat.le_trans HRT.out.2 (by omega)⟩ ⟨by decide +kernel, by decide +kernel⟩
      rw [ratOf_can, Rat.add_zero] at h
      exact h
    clear hS
    obtain ⟨m1, l1, l2, e1, f1, e2, f2, x0, x1, x2, x3, hlx, HRX⟩ := HX5.out.read
    go_wp2_with fail
    refine (HSG.out _ _ HRX.out).mono ?_
    rintro e w8 ⟨rfl, hk8⟩
    have HX8 := Lib.hid (HX5.out.kept hk8)
    have HO8 := Lib.hid (HO5.out.kept hk8)
    have HK8 := Lib.hid (HK5.out.trans hk8)
    have HSZ8 := Lib.hid hk8.size
    clear hk8 x0 x1 x2 x3 hlx HRX
    have HB8 : Hid (w.heap.size + 1 ≤ w8.heap.size) := Lib.hid (Nat.le_trans HB5.out HSZ8.out)
    by_cases hz : S = 0
    · have hzb : (S == 0) = true := by rw [hz]; rfl
      have hzn : (S != 0) = false := by rw [hz]; rfl
      have HQZ : Hid (polT Q = ([] : List Trm)) := Lib.hid (by
        rw [HQE.out, if_pos (HS0.out.1 hz)]
        rfl)
      have HLZ : Hid (([] : List Trm).length + ([] : List Trm).length < 1099511627776) := Lib.hid (by simp)
      have HTD : Hid (TrmsAt w8 (.slice a 0 pc) []) := Lib.hid (TrmsAt.none _ _ _ HZN.out)
      go_wp2_with (at_builtin; refine app_trms rfl _ _ rfl (w.heap.size + 1) _ ([] : List Trm) rfl HO8.out _ [] rfl HTD.out HLZ.out HB8.out ?_; intro v12 w12 hown12 hb12; have HO12 := Lib.hid hown12; have HB12' := Lib.hid hb12; clear hown12 hb12)
      go_ret
      exact ⟨⟨_, rfl, by rw [HQZ.out, ← List.append_nil ([] : List Trm)]; exact HO12.out.at⟩, HK8.out.app (HB12'.out.mono (Nat.le_succ _))⟩
    · have hzb : (S == 0) = false := by rw [beq_eq_false_iff_ne]; exact hz
      have hzn : (S != 0) = true := by rw [bne_iff_ne]; exact hz
      have HQZ : Hid (polT Q = [((s : Int), canR (ratOf r))]) := Lib.hid (by
        rw [HQE.out, if_neg (fun h => hz (HS0.out.2 h))]
        rfl)
      obtain ⟨m1, l1, l2, e1, f1, e2, f2, x0, x1, x2, x3, hlx, HRX⟩ := HX8.out.read
      have HCL0 : Hid ((fun W : World => W.cell? ⟨w.heap.size, 0, none⟩ = some (.int .i64 s) ∧ W.cell? ⟨w.heap.size, 1, none⟩ = some (.bool m1) ∧ W.cell? ⟨w.heap.size, 2, none⟩ = some (.slice e1 l1 f1) ∧ W.cell? ⟨w.heap.size, 3, none⟩ = some (.slice e2 l2 f2)) w8) := Lib.hid ⟨x0, x1, x2, x3⟩
      have HSK : Hid (∀ W W' : World, Kept W W' → (fun W : World => W.cell? ⟨w.heap.size, 0, none⟩ = some (.int .i64 s) ∧ W.cell? ⟨w.heap.size, 1, none⟩ = some (.bool m1) ∧ W.cell? ⟨w.heap.size, 2, none⟩ = some (.slice e1 l1 f1) ∧ W.cell? ⟨w.heap.size, 3, none⟩ = some (.slice e2 l2 f2)) W → (fun W : World => W.cell? ⟨w.heap.size, 0, none⟩ = some (.int .i64 s) ∧ W.cell? ⟨w.heap.size, 1, none⟩ = some (.bool m1) ∧ W.cell? ⟨w.heap.size, 2, none⟩ = some (.slice e1 l1 f1) ∧ W.cell? ⟨w.heap.size, 3, none⟩ = some (.slice e2 l2 f2)) W') := Lib.hid fun W W' hk ⟨p0, p1, p2, p3⟩ => ⟨hk.cell p0, hk.cell p1, hk.cell p2, hk.cell p3⟩
      have HCLd := Lib.hid (HSK.out w8 w8.drew (Kept.refl _).drew HCL0.out)
      have HLL : Hid (([] : List Trm).length < 1099511627776) := Lib.hid (by simp)
      go_wp2_with fail
      go_region_held3 (fun W => W.cell? ⟨w.heap.size, 0, none⟩ = some (.int .i64 s) ∧ W.cell? ⟨w.heap.size, 1, none⟩ = some (.bool m1) ∧ W.cell? ⟨w.heap.size, 2, none⟩ = some (.slice e1 l1 f1) ∧ W.cell? ⟨w.heap.size, 3, none⟩ = some (.slice e2 l2 f2))
        (with_reducible first | exact HCL11.out | exact HCL10.out | exact HCL9.out | exact HCLd.out | exact HCL0.out)
        (first
        | (go_at_call 77; (with_reducible refine (HAZ.out _ _ (HRX.out.kept (Kept.refl _).drew)).mono ?_); rintro e w9 ⟨⟨v9, rfl, hv9⟩, hk9⟩; have K9 := Lib.hid ((Kept.refl w8).drew.trans hk9); obtain ⟨z1, z2, rfl, hz1, hz2⟩ := hv9; have HZ1 := Lib.hid hz1; have HZ2 := Lib.hid hz2; obtain ⟨za1, zc1, rfl⟩ := hz1.shape; obtain ⟨za2, zc2, rfl⟩ := hz2.shape; have HCL9 := Lib.hid (HSK.out _ _ K9.out HCL0.out); have HCL10 := Lib.hid (HSK.out _ _ (K9.out.alloc (.cells #[.int .i64 s, .bool (canR (ratOf r)).neg, .slice za1 (canR (ratOf r)).num.length zc1, .slice za2 (canR (ratOf r)).den.length zc2] 83)) HCL0.out); have HB9 : Hid (w.heap.size + 1 ≤ w9.heap.size) := Lib.hid (Nat.le_trans HB8.out K9.out.size); clear hk9 hz1 hz2)
        | (refine step_trm rfl _ _ rfl (w.heap.size + 1) v4 [] rfl (HO8.out.kept (K9.out.alloc _)) w9.heap.size ((s : Int), canR (ratOf r)) _ _ rfl (range_made4 _ _ _ _ _ _) (HZ1.out.kept ((Kept.refl _).alloc _)) (HZ2.out.kept ((Kept.refl _).alloc _)) HLL.out (Nat.le_trans HB9.out (size_alloc_le _ _)) ?_; intro v11 w11 hown11 hb11; have HO11 := Lib.hid hown11; have HB11 := Lib.hid hb11; have HCL11 := Lib.hid (⟨below_cellB HB11.out (Nat.lt_succ_self _) HCL10.out.1, below_cellB HB11.out (Nat.lt_succ_self _) HCL10.out.2.1, below_cellB HB11.out (Nat.lt_succ_self _) HCL10.out.2.2.1, below_cellB HB11.out (Nat.lt_succ_self _) HCL10.out.2.2.2⟩ : (fun W : World => W.cell? ⟨w.heap.size, 0, none⟩ = some (.int .i64 s) ∧ W.cell? ⟨w.heap.size, 1, none⟩ = some (.bool m1) ∧ W.cell? ⟨w.heap.size, 2, none⟩ = some (.slice e1 l1 f1) ∧ W.cell? ⟨w.heap.size, 3, none⟩ = some (.slice e2 l2 f2)) w11); clear hown11 hb11))
      have HK11 : Hid (Kept w w11) := Lib.hid ((HK8.out.trans (K9.out.alloc _)).app (HB11.out.mono (Nat.le_succ _)))
      have HB12 : Hid (w.heap.size + 1 ≤ w11.heap.size) := Lib.hid (Nat.le_trans HB9.out (Nat.le_trans (by simp) HB11.out.size))
      clear x0 x1 x2 x3 hlx
      have HLZ : Hid ([((s : Int), canR (ratOf r))].length + ([] : List Trm).length < 1099511627776) := Lib.hid (by simp)
      have HTD : Hid (TrmsAt w11 (.slice a 0 pc) []) := Lib.hid (TrmsAt.none _ _ _ HZN.out)
      go_wp2_with (at_builtin; refine app_trms rfl _ _ rfl (w.heap.size + 1) _ [((s : Int), canR (ratOf r))] rfl HO11.out _ [] rfl HTD.out HLZ.out HB12.out ?_; intro v12 w12 hown12 hb12; have HO12 := Lib.hid hown12; have HB12' := Lib.hid hb12; clear hown12 hb12)
      go_ret
      exact ⟨⟨_, rfl, by rw [HQZ.out, ← List.append_nil [((s : Int), canR (ratOf r))]]; exact HO12.out.at⟩, HK11.out.app (HB12'.out.mono (Nat.le_succ _))⟩
/-- plus. -/
theorem rplus_any (v : Value) (p : Pol) (s : Nat) (ng : Bool) (u1 u2 : Value) (r : Rw) (w : World) (hp : TrmsAt w v (polT p)) (hr : RatAt w (.agg #[.bool ng, u1, u2]) r) (hs : s < 16777216) (hb : ∀ t ∈ p, t.1 < 16777216) (hl : p.length ≤ 16777216) (hsh : ShP 17179869000 p) (hrs : r.Short 17179869000) :
    Calls Tryz.prog 58 #[v, .agg #[.int .i64 s, .bool ng, u1, u2]] w fun e w' => (∃ v', e = .returned v' ∧ TrmsAt w' v' (polT (plusP p (s, ratOf r)))) ∧ Kept w w' := by
  cases p with
  | nil =>
    obtain ⟨a, c, rfl, ⟨_, h⟩, _⟩ := hp
    exact rplus_nil a c s ng u1 u2 r w h hr hrs
  | cons t p => exact rplus_cons v _ s ng u1 u2 r w hp (by simp) hr hs hb hl hsh hrs
end Go.Proofs.YtpaedhlacbpmpaaGreatDoor
