import Derived.Test.YtpaedhlacbpmpaaGreatDoorPX1
import Derived.Test.YtpaedhlacbpmpaaGreatDoorPX2
import Derived.Test.YtpaedhlacbpmpaaGreatDoorPX3
import Derived.Test.YtpaedhlacbpmpaaGreatDoorPX4
import Derived.Test.YtpaedhlacbpmpaaGreatDoorPX5
import Derived.Test.YtpaedhlacbpmpaaGreatDoorPX6
import Derived.Test.YtpaedhlacbpmpaaGreatDoorPX7
import Derived.Test.YtpaedhlacbpmpaaGreatDoorPX8
import Derived.Test.YtpaedhlacbpmpaaGreatDoorPZ1
import Derived.Test.YtpaedhlacbpmpaaGreatDoorPZ2
/-
  Walks: faultlineref20.Const, Event. Printed by gen_PJ.py.
-/
namespace Go.Proofs.YtpaedhlacbpmpaaGreatDoor
open Go.RowKit

set_option maxRecDepth 100000 in
set_option maxHeartbeats 16000000 in
theorem rconst_any (cv : Value) (c : Rw) (w : World) (hc : RatAt w cv c) (hs : c.Short 17179869000) : Calls Tryz.prog 31 #[cv] w fun e w' => (∃ v', e = .returned v' ∧ TrmsAt w' v' (polT (constP (ratOf c)))) ∧ Kept w w' := by
  have HPL : Hid (∀ W n l1 l2 e1 f1 e2 f2, RatAt W (.agg #[.bool n, .slice e1 l1 f1, .slice e2 l2 f2]) c → Calls Tryz.prog 58 #[.slice none 0 0, .agg #[.int .i64 0, .bool n, .slice e1 l1 f1, .slice e2 l2 f2]] W fun e w' => (∃ v', e = .returned v' ∧ TrmsAt w' v' (polT (constP (ratOf c)))) ∧ Kept W w') := Lib.hid fun W n l1 l2 e1 f1 e2 f2 h => rplus_nil none 0 0 n _ _ c W (fun _ => rfl) h hs
  obtain ⟨n1, l1, m1, a1, c1, a2, c2, w1, rfl, hw1, hcell, hk1, hr1, hz1⟩ := hc.box
  have HC := Lib.hid hcell
  have HK1 := Lib.hid hk1
  have HW1 := Lib.hid hw1
  clear hc hs hw1 hcell hk1 hr1 hz1
  go_enter Tryz.func31, Tryz.ntmps31
  obtain ⟨p1, p2, p3, b1, d1, b2, d2, x0, x1, x2, hlx, HRX⟩ := HC.out.read
  rw [HW1.out] at x0 x1 x2
  go_wp2_with fail
  rw [← HW1.out]
  refine (HPL.out _ _ _ _ _ _ _ _ HRX.out).mono ?_
  rintro e w2 ⟨⟨v2, rfl, hv2⟩, hk2⟩
  clear x0 x1 x2
  go_wp2
  go_ret
  exact ⟨⟨_, rfl, hv2⟩, HK1.out.trans hk2⟩
set_option maxRecDepth 100000 in
set_option maxHeartbeats 16000000 in
theorem revent_any (i : Nat) (w : World) (hi : i < 24) : Calls Tryz.prog 33 #[.int .i64 i] w fun e w' => (∃ v', e = .returned v' ∧ TrmsAt w' v' (polT (eventP i))) ∧ Kept w w' := by
  have HOF : Hid (∀ W, Calls Tryz.prog 74 #[.int .i64 1] W fun e w' => (∃ v', e = .returned v' ∧ RatAt w' v' (canR 1)) ∧ Kept W w') := Lib.hid fun W => refof_any 1 W (by omega)
  have hshl := (shl_mk i hi).1
  have hshl2 : IntKind.i64.wrap ((2 : Int) ^ i) = ((2 ^ i : Nat) : Int) := by
    have hq : ((2 : Int) ^ i) = ((2 ^ i : Nat) : Int) := by simp
    have hb : 2 ^ i < 2 ^ 24 := Nat.pow_lt_pow_right (by omega) hi
    rw [hq]
    generalize (2 : Nat) ^ i = z at hb ⊢
    rw [IntKind.wrap_i64]; omega
  unfold eventP
  obtain ⟨pw, hpw⟩ : ∃ pw, pw = 2 ^ i := ⟨_, rfl⟩
  rw [← hpw] at hshl hshl2 ⊢
  have hi0 : (0 : Int) ≤ (i : Int) := by omega
  have hi24 : (i : Int) < 24 := by omega
  clear hpw
  go_enter Tryz.func33, Tryz.ntmps33
  go_wp2_with fail
  go_region_with (go_at_call 74; (with_reducible refine (HOF.out _).mono ?_); rintro e w1 ⟨⟨v1, rfl, hv1⟩, hk1⟩; have HK1 : Hid (Kept w w1) := Lib.hid ((Kept.refl w).drew.trans hk1); obtain ⟨u1, u2, rfl, h1, h2⟩ := hv1; have HT := Lib.hid (trms_one (s := (pw : Nat)) h1 h2); obtain ⟨a5, c5, rfl⟩ := h1.shape; obtain ⟨a6, c6, rfl⟩ := h2.shape; clear hk1 h1 h2)
  all_goals go_wp2
  all_goals go_ret
  all_goals exact ⟨⟨_, rfl, HT.out⟩, HK1.out.alloc _⟩
end Go.Proofs.YtpaedhlacbpmpaaGreatDoor
