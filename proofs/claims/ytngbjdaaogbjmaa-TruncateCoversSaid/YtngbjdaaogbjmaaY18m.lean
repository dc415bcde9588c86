import Derived.Test.YtngbjdaaogbjmaaY16m
import Derived.Test.YtngbjdaaogbjmaaK3
import Derived.Test.YtngbjdaaogbjmaaW4m
/-
  Walks: faultlinelaw35.awake, refused, same; topdown.Cuts by its error number.
-/
namespace Go.Proofs.Ytngbjdaaogbjmaa
open Go.RowKit

theorem refused_any (q : Nat) (hq : q = 4 ∨ q = 7) (w : World) : Calls Try.prog 47 #[errV q] w fun e w' => e = .returned (.bool true) ∧ w = w' := by
  have H7 : Hid (Calls Try.prog 34 #[errV q, .int .i64 7] w fun e w' => e = .returned (.bool (q == 7)) ∧ w = w') := Lib.hid (is_all q 7 w (by omega))
  have H4 : Hid (Calls Try.prog 34 #[errV q, .int .i64 4] w fun e w' => e = .returned (.bool (q == 4)) ∧ w = w') := Lib.hid (is_all q 4 w (by omega))
  have hb : ((q == 7) = true) ∨ ((q == 7) = false ∧ (q == 4) = true) := by rcases hq with rfl | rfl <;> simp
  rw [errV_pos (by omega)] at *
  clear hq
  rcases hb with h | ⟨h, h2⟩
  · rw [h] at H7
    go_enter Try.func47, Try.ntmps47
    go_wp2_with (go_at_call 34; (with_reducible refine H7.out.mono ?_); rintro e w1 ⟨rfl, rfl⟩)
    go_ret
    exact ⟨rfl, rfl⟩
  · rw [h] at H7
    rw [h2] at H4
    go_enter Try.func47, Try.ntmps47
    go_wp2_with (first | (go_at_call 34; (with_reducible refine H7.out.mono ?_); rintro e w1 ⟨rfl, rfl⟩) | (go_at_call 34; (with_reducible refine H4.out.mono ?_); rintro e w1 ⟨rfl, rfl⟩))
    go_ret
    exact ⟨rfl, rfl⟩
theorem by_ex : Tr.byR 3 5 exF 1 = (0, [1], [3, 5, 6]) := by
  unfold Tr.byR
  rw [if_neg (by rw [syn_ex]; decide), if_neg (by omega), show exF.nodes = exN from rfl, top35_ex]
theorem ex_by (v : Value) (w : World) (hv : NodesAt w v exN) :
    Calls Try.prog 46 #[.agg #[.int .i64 3, v, .int .i64 5], .int .i64 1] w fun e w' => (∃ kv fv, e = .returned (.tuple #[.agg #[kv, fv], .nilIface]) ∧ IntsAt w' kv (ofN [1]) ∧ IntsAt w' fv (ofN [3, 5, 6])) ∧ Kept w w' := by
  have h := Tr.tby_any v exF 3 5 1 w hv ok_ex chk_ex
  rw [by_ex] at h
  exact h
theorem one_new (w : World) (x : Int) : IntsAt (w.alloc (.cells #[.int .i64 x] 3)) (.slice (some ⟨w.heap.size, 0, none⟩) 1 1) [x] := by
  refine ⟨_, 1, rfl, ⟨Nat.le_refl _, fun h => by cases h⟩, by simp, fun i hi => ⟨w.heap.size, 0, rfl, ?_⟩⟩
  match i, hi with
  | 0, _ => exact alloc_cell rfl rfl
theorem one_new2 (w : World) (x : Int) (o : Obj) : IntsAt ((w.alloc o).alloc (.cells #[.int .i64 x] 3)) (.slice (some ⟨w.heap.size + 1, 0, none⟩) 1 1) [x] := by
  have := one_new (w.alloc o) x
  simpa using this
set_option maxRecDepth 100000 in
set_option maxHeartbeats 1000000 in
theorem wawake_ok (w : World) : Calls Try.prog 43 #[] w fun e w' => e = .returned (.bool true) ∧ Kept w w' := by
  go_enter Try.func43, Try.ntmps43
  go_wp2_with (first
    | (go_at_call 82; refine (example_ok _).mono ?_; rintro e w1 ⟨⟨v1, rfl, ⟨a1, n1, c1, rfl⟩, hn1⟩, hk1⟩; have HN1 := Lib.hid hn1; clear hn1)
    | (go_at_call 46; refine (ex_by _ _ HN1.out).mono ?_; rintro e w2 ⟨⟨kv, fv, rfl, hkv, hfv⟩, hk2⟩; obtain ⟨ka, kn, kc, rfl⟩ := hkv.shape; obtain ⟨fa, fn, fc, rfl⟩ := hfv.shape; have HKV := Lib.hid hkv; have HFV := Lib.hid hfv; have HK2 := Lib.hid (hk1.trans hk2); clear hkv hfv hk1 hk2)
    | (go_at_call 28; refine Calls.mono (ints_true (l := [1]) _ _ _ (HKV.out.kept (((Kept.refl _).alloc _).alloc _)) (one_new2 _ _ _)) ?_; rintro e w3 ⟨rfl, hk3⟩; have hc3 := hk3.cell (((Kept.refl _).alloc (.cells #[.int .i64 1] 3)).cell (p := ⟨w2.heap.size, 1, none⟩) (v := .slice fa fn fc) (by simp)); have HK3 := Lib.hid ((((Kept.refl _).alloc _).alloc _).trans hk3); clear hk3)
    | (go_at_call 28; refine Calls.mono (ints_true (l := [3, 5, 6]) _ _ _ ((HFV.out.kept HK3.out).kept ((Kept.refl _).alloc _)) (three_new _ _ _ _)) ?_; rintro e w4 ⟨rfl, hk4⟩))
  go_ret
  exact ⟨rfl, HK2.out.trans (HK3.out.trans (((Kept.refl _).alloc _).trans hk4))⟩
end Go.Proofs.Ytngbjdaaogbjmaa
