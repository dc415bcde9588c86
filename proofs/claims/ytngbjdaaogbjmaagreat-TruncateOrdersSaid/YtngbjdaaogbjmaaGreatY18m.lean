import Derived.Test.YtngbjdaaogbjmaaGreatY16m
import Derived.Test.YtngbjdaaogbjmaaGreatK5
import Derived.Test.YtngbjdaaogbjmaaGreatW4m
/-
  Walks: faultlinelaw35.awake, refused, same; topdown.Cuts by its error number.
-/
namespace Go.Proofs.YtngbjdaaogbjmaaGreat
open Go.RowKit

theorem refused_any (q : Nat) (hq : q = 4 ∨ q = 7) (w : World) : Calls Tryz.prog 18 #[errV q] w fun e w' => e = .returned (.bool true) ∧ w = w' := by
  have H7 : Hid (Calls Tryz.prog 30 #[errV q, .int .i64 7] w fun e w' => e = .returned (.bool (q == 7)) ∧ w = w') := Lib.hid (is_all q 7 w (by omega))
  have H4 : Hid (Calls Tryz.prog 30 #[errV q, .int .i64 4] w fun e w' => e = .returned (.bool (q == 4)) ∧ w = w') := Lib.hid (is_all q 4 w (by omega))
  have hb : ((q == 7) = true) ∨ ((q == 7) = false ∧ (q == 4) = true) := by rcases hq with rfl | rfl <;> simp
  rw [errV_pos (by omega)] at *
  clear hq
  rcases hb with h | ⟨h, h2⟩
  · rw [h] at H7
    go_enter Tryz.func18, Tryz.ntmps18
    go_wp2_with (go_at_call 30; (with_reducible refine H7.out.mono ?_); rintro e w1 ⟨rfl, rfl⟩)
    go_ret
    exact ⟨rfl, rfl⟩
  · rw [h] at H7
    rw [h2] at H4
    go_enter Tryz.func18, Tryz.ntmps18
    go_wp2_with (first | (go_at_call 30; (with_reducible refine H7.out.mono ?_); rintro e w1 ⟨rfl, rfl⟩) | (go_at_call 30; (with_reducible refine H4.out.mono ?_); rintro e w1 ⟨rfl, rfl⟩))
    go_ret
    exact ⟨rfl, rfl⟩
theorem by_ex : Tr.byR 3 5 exF 1 = (0, [1], [3, 5, 6]) := by
  unfold Tr.byR
  rw [if_neg (by rw [syn_ex]; decide), if_neg (by omega), show exF.nodes = exN from rfl, top35_ex]
theorem ex_by (v : Value) (w : World) (hv : NodesAt w v exN) :
    Calls Tryz.prog 11 #[.agg #[.int .i64 3, v, .int .i64 5], .int .i64 1] w fun e w' => (∃ kv fv, e = .returned (.tuple #[.agg #[kv, fv], .nilIface]) ∧ IntsAt w' kv (ofN [1]) ∧ IntsAt w' fv (ofN [3, 5, 6])) ∧ Kept w w' := by
  have h := Tr.tby_any v exF 3 5 1 w hv ok_ex chk_ex
  rw [by_ex] at h
  exact h
theorem one_new (w : World) (x : Int) : IntsAt (w.alloc (.cells #[.int .i64 x] 3)) (.slice (some ⟨w.heap.size, 0, none⟩) 1 1) [x] := by
  refine ⟨_, 1, rfl, ⟨Nat.le_refl _, fun h => by cases h⟩, by simp, fun i hi => ⟨w.heap.size, 0, rfl, ?_⟩⟩
  match i, hi with
  | 0, _ => exact alloc_cell rfl rfl
theorem one_new2 (w : World) (x : Int) (o : Obj) : IntsAt ((w.alloc o).alloc (.cells #[.int .i64 x] 3)) (.slice (some ⟨w.heap.size + 1, 0, none⟩) 1 1) [x] := by
  have := one_new (w.alloc o) x
  simpa using this
set_option maxRecDepth 100000 in
set_option maxHeartbeats 1000000 in
theorem wawake_ok (w : World) : Calls Tryz.prog 9 #[] w fun e w' => e = .returned (.bool true) ∧ Kept w w' := by
  go_enter Tryz.func9, Tryz.ntmps9
  go_wp2_with (first
    | (go_at_call 35; refine (example_ok _).mono ?_; rintro e w1 ⟨⟨v1, rfl, ⟨a1, n1, c1, rfl⟩, hn1⟩, hk1⟩; have HN1 := Lib.hid hn1; clear hn1)
    | (go_at_call 11; refine (ex_by _ _ HN1.out).mono ?_; rintro e w2 ⟨⟨kv, fv, rfl, hkv, hfv⟩, hk2⟩; obtain ⟨ka, kn, kc, rfl⟩ := hkv.shape; obtain ⟨fa, fn, fc, rfl⟩ := hfv.shape; have HKV := Lib.hid hkv; have HFV := Lib.hid hfv; have HK2 := Lib.hid (hk1.trans hk2); clear hkv hfv hk1 hk2)
    | (go_at_call 20; refine Calls.mono (ints_true (l := [1]) _ _ _ (HKV.out.kept (((Kept.refl _).alloc _).alloc _)) (one_new2 _ _ _)) ?_; rintro e w3 ⟨rfl, hk3⟩; have hc3 := hk3.cell (((Kept.refl _).alloc (.cells #[.int .i64 1] 3)).cell (p := ⟨w2.heap.size, 1, none⟩) (v := .slice fa fn fc) (by simp)); have HK3 := Lib.hid ((((Kept.refl _).alloc _).alloc _).trans hk3); clear hk3)
    | (go_at_call 20; refine Calls.mono (ints_true (l := [3, 5, 6]) _ _ _ ((HFV.out.kept HK3.out).kept ((Kept.refl _).alloc _)) (three_new _ _ _ _)) ?_; rintro e w4 ⟨rfl, hk4⟩))
  go_ret
  exact ⟨rfl, HK2.out.trans (HK3.out.trans (((Kept.refl _).alloc _).trans hk4))⟩
/-- topdown.Cuts by its error number. -/
theorem tcut_num (v : Value) (f : Fm) (V T : Nat) (hok : Ok f V T) (hck : chkF f = 0) (hs : ∃ a n c, v = .slice a n c) :
    ∃ (q : Nat) (R : List Nat), ((q = 0 ∧ synK V T f = true ∧ ∃ p, topK V T f.nodes = some p ∧ R = p.1) ∨ ((q = 4 ∨ q = 7) ∧ R = [])) ∧
      ∀ W, NodesAt W v f.nodes → Calls Tryz.prog 17 #[.agg #[.int .i64 V, v, .int .i64 T]] W fun e w' => (∃ v', e = .returned (.tuple #[v', errV q]) ∧ OwnSets w' 0 v' R) ∧ Kept W w' := by
  have hfm : fmV v f = .agg #[.int .i64 V, v, .int .i64 T] := by unfold fmV; rw [hok.vars, hok.top]
  have hnil : ∀ W : World, OwnSets W 0 (.slice none 0 0) [] := fun W => ⟨by simpa [ofN] using OwnInts.nil W 0, by simp⟩
  cases hsy : synK V T f with
  | false =>
    refine ⟨7, [], .inr ⟨.inr rfl, rfl⟩, fun W hW => ?_⟩
    have h := tcuts_err v f 7 (by omega) W hs (fun W' hk => by
      rw [hfm]
      refine run_typed v V T W' hs fun W2 hk2 => ?_
      have := syntax_ok v f V T W2 ((hW.kept hk).kept hk2) hok hck
      rw [hsy] at this
      exact this)
    rw [hfm] at h
    exact h.mono fun e w' ⟨h1, h2⟩ => ⟨⟨_, h1, hnil w'⟩, h2⟩
  | true =>
    cases hl : topK V T f.nodes with
    | none =>
      refine ⟨4, [], .inr ⟨.inl rfl, rfl⟩, fun W hW => ?_⟩
      have h := tcuts_err v f 4 (by omega) W hs (fun W' hk => by
        have := run_ok v f V T W' (hW.kept hk) hok hck hsy
        rw [hl, ← hfm] at this
        exact this)
      rw [hfm] at h
      exact h.mono fun e w' ⟨h1, h2⟩ => ⟨⟨_, h1, hnil w'⟩, h2⟩
    | some p =>
      obtain ⟨hg, hm, _⟩ := topK_says hok hsy hl
      exact ⟨0, p.1, .inl ⟨rfl, rfl, p, rfl, rfl⟩, fun W hW => tcuts_ok v V T p W hg hm hs fun W' hk => by
        have := run_ok v f V T W' (hW.kept hk) hok hck hsy
        rw [hl] at this
        exact this⟩
end Go.Proofs.YtngbjdaaogbjmaaGreat
