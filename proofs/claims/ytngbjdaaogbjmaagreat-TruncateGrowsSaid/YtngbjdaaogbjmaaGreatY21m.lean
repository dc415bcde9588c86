import Derived.Test.YtngbjdaaogbjmaaGreatY19m
/-
  Walks: truncate.Left of an empty frontier; rational.Sign of zero.
-/
namespace Go.Proofs.YtngbjdaaogbjmaaGreat
open Go.RowKit

set_option maxRecDepth 100000 in
theorem bad_nil (w : World) : Calls Tryz.prog 55 #[.slice none 0 0] w fun e w' => e = .returned (.bool false) ∧ Kept w w' := by
  go_enter Tryz.func55, Tryz.ntmps55
  go_wp2
  refine wp_loop_rounds 1 ?_
  rw [rounds_succ]
  go_wp2
  go_ret
  exact ⟨rfl, Kept.refl _⟩
set_option maxRecDepth 100000 in
theorem parts_zero (w : World) : Calls Tryz.prog 66 #[.agg #[.bool false, .slice none 0 0, .slice none 0 0]] w fun e w' => (∃ u, e = .returned (.tuple #[.bool false, .slice none 0 0, u])) ∧ Kept w w' := by
  go_enter Tryz.func66, Tryz.ntmps66
  go_wp2
  go_ret3
  exact ⟨⟨_, rfl⟩, by repeat (first | exact Kept.refl _ | apply Kept.alloc | apply Kept.drew)⟩
set_option maxRecDepth 100000 in
theorem sign_zero (w : World) : Calls Tryz.prog 29 #[.agg #[.bool false, .slice none 0 0, .slice none 0 0]] w fun e w' => e = .returned (.int .i64 0) ∧ Kept w w' := by
  have HP := Lib.hid parts_zero
  go_enter Tryz.func29, Tryz.ntmps29
  go_wp2_with (go_at_call 66; refine (HP.out _).mono ?_; rintro e w1 ⟨⟨u, rfl⟩, hk1⟩)
  go_ret
  exact ⟨rfl, ((Kept.refl _).alloc _).trans hk1⟩
set_option maxRecDepth 100000 in
set_option maxHeartbeats 1000000 in
theorem left_none (kv fv : Value) (R : List Nat) (w : World) (hk : SetsAt w kv R) (hf : SetsAt w fv []) (hg : Good R) :
    Calls Tryz.prog 26 #[.agg #[kv, fv], .slice none 0 0] w fun e w' => e = .returned (.tuple #[.agg #[.bool false, .slice none 0 0, .slice none 0 0], .nilIface]) ∧ Kept w w' := by
  have HC1 := Lib.hid (fun W (h : Kept w W) => fcheck_good kv R W ⟨hk.1.kept h, hk.2⟩ hg)
  have HC2 := Lib.hid (fun W (h : Kept w W) => fcheck_good fv [] W ⟨hf.1.kept h, hf.2⟩ ⟨by simp [Can, minK, sortK, minN], by simp⟩)
  obtain ⟨ka, kn, kc, rfl⟩ := hk.1.shape
  obtain ⟨fa, fc, rfl⟩ : ∃ fa fc, fv = .slice fa 0 fc := by obtain ⟨a, c, h, _⟩ := hf.1; exact ⟨a, c, by simpa [ofN] using h⟩
  have HB := Lib.hid bad_nil
  clear hk hf hg
  go_enter Tryz.func26, Tryz.ntmps26
  go_wp2_with fail
  refine (HC1.out _ (((Kept.refl _).alloc _).alloc _)).mono ?_
  rintro e w1 ⟨rfl, hk1⟩
  have K1 := Lib.hid ((((Kept.refl _).alloc _).alloc _).trans hk1)
  have d0 := hk1.cell (((Kept.refl _).alloc _).cell (p := ⟨w.heap.size, 0, none⟩) (v := .slice ka kn kc) (by simp))
  have d1 := hk1.cell (((Kept.refl _).alloc _).cell (p := ⟨w.heap.size, 1, none⟩) (v := .slice fa 0 fc) (by simp))
  have hr := (RowAt.made (w.alloc (.cells #[.slice ka kn kc, .slice fa 0 fc] 29)) #[.bool false, .slice none 0 0, .slice none 0 0] 51).kept hk1
  simp only [World.size_alloc] at hr
  have HR := Lib.hid hr
  clear hk1 hr
  go_wp2_with fail
  refine (HC2.out _ K1.out).mono ?_
  rintro e w2 ⟨rfl, hk2⟩
  have K2 := Lib.hid (K1.out.trans hk2)
  have d0' := hk2.cell d0
  have d1' := hk2.cell d1
  have hr2 := HR.out.kept hk2
  have HR2 := Lib.hid hr2
  clear d0 d1 hk2 hr2 HR
  go_wp2
  refine wp_loop_rounds 1 ?_
  rw [rounds_succ]
  go_wp2_with (go_at_call 55; refine (HB.out _).mono ?_; rintro e w3 ⟨rfl, hk3⟩; have HK3 := Lib.hid hk3; have i1 := hk3.cell d1'; have hr3 := HR2.out.kept hk3; have g0 := hr3.cell (i := 0) (by simp); have g1 := hr3.cell (i := 1) (by simp); have g2 := hr3.cell (i := 2) (by simp); have s0 := hr3.free 0; have s1 := hr3.free 1; have s2 := hr3.free 2; have hlt := hr3.lt; have hlt2 : w.heap.size < w3.heap.size := (by omega); simp only [List.getElem_cons_succ, List.getElem_cons_zero] at g0 g1 g2; clear hk3 hr3)
  refine wp_loop_rounds 1 ?_
  rw [rounds_succ]
  go_wp2
  have hF := ((((HR2.out.kept HK3.out).store 0 (.bool false)).store 1 (.slice none 0 0)).store 2 (.slice none 0 0)).kept ((Kept.refl _).alloc (.cells #[.bool false, .slice none 0 0, .slice none 0 0] 51))
  have f0 := hF.cell (i := 0) (by simp)
  have f1 := hF.cell (i := 1) (by simp)
  have f2 := hF.cell (i := 2) (by simp)
  simp only [List.set_cons_zero, List.set_cons_succ, List.getElem_cons_succ, List.getElem_cons_zero] at f0 f1 f2
  refine bodyPost_ret (v := .tuple #[.agg #[.bool false, .slice none 0 0, .slice none 0 0], .nilIface]) ?_ rfl ⟨rfl, ?_⟩
  · simp [results, Tryz.results26, go_sem, f0, f1, f2]
  · have h := K2.out.trans HK3.out
    first | exact ((((h.store (by omega) _ _).store (by omega) _ _).store (by omega) _ _).alloc _) | exact ((((h.alloc _).store (by omega) _ _).store (by omega) _ _).store (by omega) _ _)
end Go.Proofs.YtngbjdaaogbjmaaGreat
