import Derived.Test.YtngbjdaaogbjmaaGreatY26m
import Derived.Test.YtngbjdaaogbjmaaGreatY18m
import Derived.Test.YtngbjdaaogbjmaaGreatK4
import Derived.Test.YtngbjdaaogbjmaaGreatR6m
/-
  The law TruncateOrders returns true, whatever the arguments: no condition.
-/
namespace Go.Proofs.YtngbjdaaogbjmaaGreat
open Go.RowKit Go.ChangeShapes Go.WideShapes Go.ChangeAt Go.Joins Go.Deep

set_option maxRecDepth 100000 in
theorem beyond_order (k : Int) (p0 l0 d0 : Option Addr) (p1 p2 l1 l2 d1 d2 : Nat) (lb : Bool) (w : World) : BeyAt w (.agg #[.int .i64 k, .slice p0 p1 p2, .bool lb, .slice l0 l1 l2, .slice d0 d1 d2]) false (Tr.overP k) := by
  intro e W _ he
  have HC := Lib.hid (fun W => rcount_any he W)
  obtain ⟨r, hr⟩ : ∃ r, r = pc e := ⟨_, rfl⟩
  have HE : Hid (Tr.overP k e = decide (k < (r : Int))) := Lib.hid (by unfold Tr.overP; rw [hr])
  rw [← hr] at HC
  clear hr he
  go_enter Tryz.func85, Tryz.ntmps85
  go_wp2
  go_region_with ((go_at_call 144; refine (HC.out _).mono ?_; rintro e w' ⟨rfl, rfl⟩))
  all_goals go_wp2
  all_goals go_ret
  all_goals exact ⟨by rw [HE.out]; rfl, by repeat (first | exact Kept.refl _ | apply Kept.drewN | apply Kept.drew | apply Kept.alloc)⟩
set_option maxRecDepth 100000 in
set_option maxHeartbeats 4000000 in
theorem rby_any (v : Value) (f : Fm) (V T : Nat) (k : Int) (w : World) (hv : NodesAt w v f.nodes) (hok : Ok f V T) :
    Calls Tryz.prog 15 #[.agg #[.int .i64 V, v, .int .i64 T], .int .i64 k] w fun e w' => (∃ kv fv, e = .returned (.tuple #[.agg #[kv, fv], .int .i64 ((Tr.byR V T f k).1 : Nat)]) ∧ IntsAt w' kv (ofN (Tr.byR V T f k).2.1) ∧ IntsAt w' fv (ofN (Tr.byR V T f k).2.2)) ∧ Kept w w' := by
  have HTY : Hid (∀ W, Kept w W → Calls Tryz.prog 42 #[.agg #[.int .i64 V, v, .int .i64 T]] W fun e w' => e = .returned (.int .i64 (if synK V T f = true then 0 else 7)) ∧ Kept W w') := Lib.hid fun W hk => typed_any v f V T W (hv.kept hk) hok
  have HV := Lib.hid hv
  have hsh : ∃ a n c, v = .slice a n c := by obtain ⟨a, c, h, _⟩ := hv; exact ⟨a, _, c, h⟩
  obtain ⟨a, n, c, rfl⟩ := hsh
  have HRW : Hid (∀ w1, Kept ((w.alloc (.cells #[.int .i64 V, .slice a n c, .int .i64 T] 24)).alloc (.cells #[.slice none 0 0, .slice none 0 0] 29)) w1 → RowAt w1 (w.heap.size + 1) 29 [.slice none 0 0, .slice none 0 0] ∧ RowAt w1 w.heap.size 24 [.int .i64 V, .slice a n c, .int .i64 T]) := Lib.hid fun w1 hk => by
    constructor
    · have := (RowAt.made (w.alloc (.cells #[.int .i64 V, .slice a n c, .int .i64 T] 24)) #[.slice none 0 0, .slice none 0 0] 29).kept hk
      simpa using this
    · have := ((RowAt.made w #[.int .i64 V, .slice a n c, .int .i64 T] 24).kept ((Kept.refl _).alloc _)).kept hk
      simpa using this
  cases hsy : synK V T f with
  | false =>
    have e7 : Tr.byR V T f k = (7, [], []) := by unfold Tr.byR; rw [if_pos hsy]
    rw [e7]
    rw [hsy] at HTY
    simp only [Bool.false_eq_true, if_false] at HTY
    clear hv hok hsy e7
    go_enter Tryz.func15, Tryz.ntmps15
    go_wp2_with (go_at_call 42; refine (HTY.out _ (((Kept.refl _).alloc _).alloc _)).mono ?_; rintro e w1 ⟨rfl, hk1⟩; have ht4 := (HRW.out w1 hk1).1; have g0 := ht4.cell (i := 0) (by simp); have g1 := ht4.cell (i := 1) (by simp); have g2 := ht4.free 0; have g3 := ht4.free 1; simp only [List.getElem_cons_succ, List.getElem_cons_zero] at g0 g1; have HK1 := Lib.hid ((((Kept.refl _).alloc _).alloc _).trans hk1); clear hk1 ht4)
    refine bodyPost_ret (v := .tuple #[.agg #[.slice none 0 0, .slice none 0 0], .int .i64 (7 : Nat)]) ?_ rfl ⟨⟨_, _, rfl, IntsAt.nil _, IntsAt.nil _⟩, (HK1.out.store (by omega) 0 _).store (by omega) 1 _⟩
    simp [results, Tryz.results15, go_sem, g0, g1]
  | true =>
    rw [hsy] at HTY
    simp only [if_true] at HTY
    by_cases hr : k < 0 ∨ 24 < k
    · have e3 : Tr.byR V T f k = (3, [], []) := by unfold Tr.byR; rw [if_neg (by simp [hsy]), if_pos hr]
      rw [e3]
      clear hv hok hsy e3
      rcases hr with hr | hr
      all_goals
        go_enter Tryz.func15, Tryz.ntmps15
        go_wp2_with (go_at_call 42; refine (HTY.out _ (((Kept.refl _).alloc _).alloc _)).mono ?_; rintro e w1 ⟨rfl, hk1⟩; have ht4 := (HRW.out w1 hk1).1; have g0 := ht4.cell (i := 0) (by simp); have g1 := ht4.cell (i := 1) (by simp); have g2 := ht4.free 0; have g3 := ht4.free 1; simp only [List.getElem_cons_succ, List.getElem_cons_zero] at g0 g1; have HK1 := Lib.hid ((((Kept.refl _).alloc _).alloc _).trans hk1); clear hk1 ht4)
        refine bodyPost_ret (v := .tuple #[.agg #[.slice none 0 0, .slice none 0 0], .int .i64 (3 : Nat)]) ?_ rfl ⟨⟨_, _, rfl, IntsAt.nil _, IntsAt.nil _⟩, (HK1.out.store (by omega) 0 _).store (by omega) 1 _⟩
        simp [results, Tryz.results15, go_sem, g0, g1]
    · have hr0 : ¬ k < 0 := fun h => hr (.inl h)
      have hr1 : ¬ 24 < k := fun h => hr (.inr h)
      have HRUN : Hid (∀ W, Kept w W → Calls Tryz.prog 43 #[.agg #[.int .i64 V, .slice a n c, .int .i64 T], .agg #[.int .i64 k, .slice none 0 0, .bool false, .slice none 0 0, .slice none 0 0], .bool false] W fun e w' => SRes w' e (topT V T (Tr.overP k) f.nodes) ∧ Kept W w') := Lib.hid fun W hk => rrun35_any _ f V T (Tr.overP k) false false k none none none 0 0 0 0 0 0 W (hv.kept hk) hok hsy (beyond_order k none none none 0 0 0 0 0 0 false W)
      cases hto : topT V T (Tr.overP k) f.nodes with
      | none =>
        have e0 : Tr.byR V T f k = (4, [], []) := by unfold Tr.byR; rw [if_neg (by simp [hsy]), if_neg hr, hto]
        rw [hto] at HRUN
        rw [e0]
        unfold SRes at HRUN
        clear hv hok hsy e0 hr hto
        go_enter Tryz.func15, Tryz.ntmps15
        go_wp2_with (first | (go_at_call 42; refine (HTY.out _ (((Kept.refl _).alloc _).alloc _)).mono ?_; rintro e w1 ⟨rfl, hk1⟩; have ht4 := (HRW.out w1 hk1).1; have HT4 := Lib.hid ht4; have hf1 := (HRW.out w1 hk1).2; have c0 := hf1.cell (i := 0) (by simp); have c1 := hf1.cell (i := 1) (by simp); have c2 := hf1.cell (i := 2) (by simp); simp only [List.getElem_cons_succ, List.getElem_cons_zero] at c0 c1 c2; have HK1 := Lib.hid ((((Kept.refl _).alloc _).alloc _).trans hk1); clear hk1 ht4 hf1) | (go_at_call 43; refine (HRUN.out _ HK1.out).mono ?_; rintro e w2 ⟨rfl, hk2⟩; have ht4 := HT4.out.kept hk2; have g0 := ht4.cell (i := 0) (by simp); have g1 := ht4.cell (i := 1) (by simp); have g2 := ht4.free 0; have g3 := ht4.free 1; simp only [List.getElem_cons_succ, List.getElem_cons_zero] at g0 g1; have HK2 := Lib.hid (HK1.out.trans hk2); clear hk2 ht4))
        refine bodyPost_ret (v := .tuple #[.agg #[.slice none 0 0, .slice none 0 0], .int .i64 (4 : Nat)]) ?_ rfl ⟨⟨_, _, rfl, IntsAt.nil _, IntsAt.nil _⟩, (HK2.out.store (by omega) 0 _).store (by omega) 1 _⟩
        simp [results, Tryz.results15, go_sem, g0, g1]
      | some p =>
        have e0 : Tr.byR V T f k = (0, p.1, p.2) := by unfold Tr.byR; rw [if_neg (by simp [hsy]), if_neg hr, hto]
        rw [hto] at HRUN
        rw [e0]
        unfold SRes at HRUN
        clear hv hok hsy e0 hr hto
        go_enter Tryz.func15, Tryz.ntmps15
        go_wp2_with (first | (go_at_call 42; refine (HTY.out _ (((Kept.refl _).alloc _).alloc _)).mono ?_; rintro e w1 ⟨rfl, hk1⟩; have ht4 := (HRW.out w1 hk1).1; have HT4 := Lib.hid ht4; have hf1 := (HRW.out w1 hk1).2; have c0 := hf1.cell (i := 0) (by simp); have c1 := hf1.cell (i := 1) (by simp); have c2 := hf1.cell (i := 2) (by simp); simp only [List.getElem_cons_succ, List.getElem_cons_zero] at c0 c1 c2; have HK1 := Lib.hid ((((Kept.refl _).alloc _).alloc _).trans hk1); clear hk1 ht4 hf1) | (go_at_call 43; refine (HRUN.out _ HK1.out).mono ?_; rintro e w2 ⟨⟨kv, fv, rfl, hkv, hfv⟩, hk2⟩; obtain ⟨ka, kn, kc, rfl⟩ := hkv.shape; obtain ⟨fa, fn, fc, rfl⟩ := hfv.shape; have HKV := Lib.hid hkv; have HFV := Lib.hid hfv; have hst4 := HT4.out.kept hk2; have g0 := hst4.cell (i := 0) (by simp); have g1 := hst4.cell (i := 1) (by simp); have g2 := hst4.free 0; have g3 := hst4.free 1; simp only [List.getElem_cons_succ, List.getElem_cons_zero] at g0 g1; have HS4 := Lib.hid hst4; have HK2 := Lib.hid (HK1.out.trans hk2); clear hk2 hst4 hkv hfv))
        refine bodyPost_ret (v := .tuple #[.agg #[.slice ka kn kc, .slice fa fn fc], .int .i64 (0 : Nat)]) ?_ rfl ⟨⟨_, _, rfl, ?_, ?_⟩, (HK2.out.store (by omega) 0 _).store (by omega) 1 _⟩
        · simp [results, Tryz.results15, go_sem, g0, g1]
        · exact Tr.cutoff_ints HS4.out ⟨_, _, _, rfl⟩ HKV.out
        · exact Tr.cutoff_ints HS4.out ⟨_, _, _, rfl⟩ HFV.out
set_option maxRecDepth 100000 in
theorem same_true (k1 f1 k2 f2 : Value) (R F : List Int) (w : World) (h1 : IntsAt w k1 R) (h2 : IntsAt w f1 F) (h3 : IntsAt w k2 R) (h4 : IntsAt w f2 F) :
    Calls Tryz.prog 14 #[.agg #[k1, f1], .agg #[k2, f2]] w fun e w' => e = .returned (.bool true) ∧ Kept w w' := by
  have HA := Lib.hid (fun W (hk : Kept w W) => ints_true k1 k2 W (h1.kept hk) (h3.kept hk))
  have HB := Lib.hid (fun W (hk : Kept w W) => ints_true f1 f2 W (h2.kept hk) (h4.kept hk))
  obtain ⟨a1, n1, c1, rfl⟩ := h1.shape
  obtain ⟨a2, n2, c2, rfl⟩ := h2.shape
  obtain ⟨a3, n3, c3, rfl⟩ := h3.shape
  obtain ⟨a4, n4, c4, rfl⟩ := h4.shape
  clear h1 h2 h3 h4
  have HC : Hid (∀ w1, Kept ((w.alloc (.cells #[.slice a1 n1 c1, .slice a2 n2 c2] 29)).alloc (.cells #[.slice a3 n3 c3, .slice a4 n4 c4] 29)) w1 → w1.cell? ⟨w.heap.size, 1, none⟩ = some (.slice a2 n2 c2) ∧ w1.cell? ⟨w.heap.size + 1, 1, none⟩ = some (.slice a4 n4 c4)) := Lib.hid fun w1 hk => by
    constructor
    · have := ((RowAt.made w #[.slice a1 n1 c1, .slice a2 n2 c2] 29).kept ((Kept.refl _).alloc _)).kept hk
      exact this.cell (i := 1) (by simp)
    · have := (RowAt.made (w.alloc (.cells #[.slice a1 n1 c1, .slice a2 n2 c2] 29)) #[.slice a3 n3 c3, .slice a4 n4 c4] 29).kept hk
      have := this.cell (i := 1) (by simp)
      simpa using this
  go_enter Tryz.func14, Tryz.ntmps14
  go_wp2_with fail
  refine (HA.out _ (((Kept.refl _).alloc _).alloc _)).mono ?_
  rintro e w1 ⟨rfl, hk1⟩
  obtain ⟨g1, g2⟩ := HC.out w1 hk1
  have HK1 := Lib.hid ((((Kept.refl _).alloc _).alloc _).trans hk1)
  clear hk1
  go_wp2_with (go_at_call 20; refine (HB.out _ HK1.out).mono ?_; rintro e w2 ⟨rfl, hk2⟩)
  go_ret
  exact ⟨rfl, HK1.out.trans hk2⟩
end Go.Proofs.YtngbjdaaogbjmaaGreat
