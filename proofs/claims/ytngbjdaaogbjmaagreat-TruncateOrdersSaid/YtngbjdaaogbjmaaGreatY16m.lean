import Derived.Test.YtngbjdaaogbjmaaGreatY15m
import Derived.Test.YtngbjdaaogbjmaaGreatY17m
/-
  Walks: truncate.ByOrder.
-/
namespace Go.Proofs.YtngbjdaaogbjmaaGreat.Tr
open Go.RowKit

/-- What ByOrder answers to a formula that Check accepts: error, kept, frontier. -/
def byR (V T : Nat) (f : Fm) (k : Int) : Nat × List Nat × List Nat :=
  if synK V T f = false then (7, [], []) else if k < 0 ∨ 24 < k then (3, [], []) else
    match topT V T (overP k) f.nodes with
    | none => (4, [], [])
    | some p => (0, p.1, p.2)
theorem minK_evW {R : List Nat} (hg : Good R) (hm : ∀ r ∈ R, r < 16777216) : minK (R.map evW) = R := by
  have : R.map evW = R := by
    have := List.map_congr_left (l := R) (f := evW) (g := id) fun r hr => evW_of_lt (hm r hr)
    simpa using this
  rw [this]
  exact hg.1
theorem cut_row (w : World) (a b c : Obj) (h : c = .cells #[.slice none 0 0, .slice none 0 0] 29) : RowAt (((w.alloc a).alloc b).alloc c) (w.heap.size + 1 + 1) 29 [.slice none 0 0, .slice none 0 0] := by
  subst h
  have := RowAt.made ((w.alloc a).alloc b) #[.slice none 0 0, .slice none 0 0] 29
  simpa using this
theorem fm_cells3 {w w1 : World} {x y z : Value} {e : TypeId} {o2 o3 : Obj} (hk : Kept (((w.alloc (.cells #[x, y, z] e)).alloc o2).alloc o3) w1) : w1.cell? ⟨w.heap.size, 0, none⟩ = some x ∧ w1.cell? ⟨w.heap.size, 1, none⟩ = some y ∧ w1.cell? ⟨w.heap.size, 2, none⟩ = some z :=
  ⟨hk.cell ((((Kept.refl _).alloc o2).alloc o3).cell (p := ⟨w.heap.size, 0, none⟩) (by simp)), hk.cell ((((Kept.refl _).alloc o2).alloc o3).cell (p := ⟨w.heap.size, 1, none⟩) (by simp)), hk.cell ((((Kept.refl _).alloc o2).alloc o3).cell (p := ⟨w.heap.size, 2, none⟩) (by simp))⟩
theorem box_cell3 {w w1 : World} {x : Value} {e : TypeId} {o1 o3 : Obj} (hk : Kept (((w.alloc o1).alloc (.cells #[x] e)).alloc o3) w1) : w1.cell? ⟨w.heap.size + 1, 0, none⟩ = some x := by
  have h := (((RowAt.made (w.alloc o1) #[x] e).kept ((Kept.refl _).alloc o3)).kept hk).cell (i := 0) (by simp)
  simpa using h
/-- Ints stay where a row of other cells is written. -/
theorem ints_store {w : World} {g j : Nat} {e : TypeId} {cs : List Value} {v u : Value} {xs : List Int} (hr : RowAt w g e cs) (hj : j < cs.length) (hc : ∀ z, cs[j] ≠ .int .i64 z) (h : IntsAt w v xs) : IntsAt (w.setCell ⟨g, j, none⟩ u) v xs := by
  obtain ⟨a, c, h1, h2, h3, h4⟩ := h
  refine ⟨a, c, h1, h2, h3, fun i hi => ?_⟩
  obtain ⟨b, o, h5, h6⟩ := h4 i hi
  refine ⟨b, o, h5, ?_⟩
  by_cases hb : (⟨b, o + i, none⟩ : Addr) = ⟨g, j, none⟩
  · rw [hb, hr.cell hj] at h6
    exact absurd (Option.some.inj h6) (hc _)
  · rw [World.cell?_setCell_other w _ _ u (fun e => hb e.symm)]; exact h6
theorem cutoff_ints {w : World} {g : Nat} {e : TypeId} {v u0 u1 : Value} {xs : List Int} (hr : RowAt w g e [.slice none 0 0, .slice none 0 0]) (h0 : ∃ a n c, u0 = .slice a n c) (h : IntsAt w v xs) : IntsAt ((w.setCell ⟨g, 0, none⟩ u0).setCell ⟨g, 1, none⟩ u1) v xs := by
  have h1 := ints_store (j := 0) (u := u0) hr (by simp) (by simp) h
  have h2 := hr.store 0 u0
  obtain ⟨_, _, _, rfl⟩ := h0
  exact ints_store (j := 1) h2 (by simp) (by simp) h1
set_option maxRecDepth 100000 in
set_option maxHeartbeats 2000000 in
theorem tby_err (v : Value) (f : Fm) (k : Int) (w : World) (hv : NodesAt w v f.nodes) (ht : f.top ≤ 9223372036854775807) (hck : chkF f ≠ 0) :
    Calls Tryz.prog 11 #[fmV v f, .int .i64 k] w fun e w' => e = .returned (.tuple #[.agg #[.slice none 0 0, .slice none 0 0], errV (chkF f)]) ∧ Kept w w' := by
  have HC := Lib.hid (fun W (hk : Kept w W) => coher_err v f W (hv.kept hk) ht hck)
  have E2 := Lib.hid (errV_pos hck)
  obtain ⟨q, hq⟩ : ∃ q, q = chkF f := ⟨_, rfl⟩
  obtain ⟨a, c, rfl, hrest⟩ := hv
  clear hrest ht hck
  generalize f.nodes.length = n at *
  obtain ⟨vars, nodes, top⟩ := f
  unfold fmV at *
  simp only at HC E2 ⊢
  rw [← hq] at HC E2 ⊢
  clear hq
  rw [E2.out] at HC ⊢
  go_enter Tryz.func11, Tryz.ntmps11
  go_wp2_with (go_at_call 37; refine (HC.out _ ((((Kept.refl _).alloc _).alloc _).alloc _)).mono ?_; rintro e w1 ⟨rfl, hk1⟩; have ht4 := (cut_row w _ _ _ rfl).kept hk1; have g0 := ht4.cell (i := 0) (by simp); have g1 := ht4.cell (i := 1) (by simp); have g2 := ht4.free 0; have g3 := ht4.free 1; simp only [List.getElem_cons_succ, List.getElem_cons_zero] at g0 g1; have HK1 := Lib.hid (((((Kept.refl _).alloc _).alloc _).alloc _).trans hk1); clear hk1 ht4)
  refine bodyPost_ret (v := .tuple #[.agg #[.slice none 0 0, .slice none 0 0], .iface 64 (.int .i64 q)]) ?_ rfl ⟨rfl, (HK1.out.store (by omega) 0 _).store (by omega) 1 _⟩
  simp [results, Tryz.results11, go_sem, g0, g1]
set_option maxRecDepth 100000 in
set_option maxHeartbeats 4000000 in
theorem tby_any (v : Value) (f : Fm) (V T : Nat) (k : Int) (w : World) (hv : NodesAt w v f.nodes) (hok : Ok f V T) (hck : chkF f = 0) :
    Calls Tryz.prog 11 #[.agg #[.int .i64 V, v, .int .i64 T], .int .i64 k] w fun e w' => (∃ kv fv, e = .returned (.tuple #[.agg #[kv, fv], errV (byR V T f k).1]) ∧ IntsAt w' kv (ofN (byR V T f k).2.1) ∧ IntsAt w' fv (ofN (byR V T f k).2.2)) ∧ Kept w w' := by
  have HC := Lib.hid (fun W (hk : Kept w W) => coher_ok v f V T W (hv.kept hk) hok hck)
  have HV := Lib.hid hv
  have hsh : ∃ a n c, v = .slice a n c := by obtain ⟨a, c, h, _⟩ := hv; exact ⟨a, _, c, h⟩
  obtain ⟨a, n, c, rfl⟩ := hsh
  cases hsy : synK V T f with
  | false =>
    have e7 : byR V T f k = (7, [], []) := by unfold byR; rw [if_pos hsy]
    rw [e7]
    rw [hsy] at HC
    simp only [Bool.false_eq_true, if_false] at HC
    rw [errV_pos (by decide)] at HC ⊢
    clear hv hok hck hsy e7
    go_enter Tryz.func11, Tryz.ntmps11
    go_wp2_with (go_at_call 37; refine (HC.out _ ((((Kept.refl _).alloc _).alloc _).alloc _)).mono ?_; rintro e w1 ⟨rfl, hk1⟩; have ht4 := (cut_row w _ _ _ rfl).kept hk1; have g0 := ht4.cell (i := 0) (by simp); have g1 := ht4.cell (i := 1) (by simp); have g2 := ht4.free 0; have g3 := ht4.free 1; simp only [List.getElem_cons_succ, List.getElem_cons_zero] at g0 g1; have HK1 := Lib.hid (((((Kept.refl _).alloc _).alloc _).alloc _).trans hk1); clear hk1 ht4)
    refine bodyPost_ret (v := .tuple #[.agg #[.slice none 0 0, .slice none 0 0], .iface 64 (.int .i64 (7 : Nat))]) ?_ rfl ⟨⟨_, _, rfl, IntsAt.nil _, IntsAt.nil _⟩, (HK1.out.store (by omega) 0 _).store (by omega) 1 _⟩
    simp [results, Tryz.results11, go_sem, g0, g1]
  | true =>
    rw [hsy] at HC
    simp only [if_true] at HC
    rw [errV_zero] at HC
    by_cases hr : k < 0 ∨ 24 < k
    · have e3 : byR V T f k = (3, [], []) := by unfold byR; rw [if_neg (by simp [hsy]), if_pos hr]
      rw [e3]
      rw [errV_pos (by decide)]
      clear hv hok hck hsy e3
      have b0 : (decide (k < 0) || decide (24 < k)) = true := by simpa using hr
      rcases hr with hr | hr
      all_goals
        go_enter Tryz.func11, Tryz.ntmps11
        go_wp2_with (go_at_call 37; refine (HC.out _ ((((Kept.refl _).alloc _).alloc _).alloc _)).mono ?_; rintro e w1 ⟨rfl, hk1⟩; have ht4 := (cut_row w _ _ _ rfl).kept hk1; have g0 := ht4.cell (i := 0) (by simp); have g1 := ht4.cell (i := 1) (by simp); have g2 := ht4.free 0; have g3 := ht4.free 1; simp only [List.getElem_cons_succ, List.getElem_cons_zero] at g0 g1; have k0 := box_cell3 hk1; have HK1 := Lib.hid (((((Kept.refl _).alloc _).alloc _).alloc _).trans hk1); clear hk1 ht4)
        refine bodyPost_ret (v := .tuple #[.agg #[.slice none 0 0, .slice none 0 0], .iface 64 (.int .i64 (3 : Nat))]) ?_ rfl ⟨⟨_, _, rfl, IntsAt.nil _, IntsAt.nil _⟩, (HK1.out.store (by omega) 0 _).store (by omega) 1 _⟩
        simp [results, Tryz.results11, go_sem, g0, g1]
    · have hr0 : ¬ k < 0 := fun h => hr (.inl h)
      have hr1 : ¬ 24 < k := fun h => hr (.inr h)
      have HRUN : Hid (∀ W bk, Kept w W → W.cell? ⟨bk, 0, none⟩ = some (.int .i64 k) → Calls Tryz.prog 38 #[.agg #[.int .i64 V, .slice a n c, .int .i64 T], .func (.func 39) #[] #[.pointer (some ⟨bk, 0, none⟩)]] W fun e w' => TRes w' e (topT V T (overP k) f.nodes) ∧ Kept W w') := Lib.hid fun W bk hk hc => trun_any _ f V T bk k W (hv.kept hk) hok hsy hc
      have e0 : byR V T f k = match topT V T (overP k) f.nodes with | none => (4, [], []) | some p => (0, p.1, p.2) := by unfold byR; rw [if_neg (by simp [hsy]), if_neg hr]
      cases hto : topT V T (overP k) f.nodes with
      | none =>
        rw [hto] at HRUN e0
        simp only at e0
        rw [e0, errV_pos (by decide)]
        unfold TRes at HRUN
        rw [errV_pos (by decide)] at HRUN
        clear hv hok hck hsy e0 hr hto
        go_enter Tryz.func11, Tryz.ntmps11
        go_wp2_with (first | (go_at_call 37; refine (HC.out _ ((((Kept.refl _).alloc _).alloc _).alloc _)).mono ?_; rintro e w1 ⟨rfl, hk1⟩; have ht4 := (cut_row w _ _ _ rfl).kept hk1; have HT4 := Lib.hid ht4; have k0 := box_cell3 hk1; obtain ⟨c0, c1, c2⟩ := fm_cells3 hk1; have HK1 := Lib.hid (((((Kept.refl _).alloc _).alloc _).alloc _).trans hk1); clear hk1 ht4) | (go_at_call 38; refine (HRUN.out _ _ HK1.out k0).mono ?_; rintro e w2 ⟨rfl, hk2⟩; have ht4 := HT4.out.kept hk2; have g0 := ht4.cell (i := 0) (by simp); have g1 := ht4.cell (i := 1) (by simp); have g2 := ht4.free 0; have g3 := ht4.free 1; simp only [List.getElem_cons_succ, List.getElem_cons_zero] at g0 g1; have HK2 := Lib.hid (HK1.out.trans hk2); clear hk2 ht4))
        refine bodyPost_ret (v := .tuple #[.agg #[.slice none 0 0, .slice none 0 0], .iface 64 (.int .i64 (4 : Nat))]) ?_ rfl ⟨⟨_, _, rfl, IntsAt.nil _, IntsAt.nil _⟩, (HK2.out.store (by omega) 0 _).store (by omega) 1 _⟩
        simp [results, Tryz.results11, go_sem, g0, g1]
      | some p =>
        rw [hto] at HRUN e0
        simp only at e0
        rw [e0, errV_zero]
        have hT := topT_says hok hsy (overP k) hto
        unfold TRes at HRUN
        simp only [minK_evW hT.goodR hT.mkR, errV_zero] at HRUN
        clear hv hok hck hsy e0 hr hto hT
        go_enter Tryz.func11, Tryz.ntmps11
        go_wp2_with (first | (go_at_call 37; refine (HC.out _ ((((Kept.refl _).alloc _).alloc _).alloc _)).mono ?_; rintro e w1 ⟨rfl, hk1⟩; have ht4 := (cut_row w _ _ _ rfl).kept hk1; have HT4 := Lib.hid ht4; have k0 := box_cell3 hk1; obtain ⟨c0, c1, c2⟩ := fm_cells3 hk1; have HK1 := Lib.hid (((((Kept.refl _).alloc _).alloc _).alloc _).trans hk1); clear hk1 ht4) | (go_at_call 38; refine (HRUN.out _ _ HK1.out k0).mono ?_; rintro e w2 ⟨⟨kv, fv, rfl, hkv, hfv⟩, hk2⟩; obtain ⟨ka, kn, kc, rfl⟩ := hkv.shape; obtain ⟨fa, fn, fc, rfl⟩ := hfv.shape; have HKV := Lib.hid hkv; have HFV := Lib.hid hfv; have hst4 := HT4.out.kept hk2; have g0 := hst4.cell (i := 0) (by simp); have g1 := hst4.cell (i := 1) (by simp); have g2 := hst4.free 0; have g3 := hst4.free 1; simp only [List.getElem_cons_succ, List.getElem_cons_zero] at g0 g1; have HS4 := Lib.hid hst4; have HK2 := Lib.hid (HK1.out.trans hk2); clear hk2 hst4 hkv hfv))
        refine bodyPost_ret (v := .tuple #[.agg #[.slice ka kn kc, .slice fa fn fc], .nilIface]) ?_ rfl ⟨⟨_, _, rfl, ?_, ?_⟩, (HK2.out.store (by omega) 0 _).store (by omega) 1 _⟩
        · simp [results, Tryz.results11, go_sem, g0, g1]
        · exact cutoff_ints HS4.out ⟨_, _, _, rfl⟩ HKV.out
        · exact cutoff_ints HS4.out ⟨_, _, _, rfl⟩ HFV.out
end Go.Proofs.YtngbjdaaogbjmaaGreat.Tr
