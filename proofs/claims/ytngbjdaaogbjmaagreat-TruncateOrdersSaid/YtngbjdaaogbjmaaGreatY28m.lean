import Derived.Test.YtngbjdaaogbjmaaGreatY27m
/-
  The law TruncateOrders returns true, whatever the arguments: no condition.
-/
namespace Go.Proofs.YtngbjdaaogbjmaaGreat
open Go.RowKit Go.ChangeShapes Go.WideShapes Go.ChangeAt Go.Joins Go.Deep

theorem bychk_le (f : Fm) : chkF f ≤ 100 := by
  have h1 : ∀ (b : Int) (x : Nd), chkNd b x ≤ 100 := by
    intro b x
    unfold chkNd
    split
    · omega
    · split
      · omega
      · split
        · omega
        · unfold chkK
          split
          · split <;> omega
          · split
            · split <;> omega
            · split <;> omega
  have h2 : ∀ (xs : List Nd) (b : Int), chkFrom b xs ≤ 100 := by
    intro xs
    induction xs with
    | nil => intro b; unfold chkFrom; omega
    | cons x xs ih =>
      intro b
      unfold chkFrom
      split
      · exact ih _
      · exact h1 _ _
  unfold chkF
  split
  · omega
  · split
    · omega
    · split
      · split <;> omega
      · exact h2 _ _
theorem byR_le (V T : Nat) (f : Fm) (k : Int) : (Tr.byR V T f k).1 ≤ 100 := by
  unfold Tr.byR
  split
  · simp
  · split
    · simp
    · split <;> simp
set_option maxRecDepth 100000 in
set_option maxHeartbeats 8000000 in
theorem orders_true (w : World) (v : Value) (f : Fm) (k : Int) (hv : NodesAt w v f.nodes) (hfo : FmOk f) (_hx : (Lit.int .i64 k).wf = true) :
    Calls Tryz.prog 3 #[fmV v f, .int .i64 k] w fun e w' => e = .returned (.bool true) ∧ Kept w w' := by
  have ht : f.top ≤ 9223372036854775807 := hfo.2.1.2
  have hh : ∀ W, Kept w W → Calls Tryz.prog 10 #[fmV v f] W fun e w' => (∃ b, e = .returned (.bool b)) ∧ Kept W w' := fun W hk => heavy_any v f W (hv.kept hk)
  have hc : ∀ W, Kept w W → Calls Tryz.prog 12 #[fmV v f] W fun e w' => e = .returned (.int .i64 (chkF f)) ∧ Kept W w' := fun W hk => rcheck_any v f W (hv.kept hk) ht
  have hbad : chkF f ≠ 0 → ∀ W, Kept w W → Calls Tryz.prog 11 #[fmV v f, .int .i64 k] W fun e w' => e = .returned (.tuple #[.agg #[.slice none 0 0, .slice none 0 0], errV (chkF f)]) ∧ Kept W w' := fun hck W hk => Tr.tby_err v f k W (hv.kept hk) ht hck
  have hq9 : chkF f ≤ 100 := bychk_le f
  obtain ⟨q, hq⟩ : ∃ q, q = chkF f := ⟨_, rfl⟩
  rw [← hq] at hc hbad hq9
  have hsh : ∃ a n c, v = .slice a n c := by obtain ⟨a, c, h, _⟩ := hv; exact ⟨a, _, c, h⟩
  have HQ := Lib.hid hq
  have HV := Lib.hid hv
  obtain ⟨a, n, c, rfl⟩ := hsh
  obtain ⟨vars, nodes, top⟩ := f
  have HH : Hid (∀ W, Kept w W → Calls Tryz.prog 10 #[.agg #[.int .i64 vars, .slice a n c, .int .i64 top]] W fun e w' => (∃ b, e = .returned (.bool b)) ∧ Kept W w') := Lib.hid hh
  have HC : Hid (∀ W, Kept w W → Calls Tryz.prog 12 #[.agg #[.int .i64 vars, .slice a n c, .int .i64 top]] W fun e w' => e = .returned (.int .i64 q) ∧ Kept W w') := Lib.hid hc
  have HB : Hid (q ≠ 0 → ∀ W, Kept w W → Calls Tryz.prog 11 #[.agg #[.int .i64 vars, .slice a n c, .int .i64 top], .int .i64 k] W fun e w' => e = .returned (.tuple #[.agg #[.slice none 0 0, .slice none 0 0], errV q]) ∧ Kept W w') := Lib.hid hbad
  have HA : Hid (∀ W, Calls Tryz.prog 9 #[] W fun e w' => e = .returned (.bool true) ∧ Kept W w') := Lib.hid fun W => wawake_ok W
  show Calls _ _ #[.agg #[.int .i64 vars, .slice a n c, .int .i64 top], _] _ _
  clear hv hh hc hq ht hfo hbad
  go_enter Tryz.func3, Tryz.ntmps3
  go_wp2_with (go_at_call 9; refine (HA.out _).mono ?_; rintro e w1 ⟨rfl, hk1⟩; obtain ⟨c0, c1, c2⟩ := fm_cells hk1)
  refine (HH.out _ (((Kept.refl _).alloc _).trans hk1)).mono ?_
  rintro e w2 ⟨⟨b, rfl⟩, hk2⟩
  have K2 := Lib.hid (hk1.trans hk2)
  clear hk1 hk2 c0 c1 c2
  obtain ⟨c0, c1, c2⟩ := fm_cells K2.out
  cases b with
  | true =>
    go_wp2_with (go_at_call 9; refine (HA.out _).mono ?_; rintro e w3 ⟨rfl, hk3⟩)
    go_ret
    exact ⟨rfl, (((Kept.refl _).alloc _).trans K2.out).trans hk3⟩
  | false =>
    by_cases hq0 : q = 0
    · have hck := HQ.out.symm.trans hq0
      subst hq0
      obtain ⟨V, T, hok⟩ := ok_of _ hck
      have e1 : vars = (V : Int) := hok.vars
      have e2 : top = (T : Int) := hok.top
      subst e1 e2
      have HVK := Lib.hid (fun W (hk : Kept w2 W) => HV.out.kept (((((Kept.refl _).alloc _).trans K2.out)).trans hk))
      have hq9' := byR_le V T ⟨V, nodes, T⟩ k
      obtain ⟨qb, hqb⟩ : ∃ qb, qb = (Tr.byR V T ⟨V, nodes, T⟩ k).1 := ⟨_, rfl⟩
      obtain ⟨R, hR⟩ : ∃ R, R = (Tr.byR V T ⟨V, nodes, T⟩ k).2.1 := ⟨_, rfl⟩
      obtain ⟨F, hF⟩ : ∃ F, F = (Tr.byR V T ⟨V, nodes, T⟩ k).2.2 := ⟨_, rfl⟩
      have HBY : Hid (∀ W, Kept w2 W → Calls Tryz.prog 11 #[.agg #[.int .i64 V, .slice a n c, .int .i64 T], .int .i64 k] W fun e w' => (∃ kv fv, e = .returned (.tuple #[.agg #[kv, fv], errV qb]) ∧ IntsAt w' kv (ofN R) ∧ IntsAt w' fv (ofN F)) ∧ Kept W w') := Lib.hid fun W hk => by
        have h := Tr.tby_any (.slice a n c) ⟨V, nodes, T⟩ V T k W (HVK.out W hk) hok hck
        rw [← hqb, ← hR, ← hF] at h
        exact h
      have HRB : Hid (∀ W, Kept w2 W → Calls Tryz.prog 15 #[.agg #[.int .i64 V, .slice a n c, .int .i64 T], .int .i64 k] W fun e w' => (∃ kv fv, e = .returned (.tuple #[.agg #[kv, fv], .int .i64 (qb : Nat)]) ∧ IntsAt w' kv (ofN R) ∧ IntsAt w' fv (ofN F)) ∧ Kept W w') := Lib.hid fun W hk => by
        have h := rby_any (.slice a n c) ⟨V, nodes, T⟩ V T k W (HVK.out W hk) hok
        rw [← hqb, ← hR, ← hF] at h
        exact h
      rw [← hqb] at hq9'
      have HN : Hid (∀ W, Calls Tryz.prog 13 #[errV qb] W fun e w' => e = .returned (.int .i64 qb) ∧ W = w') := Lib.hid fun W => num_eq qb W (by omega)
      clear hqb hR hF hck hok
      go_wp2_with fail
      refine (HBY.out _ (Kept.refl _)).mono ?_
      rintro e w4 ⟨⟨kv, fv, rfl, hkv, hfv⟩, hk4⟩
      obtain ⟨ka, kn, kc, rfl⟩ := hkv.shape
      obtain ⟨fa, fn, fc, rfl⟩ := hfv.shape
      have K4 := Lib.hid (K2.out.trans hk4)
      have H24 := Lib.hid hk4
      have HKV := Lib.hid hkv
      have HFV := Lib.hid hfv
      clear c0 c1 c2 hkv hfv hk4
      obtain ⟨c0, c1, c2⟩ := fm_cells (K4.out.alloc (.cells #[.slice ka kn kc, .slice fa fn fc] 29))
      go_wp2_with fail
      refine (HC.out _ (((Kept.refl _).alloc _).trans (K4.out.alloc _))).mono ?_
      rintro e w5 ⟨rfl, hk5⟩
      have K5 := Lib.hid ((K4.out.alloc _).trans hk5)
      have H45 := Lib.hid hk5
      have H25 := Lib.hid ((H24.out.alloc _).trans hk5)
      clear c0 c1 c2 hk5
      obtain ⟨c0, c1, c2⟩ := fm_cells K5.out
      go_wp2_with fail
      refine (HRB.out _ H25.out).mono ?_
      rintro e w6 ⟨⟨kv, fv, rfl, hkv, hfv⟩, hk6⟩
      obtain ⟨ka2, kn2, kc2, rfl⟩ := hkv.shape
      obtain ⟨fa2, fn2, fc2, rfl⟩ := hfv.shape
      have K6 := Lib.hid (K5.out.trans hk6)
      have HS : Hid (Calls Tryz.prog 14 #[.agg #[.slice ka kn kc, .slice fa fn fc], .agg #[.slice ka2 kn2 kc2, .slice fa2 fn2 fc2]] (w6.alloc (.cells #[.slice ka2 kn2 kc2, .slice fa2 fn2 fc2] 29)) fun e w' => e = .returned (.bool true) ∧ Kept (w6.alloc (.cells #[.slice ka2 kn2 kc2, .slice fa2 fn2 fc2] 29)) w') := Lib.hid (by
        have h46 : Kept w4 w6 := (((Kept.refl w4).alloc _).trans H45.out).trans hk6
        exact same_true _ _ _ _ (ofN R) (ofN F) _ ((HKV.out.kept h46).kept ((Kept.refl _).alloc _)) ((HFV.out.kept h46).kept ((Kept.refl _).alloc _)) (hkv.kept ((Kept.refl _).alloc _)) (hfv.kept ((Kept.refl _).alloc _)))
      obtain ⟨d0, d1⟩ : w6.cell? ⟨w4.heap.size, 0, none⟩ = some (.slice ka kn kc) ∧ w6.cell? ⟨w4.heap.size, 1, none⟩ = some (.slice fa fn fc) := ⟨hk6.cell (H45.out.cell (by simp)), hk6.cell (H45.out.cell (by simp))⟩
      have hs6 : w4.heap.size < w6.heap.size := World.block_lt_of_cell? w6 _ d0
      clear hkv hfv hk6 c0 c1 c2
      go_wp2_with (first | (go_at_call 13; refine (HN.out _).mono ?_; rintro e w7 ⟨rfl, rfl⟩) | (go_at_call 14; (with_reducible refine HS.out.mono ?_); rintro e w8 ⟨rfl, hk8⟩))
      go_ret
      exact ⟨rfl, ((((Kept.refl _).alloc _).trans K6.out).alloc _).trans hk8⟩
    · have HF := Lib.hid (HB.out hq0)
      have HN : Hid (∀ W, Calls Tryz.prog 13 #[errV q] W fun e w' => e = .returned (.int .i64 q) ∧ W = w') := Lib.hid fun W => num_eq q W (by omega)
      have b1 : ((q : Int) == 0) = false := by simp; omega
      have b2 : ((q : Int) != 0) = true := by simp; omega
      clear hq0
      go_wp2_with fail
      refine (HF.out _ (((Kept.refl _).alloc _).trans K2.out)).mono ?_
      rintro e w4 ⟨rfl, hk4⟩
      have K4 := Lib.hid (K2.out.trans hk4)
      clear c0 c1 c2 hk4
      obtain ⟨c0, c1, c2⟩ := fm_cells (K4.out.alloc (.cells #[.slice none 0 0, .slice none 0 0] 29))
      go_wp2_with fail
      refine (HC.out _ (((Kept.refl _).alloc _).trans (K4.out.alloc _))).mono ?_
      rintro e w5 ⟨rfl, hk5⟩
      have K5 := Lib.hid ((K4.out.alloc _).trans hk5)
      obtain ⟨d0, d1⟩ : w5.cell? ⟨w4.heap.size, 0, none⟩ = some (.slice none 0 0) ∧ w5.cell? ⟨w4.heap.size, 1, none⟩ = some (.slice none 0 0) := ⟨hk5.cell (by simp), hk5.cell (by simp)⟩
      have HS : Hid (∀ W, Calls Tryz.prog 14 #[.agg #[.slice none 0 0, .slice none 0 0], .agg #[.slice none 0 0, .slice none 0 0]] W fun e w' => e = .returned (.bool true) ∧ Kept W w') := Lib.hid fun W => same_true _ _ _ _ [] [] W (IntsAt.nil _) (IntsAt.nil _) (IntsAt.nil _) (IntsAt.nil _)
      clear hk5 c0 c1 c2
      go_wp2_with (first | (go_at_call 13; refine (HN.out _).mono ?_; rintro e w7 ⟨rfl, rfl⟩) | (go_at_call 14; (with_reducible refine (HS.out _).mono ?_); rintro e w8 ⟨rfl, hk8⟩))
      go_ret
      exact ⟨rfl, (((Kept.refl _).alloc _).trans K5.out).trans hk8⟩
end Go.Proofs.YtngbjdaaogbjmaaGreat
