import Derived.Test.YtngbjdaaogbjmaaGreatY21m
/-
  The law TruncateGrows returns true, whatever the arguments: its walk.
-/
namespace Go.Proofs.YtngbjdaaogbjmaaGreat
open Go.RowKit Go.ChangeShapes Go.WideShapes Go.ChangeAt Go.Joins Go.Deep

/-- The place of a filtered element. -/
theorem filter_at (P : Nat → Bool) (l : List Nat) (k : Nat) (h : k < l.length) :
    (P l[k] = true → (l.filter P)[((l.take k).filter P).length]? = some l[k]) ∧ (P l[k] = false → ∀ x, (l.filter P)[((l.take k).filter P).length]? = some x → x ≠ l[k]) ∧
      ((l.take (k + 1)).filter P).length = ((l.take k).filter P).length + (if P l[k] = true then 1 else 0) := by
  have e : l.filter P = (l.take k).filter P ++ (l.drop k).filter P := by rw [← List.filter_append, List.take_append_drop]
  have e2 : l.drop k = l[k] :: l.drop (k + 1) := List.drop_eq_getElem_cons h
  refine ⟨fun hp => ?_, fun hp x hx => ?_, ?_⟩
  · rw [e, List.getElem?_append_right (Nat.le_refl _), Nat.sub_self, e2, List.filter_cons_of_pos hp]; rfl
  · rw [e, List.getElem?_append_right (Nat.le_refl _), Nat.sub_self] at hx
    have := (List.mem_filter.1 (List.mem_of_getElem? hx)).2
    intro hc
    rw [hc, hp] at this
    cases this
  · rw [List.take_succ_eq_append_getElem h, List.filter_append, List.length_append]
    cases hp : P l[k] <;> simp [hp]
theorem front_nil {V T : Nat} {f : Fm} {R F : List Nat} (h : TopT V T f (Tr.overP 24) R F) : F = [] := by
  cases hF : F with
  | nil => rfl
  | cons x F' =>
    exfalso
    have h1 := h.outs x (by rw [hF]; exact List.mem_cons_self ..)
    have h2 := h.mkF x (by rw [hF]; exact List.mem_cons_self ..)
    have h3 := pc_lt 24 x h2
    unfold Tr.overP at h1
    simp at h1
    omega
/-- The three searches of TruncateGrows. -/
theorem grows_plain {V T : Nat} {f : Fm} {m : Nat} {R1 F1 R2 F2 R3 F3 : List Nat} (h1 : TopT V T f (Tr.overP m) R1 F1) (h2 : TopT V T f (Tr.overP (m + 1 : Nat)) R2 F2) (h3 : TopT V T f (Tr.overP 24) R3 F3) (hm : m + 1 ≤ 24) :
    R1 = R2.filter (fun r => decide (pc r ≤ m)) ∧ R2.length ≤ R3.length ∧ F3 = [] := by
  have g1 := h1.grows h2 (Tr.overP_mono m) (Tr.overP_mono (m + 1 : Nat)) fun a ha => by unfold Tr.overP at *; simp at *; omega
  have g2 := h2.grows h3 (Tr.overP_mono (m + 1 : Nat)) (Tr.overP_mono 24) fun a ha => by unfold Tr.overP at *; simp at *; omega
  refine ⟨?_, ?_, front_nil h3⟩
  · rw [g1]
    refine List.filter_congr fun r _ => ?_
    unfold Tr.overP
    rw [Bool.eq_iff_iff]; simp
  · rw [g2]; exact List.length_filter_le ..
theorem cells2 {w w' : World} {u0 u1 : Value} {e : TypeId} (hk : Kept (w.alloc (.cells #[u0, u1] e)) w') : w'.cell? ⟨w.heap.size, 0, none⟩ = some u0 ∧ w'.cell? ⟨w.heap.size, 1, none⟩ = some u1 :=
  ⟨hk.cell (p := ⟨w.heap.size, 0, none⟩) (by simp), hk.cell (p := ⟨w.heap.size, 1, none⟩) (by simp)⟩
theorem ints_len {w : World} {a : Option Addr} {n c : Nat} {R : List Nat} (h : IntsAt w (.slice a n c) (ofN R)) : n = R.length := by
  obtain ⟨_, _, h, _⟩ := h
  injection h with _ h _
  rw [h]; simp [ofN]
theorem ints_get {w : World} {a : Option Addr} {n c : Nat} {R : List Nat} (h : IntsAt w (.slice a n c) (ofN R)) (i : Nat) (hi : i < R.length) : ∃ b o, a = some ⟨b, o, none⟩ ∧ w.cell? ⟨b, o + i, none⟩ = some (.int .i64 (R[i] : Nat)) := by
  obtain ⟨a', c', h1, _, _, h4⟩ := h
  injection h1 with h1
  subst h1
  obtain ⟨b, o, h5, h6⟩ := h4 i (by simpa [ofN] using hi)
  exact ⟨b, o, h5, by rw [h6]; simp [ofN]⟩
set_option maxRecDepth 100000 in
set_option maxHeartbeats 8000000 in
theorem grows_true (w : World) (v : Value) (f : Fm) (x : Int) (hv : NodesAt w v f.nodes) (hfo : FmOk f) (hx : (Lit.int .u8 x).wf = true) :
    Calls Tryz.prog 7 #[fmV v f, .int .u8 x] w fun e w' => e = .returned (.bool true) ∧ Kept w w' := by
  obtain ⟨x0, x9⟩ := bounds_u8 hx
  obtain ⟨X, rfl⟩ := Int.eq_ofNat_of_zero_le x0
  have hX9 : X ≤ 255 := by omega
  clear hx x0 x9
  have ht : f.top ≤ 9223372036854775807 := hfo.2.1.2
  have hh : ∀ W, Kept w W → Calls Tryz.prog 10 #[fmV v f] W fun e w' => (∃ b, e = .returned (.bool b)) ∧ Kept W w' := fun W hk => heavy_any v f W (hv.kept hk)
  have hc : ∀ W, Kept w W → Calls Tryz.prog 16 #[fmV v f] W fun e w' => e = .returned (errV (chkF f)) ∧ Kept W w' := fun W hk => check_any v f W (hv.kept hk) ht
  obtain ⟨q, hq⟩ : ∃ q, q = chkF f := ⟨_, rfl⟩
  rw [← hq] at hc
  have hsh : ∃ a n c, v = .slice a n c ∧ n = f.nodes.length := by obtain ⟨a, c, h, _⟩ := hv; exact ⟨a, _, c, h, rfl⟩
  have HQ := Lib.hid hq
  have HV := Lib.hid hv
  obtain ⟨a, n, c, rfl, hnn⟩ := hsh
  clear hnn
  obtain ⟨vars, nodes, top⟩ := f
  have HH : Hid (∀ W, Kept w W → Calls Tryz.prog 10 #[.agg #[.int .i64 vars, .slice a n c, .int .i64 top]] W fun e w' => (∃ b, e = .returned (.bool b)) ∧ Kept W w') := Lib.hid hh
  have HC : Hid (∀ W, Kept w W → Calls Tryz.prog 16 #[.agg #[.int .i64 vars, .slice a n c, .int .i64 top]] W fun e w' => e = .returned (errV q) ∧ Kept W w') := Lib.hid hc
  have HA : Hid (∀ W, Calls Tryz.prog 9 #[] W fun e w' => e = .returned (.bool true) ∧ Kept W w') := Lib.hid fun W => wawake_ok W
  show Calls _ _ #[.agg #[.int .i64 vars, .slice a n c, .int .i64 top], _] _ _
  clear hv hh hc hq ht hfo
  go_enter Tryz.func7, Tryz.ntmps7
  go_wp2_with (go_at_call 9; refine (HA.out _).mono ?_; rintro e w1 ⟨rfl, hk1⟩; obtain ⟨c0, c1, c2⟩ := fm_cells hk1)
  refine (HH.out _ (((Kept.refl _).alloc _).trans hk1)).mono ?_
  rintro e w2 ⟨⟨b, rfl⟩, hk2⟩
  have K2 := Lib.hid (hk1.trans hk2)
  clear hk1 hk2 c0 c1 c2
  obtain ⟨c0, c1, c2⟩ := fm_cells K2.out
  cases b with
  | true =>
    go_wp2_with (go_at_call 9; refine (HA.out _).mono ?_; rintro e w3 ⟨rfl, hk3⟩)
    go_ret
    exact ⟨rfl, (((Kept.refl _).alloc _).trans K2.out).trans hk3⟩
  | false =>
    go_wp2_with fail
    refine (HC.out _ (((Kept.refl _).alloc _).trans K2.out)).mono ?_
    rintro e w3 ⟨rfl, hk3⟩
    have K3 := Lib.hid (K2.out.trans hk3)
    clear hk3 c0 c1 c2
    obtain ⟨c0, c1, c2⟩ := fm_cells K3.out
    by_cases hq0 : q = 0
    · have hck := HQ.out.symm.trans hq0
      subst hq0
      rw [errV_zero]
      obtain ⟨V, T, hok⟩ := ok_of _ hck
      have e1 : vars = (V : Int) := hok.vars
      have e2 : top = (T : Int) := hok.top
      obtain ⟨m, hm⟩ : ∃ m, m = X % 6 := ⟨_, rfl⟩
      have hm5 : m ≤ 5 := by omega
      have em : (X : Int) % 6 = (m : Int) := by omega
      obtain ⟨m1, hm1⟩ : ∃ m1, m1 = m + 1 := ⟨_, rfl⟩
      have em1 : (m : Int) + 1 = (m1 : Int) := by omega
      obtain ⟨q1, R1, F1, hb1, hc1⟩ := byR_cases V T ⟨vars, nodes, top⟩ m (by omega)
      obtain ⟨q2, R2, F2, hb2, hc2⟩ := byR_cases V T ⟨vars, nodes, top⟩ m1 (by omega)
      obtain ⟨q3, R3, F3, hb3, hc3⟩ := byR_cases V T ⟨vars, nodes, top⟩ 24 (by omega)
      subst e1 e2
      have HVK := Lib.hid (fun W (hk : Kept w3 W) => HV.out.kept (((((Kept.refl _).alloc _).trans K3.out)).trans hk))
      have HB1 : Hid (∀ W, Kept w3 W → Calls Tryz.prog 11 #[.agg #[.int .i64 V, .slice a n c, .int .i64 T], .int .i64 m] W fun e w' => (∃ kv fv, e = .returned (.tuple #[.agg #[kv, fv], errV q1]) ∧ IntsAt w' kv (ofN R1) ∧ IntsAt w' fv (ofN F1)) ∧ Kept W w') := Lib.hid fun W hk => by
        have h := Tr.tby_any (.slice a n c) ⟨V, nodes, T⟩ V T m W (HVK.out W hk) hok hck
        rw [show (Tr.byR V T ⟨V, nodes, T⟩ m) = (q1, R1, F1) from hb1] at h
        exact h
      have hq1 : q1 = 0 ∨ (q1 = 4 ∨ q1 = 7) := hc1.elim (fun h => .inl h.1) (fun h => .inr h.1)
      obtain ⟨E1, hE1⟩ : ∃ E, E = errV q1 := ⟨_, rfl⟩
      rw [← hE1] at HB1
      have HE1 := Lib.hid hE1
      have HB2 : Hid (∀ W, Kept w3 W → Calls Tryz.prog 11 #[.agg #[.int .i64 V, .slice a n c, .int .i64 T], .int .i64 m1] W fun e w' => (∃ kv fv, e = .returned (.tuple #[.agg #[kv, fv], errV q2]) ∧ IntsAt w' kv (ofN R2) ∧ IntsAt w' fv (ofN F2)) ∧ Kept W w') := Lib.hid fun W hk => by
        have h := Tr.tby_any (.slice a n c) ⟨V, nodes, T⟩ V T m1 W (HVK.out W hk) hok hck
        rw [show (Tr.byR V T ⟨V, nodes, T⟩ m1) = (q2, R2, F2) from hb2] at h
        exact h
      have hq2 : q2 = 0 ∨ (q2 = 4 ∨ q2 = 7) := hc2.elim (fun h => .inl h.1) (fun h => .inr h.1)
      obtain ⟨E2, hE2⟩ : ∃ E, E = errV q2 := ⟨_, rfl⟩
      rw [← hE2] at HB2
      have HE2 := Lib.hid hE2
      have HB3 : Hid (∀ W, Kept w3 W → Calls Tryz.prog 11 #[.agg #[.int .i64 V, .slice a n c, .int .i64 T], .int .i64 (24 : Int)] W fun e w' => (∃ kv fv, e = .returned (.tuple #[.agg #[kv, fv], errV q3]) ∧ IntsAt w' kv (ofN R3) ∧ IntsAt w' fv (ofN F3)) ∧ Kept W w') := Lib.hid fun W hk => by
        have h := Tr.tby_any (.slice a n c) ⟨V, nodes, T⟩ V T (24 : Int) W (HVK.out W hk) hok hck
        rw [show (Tr.byR V T ⟨V, nodes, T⟩ (24 : Int)) = (q3, R3, F3) from hb3] at h
        exact h
      have hq3 : q3 = 0 ∨ (q3 = 4 ∨ q3 = 7) := hc3.elim (fun h => .inl h.1) (fun h => .inr h.1)
      obtain ⟨E3, hE3⟩ : ∃ E, E = errV q3 := ⟨_, rfl⟩
      rw [← hE3] at HB3
      have HE3 := Lib.hid hE3
      have HREF : Hid (∀ q, (q = 4 ∨ q = 7) → ∀ W, Calls Tryz.prog 18 #[.iface 64 (.int .i64 (q : Nat))] W fun e w' => e = .returned (.bool true) ∧ W = w') := Lib.hid fun q hq W => by
        have h := refused_any q hq W
        rw [errV_pos (by omega)] at h
        exact h
      have hkc : q1 = 0 → q2 = 0 → q3 = 0 → R1 = R2.filter (fun r => decide (pc r ≤ m)) ∧ R2.length ≤ R3.length ∧ F3 = [] ∧ Good R3 ∧ (∀ r ∈ R3, Mk r) ∧ R2.length ≤ 1024 := by
        intro h1 h2 h3
        rcases hc1 with ⟨_, hs, ht1⟩ | ⟨h, _⟩
        · rcases hc2 with ⟨_, _, ht2⟩ | ⟨h, _⟩
          · rcases hc3 with ⟨_, _, ht3⟩ | ⟨h, _⟩
            · have g1 : TopT V T ⟨V, nodes, T⟩ (Tr.overP m) R1 F1 := topT_says hok hs _ ht1
              have g2 : TopT V T ⟨V, nodes, T⟩ (Tr.overP m1) R2 F2 := topT_says hok hs _ ht2
              have g3 : TopT V T ⟨V, nodes, T⟩ (Tr.overP 24) R3 F3 := topT_says hok hs _ ht3
              rw [hm1] at g2
              obtain ⟨p1, p2, p3⟩ := grows_plain g1 g2 g3 (by omega)
              exact ⟨p1, p2, p3, g3.goodR, g3.mkR, g2.goodR.2⟩
            · omega
          · omega
        · omega
      have HKC := Lib.hid hkc
      clear hb1 hb2 hb3 hc1 hc2 hc3 hok hck hkc hm hm1 hE1 hE2 hE3
      go_wp2_with fail
      refine (HB1.out _ (Kept.refl _)).mono ?_
      rintro e w4 ⟨⟨kv, fv, rfl, hkv, hfv⟩, hk4⟩
      obtain ⟨ka1, kn1, kc1, rfl⟩ := hkv.shape
      obtain ⟨fa1, fn1, fc1, rfl⟩ := hfv.shape
      have K4 := Lib.hid (K3.out.trans hk4)
      have H34 := Lib.hid hk4
      have HKV1 := Lib.hid hkv
      clear c0 c1 c2 hkv hfv hk4
      obtain ⟨c0, c1, c2⟩ := fm_cells (K4.out.alloc (.cells #[.slice ka1 kn1 kc1, .slice fa1 fn1 fc1] 29))
      go_wp2_with fail
      refine (HB2.out _ (H34.out.alloc _)).mono ?_
      rintro e w5 ⟨⟨kv, fv, rfl, hkv, hfv⟩, hk5⟩
      obtain ⟨ka2, kn2, kc2, rfl⟩ := hkv.shape
      obtain ⟨fa2, fn2, fc2, rfl⟩ := hfv.shape
      have K5 := Lib.hid ((K4.out.alloc _).trans hk5)
      have H35 := Lib.hid ((H34.out.alloc _).trans hk5)
      have H45 := Lib.hid hk5
      have HKV2 := Lib.hid hkv
      clear c0 c1 c2 hkv hfv hk5
      obtain ⟨c0, c1, c2⟩ := fm_cells (K5.out.alloc (.cells #[.slice ka2 kn2 kc2, .slice fa2 fn2 fc2] 29))
      go_wp2_with fail
      refine (HB3.out _ (H35.out.alloc _)).mono ?_
      rintro e w6 ⟨⟨kv, fv, rfl, hkv, hfv⟩, hk6⟩
      obtain ⟨ka3, kn3, kc3, rfl⟩ := hkv.shape
      obtain ⟨fa3, fn3, fc3, rfl⟩ := hfv.shape
      have K6 := Lib.hid ((K5.out.alloc _).trans hk6)
      have H56 := Lib.hid hk6
      have HKV3 := Lib.hid hkv
      have HFV3 := Lib.hid hfv
      clear c0 c1 c2 hkv hfv hk6
      have hE1 := HE1.out
      have hE2 := HE2.out
      have hE3 := HE3.out
      clear HE1 HE2 HE3
      rcases hq1 with hq1 | hq1
      rotate_left
      all_goals
        rcases hq2 with hq2 | hq2
        rotate_left
      all_goals
        rcases hq3 with hq3 | hq3
        rotate_left
      rotate_left
      all_goals
        try rw [hq1, errV_zero] at hE1
        try rw [hq2, errV_zero] at hE2
        try rw [hq3, errV_zero] at hE3
        try rw [errV_pos (by omega)] at hE1
        try rw [errV_pos (by omega)] at hE2
        try rw [errV_pos (by omega)] at hE3
        subst hE1 hE2 hE3
        have HQ1 := Lib.hid hq1
        have HQ2 := Lib.hid hq2
        have HQ3 := Lib.hid hq3
        clear hq1 hq2 hq3
      all_goals try (
        go_wp2_with (go_at_call 18; (first | (with_reducible refine (HREF.out q1 HQ1.out _).mono ?_) | (with_reducible refine (HREF.out q2 HQ2.out _).mono ?_) | (with_reducible refine (HREF.out q3 HQ3.out _).mono ?_)); rintro e w7 ⟨rfl, rfl⟩)
        go_ret
        exact ⟨rfl, (((Kept.refl _).alloc _).trans K6.out).alloc _⟩)
      obtain ⟨hR, hl23, hF, hg3, hm3, hl2⟩ := HKC.out HQ1.out HQ2.out HQ3.out
      subst hF
      have HSA := Lib.hid (fun W (hk : Kept w6 W) => left_none (.slice ka3 kn3 kc3) (.slice fa3 fn3 fc3) R3 W ⟨HKV3.out.kept hk, hm3⟩ ⟨HFV3.out.kept hk, by simp⟩ hg3)
      have hn1 := ints_len HKV1.out
      have hn2 := ints_len HKV2.out
      have hn3 := ints_len HKV3.out
      have hn0 := ints_len HFV3.out
      simp only [List.length_nil] at hn0
      subst hn0
      obtain ⟨P, hP⟩ : ∃ P : Nat → Bool, P = fun r => decide (pc r ≤ m) := ⟨_, rfl⟩
      rw [← hP] at hR
      have hl1 : kn1 ≤ 1024 := by rw [hn1, hR]; exact Nat.le_trans (List.length_filter_le ..) hl2
      rw [← hn2] at hl2 hl23
      rw [← hn3] at hl23
      have hl3 : kn3 ≤ 1024 := by rw [hn3]; exact hg3.2
      have HN1 := Lib.hid hn1
      have HN2 := Lib.hid hn2
      have HRR := Lib.hid hR
      have HSG := Lib.hid sign_zero
      obtain ⟨d0, d1⟩ := cells2 (H45.out.trans ((Kept.refl _).alloc (.cells #[.slice ka2 kn2 kc2, .slice fa2 fn2 fc2] 29)))
      have hk46 := (H45.out.trans ((Kept.refl _).alloc (.cells #[.slice ka2 kn2 kc2, .slice fa2 fn2 fc2] 29))).trans H56.out
      obtain ⟨a0, a1⟩ := cells2 (hk46.alloc (.cells #[.slice ka3 kn3 kc3, .slice fa3 0 fc3] 29))
      obtain ⟨b0, b1⟩ := cells2 (H56.out.alloc (.cells #[.slice ka3 kn3 kc3, .slice fa3 0 fc3] 29))
      have hi1 : Hid (IntsAt (w6.alloc (.cells #[.slice ka3 kn3 kc3, .slice fa3 0 fc3] 29)) (.slice ka1 kn1 kc1) (ofN R1)) := Lib.hid ((HKV1.out.kept (((Kept.refl _).alloc _).trans hk46)).kept ((Kept.refl _).alloc _))
      have hi2 : Hid (IntsAt (w6.alloc (.cells #[.slice ka3 kn3 kc3, .slice fa3 0 fc3] 29)) (.slice ka2 kn2 kc2) (ofN R2)) := Lib.hid ((HKV2.out.kept (((Kept.refl _).alloc _).trans H56.out)).kept ((Kept.refl _).alloc _))
      clear hn1 hn2 hn3 hR hP hg3 hm3 d0 d1 hk46
      go_wp2
      go_loopg [12, 85] kn2 (fun kx s12 s85 wr => ∃ (k i : Nat), s12 = .int .i64 i ∧ s85 = .int .i64 k ∧ k ≤ kn2 ∧ kn2 - k ≤ kx ∧ i ≤ kn1 ∧ Hid (i = ((R2.take k).filter P).length) ∧ (w6.alloc (.cells #[.slice ka3 kn3 kc3, .slice fa3 0 fc3] 29)) = wr)
      case atStart => exact ⟨0, 0, rfl, rfl, Nat.zero_le _, by omega, Nat.zero_le _, Lib.hid (by simp), rfl⟩
      case round =>
        obtain ⟨k, i, rfl, rfl, hk, hkx, hi9, HI, rfl⟩ := hrel
        by_cases hlt : k < kn2
        · have hkl : k < R2.length := by have := HN2.out; omega
          obtain ⟨b, o, rfl, hcell⟩ := ints_get hi2.out k hkl
          obtain ⟨f1, f2, f3⟩ := filter_at P R2 k hkl
          rw [← HI.out, ← HRR.out] at f1 f2
          rw [← HI.out] at f3
          have hlen1 := HN1.out
          obtain ⟨r, hr⟩ : ∃ r, r = R2[k] := ⟨_, rfl⟩
          rw [← hr] at f1 f2 f3 hcell
          have hkn : (k : Int) < (kn2 : Int) := by omega
          cases hp : P r with
          | true =>
            have h1 := f1 hp
            have hi : i < R1.length := by
              rcases Nat.lt_or_ge i R1.length with h | h
              · exact h
              · rw [List.getElem?_eq_none h] at h1; cases h1
            obtain ⟨b', o', rfl, hcell'⟩ := ints_get hi1.out i hi
            have e1 : R1[i] = r := by rw [List.getElem?_eq_getElem hi] at h1; exact Option.some.inj h1
            rw [e1] at hcell'
            rw [hp, if_pos rfl] at f3
            have HF3 := Lib.hid f3
            have hin : (i : Int) < (kn1 : Int) := by omega
            have hin2 : i < kn1 := by omega
            clear f1 f2 f3 h1 hi e1 hp hr hlen1
            go_wp2
            go_roundg (kn2 - (k + 1))
            case measure => omega
            case rel => exact ⟨k + 1, i + 1, by go_num, by go_num, by omega, Nat.le_refl _, by omega, Lib.hid HF3.out.symm, rfl⟩
          | false =>
            rw [hp, if_neg (by simp)] at f3
            have HF3 := Lib.hid f3
            by_cases hi : i < R1.length
            · obtain ⟨b', o', rfl, hcell'⟩ := ints_get hi1.out i hi
              have hne := f2 hp R1[i] (List.getElem?_eq_getElem hi)
              obtain ⟨r', hr'⟩ : ∃ r', r' = R1[i] := ⟨_, rfl⟩
              rw [← hr'] at hcell' hne
              have hin : (i : Int) < (kn1 : Int) := by omega
              have hb : ((r' : Int) == (r : Int)) = false := by simp; omega
              have hin2 : i < kn1 := by omega
              clear f1 f2 f3 hi hp hr hlen1 hr' hne
              go_wp2
              go_roundg (kn2 - (k + 1))
              case measure => omega
              case rel => exact ⟨k + 1, i, rfl, by go_num, by omega, Nat.le_refl _, by omega, Lib.hid HF3.out.symm, rfl⟩
            · have hin : ¬ (i : Int) < (kn1 : Int) := by omega
              clear f1 f2 f3 hi hp hr hlen1
              go_wp2
              go_roundg (kn2 - (k + 1))
              case measure => omega
              case rel => exact ⟨k + 1, i, rfl, by go_num, by omega, Nat.le_refl _, by omega, Lib.hid HF3.out.symm, rfl⟩
        · have hke : k = kn2 := by omega
          have hi1n : i = kn1 := by rw [HI.out, hke, HN2.out, List.take_length, ← HRR.out, HN1.out]
          subst hi1n
          have hg : (kn3 : Int) ≥ (kn2 : Int) := by omega
          have hb : ((i : Int) == (i : Int)) = true := by simp
          clear hke
          go_wp2_with fail
          refine (HSA.out _ ((Kept.refl _).alloc _)).mono ?_
          rintro e w7 ⟨rfl, hk7⟩
          have HK7 := Lib.hid hk7
          have a0' := hk7.cell a0
          have b0' := hk7.cell b0
          have g0 := hk7.cell (p := ⟨w6.heap.size, 0, none⟩) (v := .slice ka3 kn3 kc3) (by simp)
          have g1 := hk7.cell (p := ⟨w6.heap.size, 1, none⟩) (v := .slice fa3 0 fc3) (by simp)
          have hs4 : w4.heap.size < w7.heap.size := World.block_lt_of_cell? w7 _ a0'
          have hs5 : w5.heap.size < w7.heap.size := World.block_lt_of_cell? w7 _ b0'
          have hs6 : w6.heap.size < w7.heap.size := World.block_lt_of_cell? w7 _ g0
          clear hk7 a0 a1 b0 b1
          go_wp2_with (go_at_call 29; refine (HSG.out _).mono ?_; rintro e w8 ⟨rfl, hk8⟩)
          go_ret
          exact ⟨rfl, ((((Kept.refl _).alloc _).trans K6.out).alloc _).trans (HK7.out.trans (((Kept.refl _).alloc _).trans hk8))⟩
    · have hqe : errV q = .iface 64 (.int .i64 q) := errV_pos hq0
      rw [hqe]
      clear hqe
      go_wp2_with (go_at_call 9; refine (HA.out _).mono ?_; rintro e w4 ⟨rfl, hk4⟩)
      go_ret
      exact ⟨rfl, (((Kept.refl _).alloc _).trans K3.out).trans hk4⟩
end Go.Proofs.YtngbjdaaogbjmaaGreat
