import Derived.Test.YtcgfjacidjebaaaW4m
/-
  The law BottomupSame returns true, whatever the formula. (Printed by gen_W6.py.)
-/
namespace Go.Proofs.Ytcgfjacidjebaaa
open Go.RowKit Go.ChangeShapes Go.WideShapes Go.ChangeAt Go.Joins Go.Deep

theorem chkFromB_le (xs : List Nd) : ∀ b, chkFrom b xs ≤ 100 := by
  induction xs with
  | nil => intro b; simp [chkFrom]
  | cons x l ih =>
    intro b
    unfold chkFrom
    split
    · exact ih _
    · unfold chkNd chkK; (repeat' split) <;> omega
theorem chkFB_le (f : Fm) : chkF f ≤ 100 := by
  unfold chkF
  have := chkFromB_le f.nodes f.vars
  (repeat' split) <;> omega
/-- An answer: a slice and an error's number. -/
def Ans (w' : World) (e : Ending) (q : Nat) (P : List Int → Prop) : Prop := ∃ v1 l1, e = .returned (.tuple #[v1, errV q]) ∧ IntsAt w' v1 l1 ∧ P l1
theorem ans_err {w' : World} {e : Ending} {q : Nat} {P : List Int → Prop} (h : e = .returned (.tuple #[.slice none 0 0, errV q])) (hp : P []) : Ans w' e q P := ⟨_, [], h, IntsAt.nil _, hp⟩
/-- What both Cuts answer. -/
theorem both_cuts (v : Value) (f : Fm) (w : World) (hv : NodesAt w v f.nodes) (ht : f.top ≤ 9223372036854775807) :
    ∃ (q1 q2 : Nat) (l : List Int), q1 ≤ 1000 ∧ (q1 ≠ 4 → q2 ≠ 4 → q1 = q2) ∧ ∀ W, Kept w W →
      (Calls Try.prog 18 #[fmV v f] W fun e w' => Ans w' e q1 (fun l1 => q1 = 0 → q2 = 0 → l1 = l) ∧ Kept W w') ∧
      (Calls Try.prog 31 #[fmV v f] W fun e w' => Ans w' e q2 (fun l1 => q1 = 0 → q2 = 0 → l1 = l) ∧ Kept W w') := by
  have hs : ∃ a n c, v = .slice a n c := by obtain ⟨a, c, h, _⟩ := hv; exact ⟨a, _, c, h⟩
  by_cases hck : chkF f = 0
  · obtain ⟨V, T, hok⟩ := ok_of _ hck
    have hfm : fmV v f = .agg #[.int .i64 V, v, .int .i64 T] := by unfold fmV; rw [hok.vars, hok.top]
    rw [hfm]
    rcases top_cases v f V T hok hck hs with ⟨q, hq, h⟩ | ⟨p, hp, hsy, h⟩
    · rcases hq with ⟨rfl, hsy, _⟩ | ⟨rfl, hsy⟩
      · rcases fam_cases v f V T hok hck hs with ⟨q1, hq1, g⟩ | ⟨l, _, _, g⟩
        · refine ⟨q1, 4, [], by omega, fun _ h => (h rfl).elim, fun W hk => ⟨((g W (hv.kept hk)).2).mono fun e w' h => ⟨ans_err h.1 (fun _ h => by omega), h.2⟩, ((h W (hv.kept hk)).1).mono fun e w' h => ⟨ans_err h.1 (fun _ h => by omega), h.2⟩⟩⟩
        · refine ⟨0, 4, [], by omega, fun _ h => (h rfl).elim, fun W hk => ⟨((g W (hv.kept hk)).2).mono ?_, ((h W (hv.kept hk)).1).mono fun e w' h => ⟨ans_err h.1 (fun _ h => by omega), h.2⟩⟩⟩
          rintro e w' ⟨⟨v1, h1, h2⟩, h3⟩
          exact ⟨⟨v1, _, h1, h2.1.ints, fun _ h => by omega⟩, h3⟩
      · have hb : ∀ W, Kept w W → Calls Try.prog 18 #[.agg #[.int .i64 V, v, .int .i64 T]] W fun e w' => e = .returned (.tuple #[.slice none 0 0, errV 7]) ∧ Kept W w' := fun W hk => by
          have := cuts_err v f 7 (by omega) W hs (fun W' hk2 => by rw [hfm]; exact families_typed v f V T W' ((hv.kept hk).kept hk2) hok hck hsy)
          rw [hfm] at this
          exact this
        exact ⟨7, 7, [], by omega, fun _ _ => rfl, fun W hk => ⟨(hb W hk).mono fun e w' h => ⟨ans_err h.1 (fun _ h => by omega), h.2⟩, ((h W (hv.kept hk)).1).mono fun e w' h => ⟨ans_err h.1 (fun _ h => by omega), h.2⟩⟩⟩
    · cases hl : famsK V T f.nodes with
      | none =>
        refine ⟨4, 0, [], by omega, fun h => (h rfl).elim, fun W hk => ⟨?_, ((h W (hv.kept hk)).1).mono ?_⟩⟩
        · have hN := hv.kept hk
          have := cuts_err v f 4 (by omega) W hs (fun W' hk2 => by
            rw [hfm]
            have := families_ok v f V T W' (hN.kept hk2) hok hck hsy
            rw [hl] at this
            exact this)
          rw [hfm] at this
          exact this.mono fun e w' h => ⟨ans_err h.1 (fun h => by omega), h.2⟩
        · rintro e w' ⟨⟨v1, h1, h2⟩, h3⟩
          exact ⟨⟨v1, _, h1, h2.1.ints, fun h => by omega⟩, h3⟩
      | some l =>
        have g : ∀ W, NodesAt W v f.nodes → Calls Try.prog 18 #[.agg #[.int .i64 V, v, .int .i64 T]] W fun e w' => (∃ v', e = .returned (.tuple #[v', .nilIface]) ∧ OwnSets w' 0 v' (if T < V then [2 ^ T] else l.getD (T - V) [])) ∧ Kept W w' := fun W hW =>
          cuts_ok v f V T l W hok hs hl fun W' hk => families_good v f V T W' l (hW.kept hk) hok hck hsy hl
        refine ⟨0, 0, ofN p.1, by omega, fun _ _ => rfl, fun W hk => ⟨(g W (hv.kept hk)).mono ?_, ((h W (hv.kept hk)).1).mono ?_⟩⟩
        · rintro e w' ⟨⟨v1, h1, h2⟩, h3⟩
          exact ⟨⟨v1, _, h1, h2.1.ints, fun _ _ => by rw [topK_cuts hok hsy hp hl]⟩, h3⟩
        · rintro e w' ⟨⟨v1, h1, h2⟩, h3⟩
          exact ⟨⟨v1, _, h1, h2.1.ints, fun _ _ => rfl⟩, h3⟩
  · have h9 := chkFB_le f
    refine ⟨chkF f, chkF f, [], by omega, fun _ _ => rfl, fun W hk => ⟨?_, ?_⟩⟩
    · exact (cuts_err v f (chkF f) hck W hs fun W' hk2 => families_bad v f W' ((hv.kept hk).kept hk2) ht hck).mono fun e w' h => ⟨ans_err h.1 (fun h => (hck h).elim), h.2⟩
    · exact (tcuts_err v f (chkF f) hck W hs fun W' hk2 => run_err v f (chkF f) hck W' hs fun W2 hk3 => syntax_err v f W2 (((hv.kept hk).kept hk2).kept hk3) ht hck).mono fun e w' h => ⟨ans_err h.1 (fun h => (hck h).elim), h.2⟩
set_option maxRecDepth 100000 in
set_option maxHeartbeats 8000000 in
theorem same_true (w : World) (v : Value) (f : Fm) (hv : NodesAt w v f.nodes) (hfo : FmOk f) :
    Calls Try.prog 15 #[fmV v f] w fun e w' => e = .returned (.bool true) ∧ Kept w w' := by
  have ht : f.top ≤ 9223372036854775807 := hfo.2.1.2
  have hh : ∀ W, Kept w W → Calls Try.prog 17 #[fmV v f] W fun e w' => (∃ b, e = .returned (.bool b)) ∧ Kept W w' := fun W hk => heavy_any v f W (hv.kept hk)
  obtain ⟨q1, q2, l, hq9, hqq, hbc⟩ := both_cuts v f w hv ht
  have hsh : ∃ a n c, v = .slice a n c := by obtain ⟨a, c, h, _⟩ := hv; exact ⟨a, _, c, h⟩
  obtain ⟨a, n, c, rfl⟩ := hsh
  obtain ⟨vars, nodes, top⟩ := f
  have HH : Hid (∀ W, Kept w W → Calls Try.prog 17 #[.agg #[.int .i64 vars, .slice a n c, .int .i64 top]] W fun e w' => (∃ b, e = .returned (.bool b)) ∧ Kept W w') := Lib.hid hh
  have HA : Hid (∀ W, Calls Try.prog 16 #[] W fun e w' => e = .returned (.bool true) ∧ Kept W w') := Lib.hid fun W => awake_ok W
  obtain ⟨E1, hE1⟩ : ∃ E, E = errV q1 := ⟨_, rfl⟩
  obtain ⟨E2, hE2⟩ : ∃ E, E = errV q2 := ⟨_, rfl⟩
  have HB : Hid (∀ W, Kept w W → Calls Try.prog 18 #[.agg #[.int .i64 vars, .slice a n c, .int .i64 top]] W fun e w' => (∃ v1 l1, e = .returned (.tuple #[v1, E1]) ∧ IntsAt w' v1 l1 ∧ (q1 = 0 → q2 = 0 → l1 = l)) ∧ Kept W w') := Lib.hid fun W hk => by rw [hE1]; exact (hbc W hk).1
  have HT : Hid (∀ W, Kept w W → Calls Try.prog 31 #[.agg #[.int .i64 vars, .slice a n c, .int .i64 top]] W fun e w' => (∃ v1 l1, e = .returned (.tuple #[v1, E2]) ∧ IntsAt w' v1 l1 ∧ (q1 = 0 → q2 = 0 → l1 = l)) ∧ Kept W w') := Lib.hid fun W hk => by rw [hE2]; exact (hbc W hk).2
  have I1 : Hid (∀ W, Calls Try.prog 27 #[E1, .int .i64 4] W fun e w' => e = .returned (.bool (q1 == 4)) ∧ W = w') := Lib.hid fun W => by rw [hE1]; exact is_all q1 4 W (by omega)
  have I2 : Hid (∀ W, Calls Try.prog 27 #[E2, .int .i64 4] W fun e w' => e = .returned (.bool (q2 == 4)) ∧ W = w') := Lib.hid fun W => by rw [hE2]; exact is_all q2 4 W (by omega)
  have N1 : Hid (∀ W, Calls Try.prog 20 #[E1] W fun e w' => e = .returned (.int .i64 q1) ∧ W = w') := Lib.hid fun W => by rw [hE1]; exact num_eq q1 W (by omega)
  have HE1 := Lib.hid hE1
  have HE2 := Lib.hid hE2
  have HQQ := Lib.hid hqq
  show Calls _ _ #[.agg #[.int .i64 vars, .slice a n c, .int .i64 top]] _ _
  clear hv hh ht hfo hbc hE1 hE2 hqq hq9
  go_enter Try.func15, Try.ntmps15
  go_wp2_with (go_at_call 16; refine (HA.out _).mono ?_; rintro e w1 ⟨rfl, hk1⟩; obtain ⟨c0, c1, c2⟩ := fm_cells hk1)
  refine (HH.out _ (((Kept.refl _).alloc _).trans hk1)).mono ?_
  rintro e w2 ⟨⟨b, rfl⟩, hk2⟩
  have K2 := Lib.hid (hk1.trans hk2)
  clear hk1 hk2 c0 c1 c2
  obtain ⟨c0, c1, c2⟩ := fm_cells K2.out
  cases b with
  | true =>
    go_wp2_with (go_at_call 16; refine (HA.out _).mono ?_; rintro e w3 ⟨rfl, hk3⟩)
    go_ret
    exact ⟨rfl, (((Kept.refl _).alloc _).trans K2.out).trans hk3⟩
  | false =>
    go_wp2_with fail
    refine (HB.out _ (((Kept.refl _).alloc _).trans K2.out)).mono ?_
    rintro e w3 ⟨⟨v3, l3, rfl, hi3, hl3⟩, hk3⟩
    have K3 := Lib.hid (K2.out.trans hk3)
    obtain ⟨a3, n3, c3, rfl⟩ := hi3.shape
    have HI3 := Lib.hid hi3
    have HL3 := Lib.hid hl3
    clear hk3 c0 c1 c2 hi3 hl3
    obtain ⟨c0, c1, c2⟩ := fm_cells K3.out
    go_wp2_with fail
    refine (HT.out _ (((Kept.refl _).alloc _).trans K3.out)).mono ?_
    rintro e w4 ⟨⟨v4, l4, rfl, hi4, hl4⟩, hk4⟩
    have K4 := Lib.hid (K3.out.trans hk4)
    obtain ⟨a4, n4, c4, rfl⟩ := hi4.shape
    have HI4 := Lib.hid hi4
    have HI34 := Lib.hid (HI3.out.kept hk4)
    have HL4 := Lib.hid hl4
    clear hk4 c0 c1 c2 hi4 hl4
    by_cases h1 : q1 = 0
    · by_cases h2 : q2 = 0
      · have e1 : E1 = .nilIface := by rw [HE1.out, h1, errV_zero]
        have e2 : E2 = .nilIface := by rw [HE2.out, h2, errV_zero]
        have HX : Hid (Calls Try.prog 22 #[.slice a3 n3 c3, .slice a4 n4 c4] w4 fun e w' => e = .returned (.bool true) ∧ Kept w4 w') := Lib.hid (by
          have x3 := HI34.out
          have x4 := HI4.out
          rw [HL3.out h1 h2] at x3
          rw [HL4.out h1 h2] at x4
          exact ints_true _ _ _ x3 x4)
        subst e1 e2
        clear h1 h2
        go_wp2_with (go_at_call 22; refine HX.out.mono ?_; rintro e w5 ⟨rfl, hk5⟩)
        go_ret
        exact ⟨rfl, (((Kept.refl _).alloc _).trans K4.out).trans hk5⟩
      · have h4 : q2 = 4 := by
          by_cases h : q2 = 4
          · exact h
          · have := HQQ.out (by omega) h; omega
        have e1 : E1 = .nilIface := by rw [HE1.out, h1, errV_zero]
        have e2 : E2 = .iface 45 (.int .i64 q2) := by rw [HE2.out]; exact errV_pos h2
        rw [show (q1 == 4) = false by simp; omega] at I1
        rw [show (q2 == 4) = true by simp; omega] at I2
        subst e1 e2
        clear h1 h2 h4
        go_wp2_with (first
          | (go_at_call 27; (with_reducible refine (I1.out _).mono ?_); rintro e w6 ⟨rfl, rfl⟩)
          | (go_at_call 27; (with_reducible refine (I2.out _).mono ?_); rintro e w6 ⟨rfl, rfl⟩))
        go_ret
        exact ⟨rfl, ((Kept.refl _).alloc _).trans K4.out⟩
    · have e1 : E1 = .iface 45 (.int .i64 q1) := by rw [HE1.out]; exact errV_pos h1
      by_cases h4 : q1 = 4
      · rw [show (q1 == 4) = true by simp; omega] at I1
        subst e1
        clear h1 h4
        go_wp2_with (go_at_call 27; (with_reducible refine (I1.out _).mono ?_); rintro e w6 ⟨rfl, rfl⟩)
        go_ret
        exact ⟨rfl, ((Kept.refl _).alloc _).trans K4.out⟩
      · rw [show (q1 == 4) = false by simp; omega] at I1
        by_cases h5 : q2 = 4
        · rw [show (q2 == 4) = true by simp; omega] at I2
          subst e1
          clear h1 h4 h5
          go_wp2_with (first
            | (go_at_call 27; (with_reducible refine (I1.out _).mono ?_); rintro e w6 ⟨rfl, rfl⟩)
            | (go_at_call 27; (with_reducible refine (I2.out _).mono ?_); rintro e w6 ⟨rfl, rfl⟩))
          go_ret
          exact ⟨rfl, ((Kept.refl _).alloc _).trans K4.out⟩
        · have hq := HQQ.out h4 h5
          have e2 : E2 = .iface 45 (.int .i64 q1) := by rw [HE2.out, ← hq]; exact errV_pos h1
          have hbb : ((q1 : Int) == (q1 : Int)) = true := by simp
          subst e1 e2
          clear h1 h4 h5 hq I2
          go_wp2_with (first
            | (go_at_call 27; (with_reducible refine (I1.out _).mono ?_); rintro e w6 ⟨rfl, rfl⟩)
            | (go_at_call 20; (with_reducible refine (N1.out _).mono ?_); rintro e w6 ⟨rfl, rfl⟩))
          go_ret
          exact ⟨rfl, ((Kept.refl _).alloc _).trans K4.out⟩
set_option maxRecDepth 100000 in
theorem bottomupSame_lifted (os : Os) (started : os.Started) (H : Type) (enc : TypeId × Value → H) :
    ReturnsInHanded {} Try.checked os 15 .any (Rows.bottomupSameSpec.pre6 enc Try.prog Try.f15 Rows.bottomupSameRow.domain false) (Rows.bottomupSameSpec.post enc Try.prog Try.f15 false true false false) := by
  refine returnsInHanded_of_change_sized (C := Try.checked) ownK started (by kernel_rfl) Try.func15
    (ChangeSpec.witness6 (enc := enc) (C := Try.checked) false ⟨#[], #[.agg #[.int .i64 0, .slice none 0 0, .int .i64 0]], []⟩ 8 (by kernel_rfl) (by kernel_rfl) (by kernel_rfl) (by kernel_rfl)) ?_
  intro W base args ds gs before hval hW _ hsz _
  exact lift1 15 Try.f15 rfl (fun _ _ => rfl) Try.params15 (by kernel_rfl) same_true W base args ds gs before hval hW hsz
theorem bottomupSame_holds : Rows.BottomupSameSaid :=
  OpenClaim.holds_of_wide 15 Try.f15 rfl rfl rfl rfl rfl rfl rfl ⟨rfl, rfl, rfl, rfl, rfl⟩ rfl rfl rfl rfl rfl (by kernel_rfl) Try.func15 (by kernel_rfl)
    (of_decide_eq_true (by kernel_rfl)) (by unfold Func.isWrapper; first | (rw [if_pos (by decide +kernel)]; kernel_rfl) | (rw [if_neg (by decide +kernel)]; exact ⟨rfl, rfl⟩))
    (fun os started H enc _ => bottomupSame_lifted os started H enc)
end Go.Proofs.Ytcgfjacidjebaaa
