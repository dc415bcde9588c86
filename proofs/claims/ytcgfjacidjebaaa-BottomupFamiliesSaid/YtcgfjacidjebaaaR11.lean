/-
  Walks: faultlineref32.Cuts. What the program and the reference answer, side by side.
-/
import Derived.Test.YtcgfjacidjebaaaR10
import Derived.Test.YtcgfjacidjebaaaF7
namespace Go.Proofs.Ytcgfjacidjebaaa
open Go.RowKit

set_option maxHeartbeats 2000000 in
theorem rcuts_err (v : Value) (V T q : Nat) (hq : q ≠ 0) (w : World) (hv : ∃ a n c, v = .slice a n c)
    (h : ∀ W, Kept w W → Calls Try.prog 24 #[.agg #[.int .i64 V, v, .int .i64 T]] W fun e w' => e = .returned (.tuple #[.slice none 0 0, .int .i64 q]) ∧ Kept W w') :
    Calls Try.prog 21 #[.agg #[.int .i64 V, v, .int .i64 T]] w fun e w' => e = .returned (.tuple #[.slice none 0 0, .int .i64 q]) ∧ Kept w w' := by
  have H := Lib.hid h
  have e1 : ((q : Int) == 0) = false := by simp; omega
  have e2 : ((q : Int) != 0) = true := by simp; omega
  obtain ⟨a, n, c, rfl⟩ := hv
  clear h hq
  go_enter Try.func21, Try.ntmps21
  go_wp2_with (go_at_call 24; refine (H.out _ ((Kept.refl _).alloc _)).mono ?_; rintro e w1 ⟨rfl, hk1⟩)
  go_ret2
  exact ⟨rfl, (((Kept.refl _).alloc _).trans hk1)⟩
set_option maxRecDepth 100000 in
set_option maxHeartbeats 2000000 in
theorem rcuts_ok (v : Value) (f : Fm) (V T : Nat) (l : List (List Nat)) (w : World) (hok : Ok f V T) (hv : ∃ a n c, v = .slice a n c) (hl : famsK V T f.nodes = some l)
    (h : ∀ W, Kept w W → Calls Try.prog 24 #[.agg #[.int .i64 V, v, .int .i64 T]] W fun e w' => (∃ v', e = .returned (.tuple #[v', .int .i64 0]) ∧ OwnFams w' 0 v' l) ∧ Kept W w') :
    Calls Try.prog 21 #[.agg #[.int .i64 V, v, .int .i64 T]] w fun e w' => (∃ v', e = .returned (.tuple #[v', .int .i64 0]) ∧ OwnSets w' 0 v' (if T < V then [2 ^ T] else l.getD (T - V) [])) ∧ Kept w w' := by
  have H := Lib.hid h
  obtain ⟨a, n, c, rfl⟩ := hv
  have hT := hok.tlt
  have hV := hok.v24
  have hn := hok.n128
  have hll : l.length = f.nodes.length := len_famsUp V _ f.nodes f.nodes.length l hl
  have hcall : ∀ W vo, OwnFams W 0 vo l → Calls Try.prog 51 #[.agg #[.int .i64 V, .slice a n c, .int .i64 T], vo, .int .i64 T] W fun e w' => (∃ v', e = .returned v' ∧ OwnSets w' 0 v' (if T < V then [2 ^ T] else l.getD (T - V) [])) ∧ Kept W w' := by
    intro W vo ho
    by_cases hTV : T < V
    · rw [if_pos hTV]
      exact of_low _ vo V T T W hV hTV ⟨_, _, _, rfl⟩ ho.slice
    · rw [if_neg hTV]
      obtain ⟨Z, hZ⟩ : ∃ Z, T = V + Z := ⟨T - V, by omega⟩
      subst hZ
      obtain ⟨g, cap, rfl, _, _, _⟩ := ho.shape (by intro e; rw [e] at hll; simp at hll; omega)
      obtain ⟨uz, hcz, huz⟩ := ho.cell Z (by omega)
      refine (of_high _ V Z g l.length cap ((V + Z : Nat) : Int) uz W (by omega) (by omega) ⟨_, _, _, rfl⟩ hcz).mono ?_
      rintro e w' ⟨rfl, hk⟩
      refine ⟨⟨uz, rfl, ?_⟩, hk⟩
      rw [show V + Z - V = Z by omega, List.getD_eq_getElem?_getD, List.getElem?_eq_getElem (by omega)]
      exact huz.kept hk
  obtain ⟨X, hX⟩ : ∃ X, X = if T < V then [2 ^ T] else l.getD (T - V) [] := ⟨_, rfl⟩
  rw [← hX] at hcall ⊢
  have HCL := Lib.hid hcall
  clear h hl hok hcall hX
  go_enter Try.func21, Try.ntmps21
  go_wp2_with (first
    | (go_at_call 24; refine (H.out _ ((Kept.refl _).alloc _)).mono ?_; rintro e w1 ⟨⟨v1, rfl, ho1⟩, hk1⟩; have O1 := Lib.hid ho1; clear ho1; obtain ⟨c0, c1, c2⟩ := fm_cells hk1)
    | (go_at_call 51; refine (HCL.out _ _ O1.out).mono ?_; rintro e w2 ⟨⟨v2, rfl, ho2⟩, hk2⟩; have O2 := Lib.hid ho2; clear ho2))
  go_ret2
  exact ⟨⟨_, rfl, O2.out⟩, (((Kept.refl _).alloc _).trans hk1).trans hk2⟩
/-- Program and reference, side by side. -/
def BothAll (v : Value) (f : Fm) (V T : Nat) : Prop :=
    ∃ (q : Nat) (X : List Int) (XX : List (List Int)), q ≤ 100 ∧ ∀ W, NodesAt W v f.nodes →
      (Calls Try.prog 18 #[.agg #[.int .i64 V, v, .int .i64 T]] W fun e w' => (∃ v', e = .returned (.tuple #[v', errV q]) ∧ IntsAt w' v' X) ∧ Kept W w') ∧
      (Calls Try.prog 21 #[.agg #[.int .i64 V, v, .int .i64 T]] W fun e w' => (∃ v', e = .returned (.tuple #[v', .int .i64 q]) ∧ IntsAt w' v' X) ∧ Kept W w') ∧
      (Calls Try.prog 23 #[.agg #[.int .i64 V, v, .int .i64 T]] W fun e w' => (∃ v', e = .returned (.tuple #[v', errV q]) ∧ RowsAt IntsAt w' v' XX) ∧ Kept W w') ∧
      (Calls Try.prog 24 #[.agg #[.int .i64 V, v, .int .i64 T]] W fun e w' => (∃ v', e = .returned (.tuple #[v', .int .i64 q]) ∧ RowsAt IntsAt w' v' XX) ∧ Kept W w')
theorem both_all (v : Value) (f : Fm) (V T : Nat) (hok : Ok f V T) (hck : chkF f = 0) (hs : ∃ a n c, v = .slice a n c) : BothAll v f V T := by
  have hfm : fmV v f = .agg #[.int .i64 V, v, .int .i64 T] := by unfold fmV; rw [hok.vars, hok.top]
  have hnil : ∀ W, RowsAt IntsAt W (.slice none 0 0) [] := fun W => ⟨none, 0, rfl, ⟨by simp, fun _ => rfl⟩, by simp, fun i h => by simp at h⟩
  have bad : ∀ q, q ≠ 0 → q ≤ 100 → (∀ W, NodesAt W v f.nodes → Calls Try.prog 23 #[.agg #[.int .i64 V, v, .int .i64 T]] W fun e w' => e = .returned (.tuple #[.slice none 0 0, errV q]) ∧ Kept W w') →
      (∀ W, NodesAt W v f.nodes → Calls Try.prog 24 #[.agg #[.int .i64 V, v, .int .i64 T]] W fun e w' => e = .returned (.tuple #[.slice none 0 0, .int .i64 q]) ∧ Kept W w') → BothAll v f V T := by
    intro q hq0 hq hA hB
    exact ⟨q, [], [], hq, fun W hW => ⟨(by
        have := cuts_err v f q hq0 W hs (fun W' hk => by rw [hfm]; exact hA W' (hW.kept hk))
        rw [hfm] at this
        exact this : Calls Try.prog 18 #[.agg #[.int .i64 V, v, .int .i64 T]] W fun e w' => e = .returned (.tuple #[.slice none 0 0, errV q]) ∧ Kept W w').mono fun _ w' ⟨h1, h2⟩ => ⟨⟨_, h1, IntsAt.nil w'⟩, h2⟩,
      (rcuts_err v V T q hq0 W hs (fun W' hk => hB W' (hW.kept hk))).mono fun _ w' ⟨h1, h2⟩ => ⟨⟨_, h1, IntsAt.nil w'⟩, h2⟩,
      (hA W hW).mono fun _ w' ⟨h1, h2⟩ => ⟨⟨_, h1, hnil w'⟩, h2⟩, (hB W hW).mono fun _ w' ⟨h1, h2⟩ => ⟨⟨_, h1, hnil w'⟩, h2⟩⟩⟩
  cases hsy : synK V T f with
  | false => exact bad 7 (by omega) (by omega) (fun W hW => families_typed v f V T W hW hok hck hsy) (fun W hW => rfamilies_typed v f V T W hW hok hsy)
  | true =>
    cases hl : famsK V T f.nodes with
    | none =>
      exact bad 4 (by omega) (by omega) (fun W hW => by
        have := families_ok v f V T W hW hok hck hsy
        rw [hl] at this
        exact this) (fun W hW => by
        have := rfamilies_ok v f V T W hW hok hsy
        rw [hl] at this
        exact this)
    | some l =>
      have hA : ∀ W, NodesAt W v f.nodes → Calls Try.prog 23 #[.agg #[.int .i64 V, v, .int .i64 T]] W fun e w' => (∃ v', e = .returned (.tuple #[v', .nilIface]) ∧ OwnFams w' 0 v' l) ∧ Kept W w' := fun W hW => families_good v f V T W l hW hok hck hsy hl
      have hB : ∀ W, NodesAt W v f.nodes → Calls Try.prog 24 #[.agg #[.int .i64 V, v, .int .i64 T]] W fun e w' => (∃ v', e = .returned (.tuple #[v', .int .i64 0]) ∧ OwnFams w' 0 v' l) ∧ Kept W w' := fun W hW => by
        refine (rfamilies_ok v f V T W hW hok hsy).mono ?_
        rintro e w' ⟨h1, h2⟩
        rw [hl] at h1
        exact ⟨h1, h2⟩
      refine ⟨0, ofN (if T < V then [2 ^ T] else l.getD (T - V) []), l.map ofN, by omega, fun W hW => ⟨?_, ?_, ?_, ?_⟩⟩
      · exact (cuts_ok v f V T l W hok hs hl fun W' hk => hA W' (hW.kept hk)).mono fun _ _ ⟨⟨v', h1, h2⟩, h3⟩ => ⟨⟨v', h1, h2.sets.1⟩, h3⟩
      · exact (rcuts_ok v f V T l W hok hs hl fun W' hk => hB W' (hW.kept hk)).mono fun _ _ ⟨⟨v', h1, h2⟩, h3⟩ => ⟨⟨v', h1, h2.sets.1⟩, h3⟩
      · exact (hA W hW).mono fun _ _ ⟨⟨v', h1, h2⟩, h3⟩ => ⟨⟨v', h1, ofN_rows h2.at⟩, h3⟩
      · exact (hB W hW).mono fun _ _ ⟨⟨v', h1, h2⟩, h3⟩ => ⟨⟨v', h1, ofN_rows h2.at⟩, h3⟩
end Go.Proofs.Ytcgfjacidjebaaa
