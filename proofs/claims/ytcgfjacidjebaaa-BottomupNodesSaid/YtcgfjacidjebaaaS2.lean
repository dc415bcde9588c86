/-
  Walks: family.Covers, family.Check; slices.Equal of equal lists.
-/
import Derived.Test.YtcgfjacidjebaaaP7
import Derived.Test.YtcgfjacidjebaaaR2
namespace Go.Proofs.Ytcgfjacidjebaaa
open Go.RowKit

theorem equal_true (xs : List Int) (va vb : Value) (w : World) (ha : IntsAt w va xs) (hb : IntsAt w vb xs) : Calls Try.prog 74 #[va, vb] w fun e w' => e = .returned (.bool true) ∧ Kept w w' := by
  obtain ⟨aa, ca, rfl, _, hla, hca⟩ := ha
  obtain ⟨ab, cb, rfl, _, hlb, hcb⟩ := hb
  by_cases h0 : xs = []
  · subst h0
    exact (Go.Proofs.Try.slices_Equal_int_empty aa ab ca 0 cb w (by omega)).mono fun e w' ⟨h1, h2⟩ => ⟨h1, by subst h2; exact Kept.refl _⟩
  · have hp : 0 < xs.length := List.length_pos_iff.2 h0
    obtain ⟨b1, o1, rfl, _⟩ := hca 0 hp
    obtain ⟨b2, o2, rfl, _⟩ := hcb 0 hp
    refine (Go.Proofs.Try.slices_Equal_int b1 o1 xs.length ca b2 o2 xs.length cb xs xs w (Nat.le_refl _) (Nat.le_refl _) (by omega) (by omega) ?_ ?_).mono fun e w' ⟨h1, q, h2⟩ => ⟨by rw [h1]; simp, by subst h2; exact (Kept.refl _).drewN _⟩
    · intro j hj
      obtain ⟨b, o, h1, h2⟩ := hca j hj
      cases h1
      rw [h2]; simp [hj]
    · intro j hj
      obtain ⟨b, o, h1, h2⟩ := hcb j hj
      cases h1
      rw [h2]; simp [hj]
theorem decides_cov (s : Int) (B : Nat) (w : World) (hc : w.cell? ⟨B, 0, none⟩ = some (.int .i64 s)) : Decides 73 #[.pointer (some ⟨B, 0, none⟩)] (fun t => subB t s) w := by
  intro W x hK
  have hc' := hK.cell hc
  clear hc
  go_enter Try.func73, Try.ntmps73
  go_wp2_with (go_at_call 43; refine (subset_any _ _ _).mono ?_; rintro e w' ⟨rfl, rfl⟩)
  go_ret
  exact ⟨rfl, Kept.refl _⟩
def covB (l : List Nat) (s : Nat) : Bool := l.any fun t => subN t s
theorem covB_up (l : List Nat) (s : Nat) : covB l s = true ↔ up l s := by
  unfold covB up; rw [List.any_eq_true]
theorem cov_ofN {ns : List Nat} {s : Nat} (hm : ∀ n ∈ ns, Mk n) (hs : Mk s) : (ofN ns).any (fun t => subB t (s : Int)) = covB ns s := by
  unfold covB
  induction ns with
  | nil => rfl
  | cons n ns ih =>
    simp only [ofN, List.map_cons, List.any_cons] at ih ⊢
    rw [ih fun x hx => hm x (List.mem_cons_of_mem _ hx), subB_subN (hm n (List.mem_cons_self ..)) hs]
set_option maxHeartbeats 1000000 in
theorem covers_any (va : Value) (ns : List Nat) (s : Nat) (w : World) (hv : SetsAt w va ns) (hs : Mk s) (hl : ns.length ≤ 1024) :
    Calls Try.prog 38 #[va, .int .i64 s] w fun e w' => e = .returned (.tuple #[.bool (covB ns s), .nilIface]) ∧ Kept w w' := by
  have HL : Hid (Calls Try.prog 60 #[.slice (some ⟨w.heap.size + 1, 0, none⟩) 1 1] ((w.alloc (.cells #[.int .i64 s] 3)).alloc (.cells #[va] 27)) fun e w' => e = .returned .nilIface ∧ Kept (w.alloc (.cells #[.int .i64 s] 3)) w') := Lib.hid (by
    have := lists1 ns va (w.alloc (.cells #[.int .i64 s] 3)) (hv.kept ((Kept.refl _).alloc _))
    rw [if_pos hl, errV_zero, World.size_alloc] at this
    exact this)
  have HV : Hid (∀ W, Calls Try.prog 61 #[.int .i64 s] W fun e w' => e = .returned (.bool true) ∧ W = w') := Lib.hid fun W => valid_yes (by unfold Mk at hs; omega) W
  obtain ⟨r, hr⟩ : ∃ r, r = covB ns s := ⟨_, rfl⟩
  rw [← hr]
  have hr2 := (cov_ofN hv.2 hs).trans hr.symm
  have HR := Lib.hid hr2
  have HS := Lib.hid hv
  obtain ⟨a, c, rfl, _, _⟩ := hv.shape
  clear hv hs hl hr hr2
  go_enter Try.func38, Try.ntmps38
  go_wp2_with fail
  refine HL.out.mono ?_
  rintro e w1 ⟨rfl, hk1⟩
  have c0 := hk1.cell (p := ⟨w.heap.size, 0, none⟩) (v := .int .i64 s) (by simp)
  go_wp2_with (first
    | (go_at_call 61; refine (HV.out _).mono ?_; rintro e w2 ⟨rfl, rfl⟩)
    | (go_at_call 72; refine (has_any _ _ (enters_of Try.func73 (by kernel_rfl) rfl) _ _ (ofN ns) _ (decides_cov s _ _ c0) ((HS.out.kept (((Kept.refl _).alloc _).trans hk1)).1)).mono ?_; rintro e w2 ⟨rfl, hK2⟩; rw [HR.out]))
  go_ret2
  exact ⟨rfl, (((Kept.refl _).alloc _).trans hk1).trans hK2⟩
theorem sortK_can {l : List Nat} (h : Can l) : sortK l = l := (sortK_unique l l (by rw [← h]; exact pair_minK l) fun _ => Iff.rfl).symm
set_option maxHeartbeats 1000000 in
theorem fcheck_good (va : Value) (ns : List Nat) (w : World) (hv : SetsAt w va ns) (hg : Good ns) :
    Calls Try.prog 39 #[va] w fun e w' => e = .returned .nilIface ∧ Kept w w' := by
  have hl := hg.2
  have HL : Hid (Calls Try.prog 60 #[.slice (some ⟨w.heap.size, 0, none⟩) 1 1] (w.alloc (.cells #[va] 27)) fun e w' => e = .returned .nilIface ∧ Kept w w') := Lib.hid (by
    have := lists1 ns va w hv
    rw [if_pos hl, errV_zero] at this
    exact this)
  have HS : Hid (∀ W, Kept w W → Calls Try.prog 75 #[va] W fun e w' => (∃ v', e = .returned v' ∧ IntsAt w' v' (ofN ns)) ∧ Kept W w') := Lib.hid fun W hk => by
    refine (sorted_any va ns W hv.2 (hv.kept hk).1 (by omega)).mono ?_
    rintro e w' ⟨v', h1, h2, h3⟩
    rw [sortK_can hg.1] at h2
    exact ⟨⟨v', h1, h2.ints⟩, h3⟩
  have HM : Hid (∀ W, Kept w W → Calls Try.prog 62 #[va] W fun e w' => (∃ v', e = .returned v' ∧ SetsAt w' v' ns) ∧ Kept W w') := Lib.hid fun W hk => by
    refine (minimalS_any va ns W (hv.kept hk) (by omega)).mono ?_
    rintro e w' ⟨v', h1, h2, h3⟩
    rw [hg.1] at h2
    exact ⟨⟨v', h1, h2.sets⟩, h3⟩
  have HV := Lib.hid hv
  obtain ⟨a, c, rfl, _, _⟩ := hv.shape
  clear hv hg hl
  go_enter Try.func39, Try.ntmps39
  go_wp2_with fail
  refine HL.out.mono ?_
  rintro e w1 ⟨rfl, hk1⟩
  have K1 := Lib.hid hk1
  clear hk1
  go_wp2_with (first
    | (go_at_call 75; refine (HS.out _ K1.out).mono ?_; rintro e w2 ⟨⟨v2, rfl, hv2⟩, hk2⟩; have HV2 := Lib.hid hv2; have K2 := Lib.hid (K1.out.trans hk2); clear hv2 hk2)
    | (go_at_call 74; refine (equal_true (ofN ns) _ _ _ ((HV.out.kept K2.out).1) HV2.out).mono ?_; rintro e w3 ⟨rfl, hk3⟩; have K3 := Lib.hid (K2.out.trans hk3); clear hk3)
    | (go_at_call 62; refine (HM.out _ K3.out).mono ?_; rintro e w4 ⟨⟨v4, rfl, hv4⟩, hk4⟩; obtain ⟨a4, c4, rfl, _, _⟩ := hv4.shape; have K4 := Lib.hid (K3.out.trans hk4); clear hk4 hv4))
  go_ret
  exact ⟨rfl, K4.out⟩
end Go.Proofs.Ytcgfjacidjebaaa
