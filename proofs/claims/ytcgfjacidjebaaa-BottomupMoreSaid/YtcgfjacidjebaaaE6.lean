/-
  Walks: bottomup.Cuts.
-/
import Derived.Test.YtcgfjacidjebaaaE5
namespace Go.Proofs.Ytcgfjacidjebaaa
open Go.RowKit

def cutsK (V T : Nat) (nodes : List Nd) : Option (List Nat) := (famsK V T nodes).map fun l => if T < V then [2 ^ T] else l.getD (T - V) []
set_option maxHeartbeats 2000000 in
theorem cuts_err (v : Value) (f : Fm) (q : Nat) (hq : q ≠ 0) (w : World) (hv : ∃ a n c, v = .slice a n c)
    (h : ∀ W, Kept w W → Calls Try.prog 23 #[fmV v f] W fun e w' => e = .returned (.tuple #[.slice none 0 0, errV q]) ∧ Kept W w') :
    Calls Try.prog 18 #[fmV v f] w fun e w' => e = .returned (.tuple #[.slice none 0 0, errV q]) ∧ Kept w w' := by
  have H := Lib.hid h
  have E2 := Lib.hid (errV_pos hq)
  obtain ⟨a, n, c, rfl⟩ := hv
  clear h hq
  go_enter Try.func18, Try.ntmps18
  go_wp2_with (go_at_call 23; refine (H.out _ ((Kept.refl _).alloc _)).mono ?_; rintro e w1 ⟨rfl, hk1⟩; rw [E2.out])
  go_ret2
  exact ⟨by rw [E2.out]; rfl, (((Kept.refl _).alloc _).trans hk1)⟩
set_option maxHeartbeats 2000000 in
theorem cuts_ok (v : Value) (f : Fm) (V T : Nat) (l : List (List Nat)) (w : World) (hok : Ok f V T) (hv : ∃ a n c, v = .slice a n c) (hl : famsK V T f.nodes = some l)
    (h : ∀ W, Kept w W → Calls Try.prog 23 #[.agg #[.int .i64 V, v, .int .i64 T]] W fun e w' => (∃ v', e = .returned (.tuple #[v', .nilIface]) ∧ OwnFams w' 0 v' l) ∧ Kept W w') :
    Calls Try.prog 18 #[.agg #[.int .i64 V, v, .int .i64 T]] w fun e w' => (∃ v', e = .returned (.tuple #[v', .nilIface]) ∧ OwnSets w' 0 v' (if T < V then [2 ^ T] else l.getD (T - V) [])) ∧ Kept w w' := by
  have H := Lib.hid h
  obtain ⟨a, n, c, rfl⟩ := hv
  have hT := hok.tlt
  have hV := hok.v24
  have hn := hok.n128
  have hll : l.length = f.nodes.length := len_famsUp V _ f.nodes f.nodes.length l hl
  clear h hl hok
  by_cases hTV : T < V
  · rw [if_pos hTV]
    have h1 : (T : Int) < (V : Int) := by omega
    go_enter Try.func18, Try.ntmps18
    go_wp2_with (go_at_call 23; refine (H.out _ ((Kept.refl _).alloc _)).mono ?_; rintro e w1 ⟨⟨v1, rfl, ho1⟩, hk1⟩; have O1 := Lib.hid ho1; clear ho1; have c0 := hk1.cell (p := ⟨w.heap.size, 0, none⟩) (v := .int .i64 V) (by simp); have c2 := hk1.cell (p := ⟨w.heap.size, 2, none⟩) (v := .int .i64 T) (by simp))
    go_ret2
    exact ⟨⟨_, rfl, OwnSets.shl w1 T (by omega)⟩, (((Kept.refl _).alloc _).trans hk1).alloc _⟩
  · rw [if_neg hTV]
    have h1 : ¬ (T : Int) < (V : Int) := by omega
    obtain ⟨Z, hZ⟩ : ∃ Z, T = V + Z := ⟨T - V, by omega⟩
    subst hZ
    have hZl : Z < l.length := by omega
    have hzz : (Z : Int) < (l.length : Int) := by omega
    have hlne : l ≠ [] := by intro e; rw [e] at hZl; simp at hZl
    obtain ⟨ln, hln⟩ : ∃ x, x = l.length := ⟨_, rfl⟩
    rw [← hln] at hzz
    have HLN := Lib.hid hln
    have HZL := Lib.hid hZl
    have HNE := Lib.hid hlne
    clear hln hll hZl hlne
    go_enter Try.func18, Try.ntmps18
    go_wp2_with (go_at_call 23; refine (H.out _ ((Kept.refl _).alloc _)).mono ?_; rintro e w1 ⟨⟨v1, rfl, ho1⟩, hk1⟩; obtain ⟨g, cap, rfl, _, _, _⟩ := ho1.shape HNE.out; obtain ⟨uz, hcz, huz⟩ := ho1.cell Z HZL.out; rw [← HLN.out]; have O1 := Lib.hid huz; clear ho1 huz; have c0 := hk1.cell (p := ⟨w.heap.size, 0, none⟩) (v := .int .i64 V) (by simp); have c2 := hk1.cell (p := ⟨w.heap.size, 2, none⟩) (v := .int .i64 ((V + Z : Nat) : Int)) (by simp))
    go_ret2
    exact ⟨⟨uz, rfl, by rw [show V + Z - V = Z by omega, List.getD_eq_getElem?_getD, List.getElem?_eq_getElem HZL.out]; exact O1.out⟩, ((Kept.refl _).alloc _).trans hk1⟩
end Go.Proofs.Ytcgfjacidjebaaa
