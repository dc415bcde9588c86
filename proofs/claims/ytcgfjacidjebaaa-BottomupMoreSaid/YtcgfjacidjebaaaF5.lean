/-
  Walks: faultlinelaw32.awake.
-/
import Derived.Test.YtcgfjacidjebaaaF4
namespace Go.Proofs.Ytcgfjacidjebaaa
open Go.RowKit

theorem families_good (v : Value) (f : Fm) (V T : Nat) (w : World) (l : List (List Nat)) (hv : NodesAt w v f.nodes) (hok : Ok f V T) (hck : chkF f = 0) (hs : synK V T f = true) (hl : famsK V T f.nodes = some l) :
    Calls Try.prog 23 #[.agg #[.int .i64 V, v, .int .i64 T]] w fun e w' => (∃ v', e = .returned (.tuple #[v', .nilIface]) ∧ OwnFams w' 0 v' l) ∧ Kept w w' := by
  refine (families_ok v f V T w hv hok hck hs).mono ?_
  rintro e w' ⟨h1, h2⟩
  rw [hl] at h1
  exact ⟨h1, h2⟩
theorem ofN_rows {w : World} {v : Value} {l : List (List Nat)} (h : FamsAt w v l) : RowsAt IntsAt w v (l.map ofN) := by
  obtain ⟨a, c, h1, h2, h3, h4⟩ := h
  refine ⟨a, c, by simpa using h1, by simpa using h2, by simpa using h3, fun i hi => ?_⟩
  obtain ⟨b, o, u, h5, h6, h7⟩ := h4 i (by simpa using hi)
  exact ⟨b, o, u, h5, h6, by simpa using h7.1⟩
theorem row_at {w : World} {g : Nat} {us : List Value} {xs : List (List Int)} (hl : us.length = xs.length) (hn : xs.length ≤ 128) (hc : ∀ i (h : i < us.length) (h' : i < xs.length), w.cell? ⟨g, i, none⟩ = some us[i] ∧ IntsAt w us[i] xs[i]) : RowsAt IntsAt w (.slice (some ⟨g, 0, none⟩) xs.length xs.length) xs :=
  ⟨_, _, rfl, ⟨Nat.le_refl _, fun h => by cases h⟩, by omega, fun i hi => ⟨g, 0, us[i]'(by omega), rfl, by simpa using (hc i (by omega) hi).1, (hc i (by omega) hi).2⟩⟩
theorem fam_ex_at (v : Value) (w : World) (hv : NodesAt w v exN) :
    Calls Try.prog 23 #[.agg #[.int .i64 3, v, .int .i64 5]] w fun e w' => (∃ v', e = .returned (.tuple #[v', .nilIface]) ∧ OwnFams w' 0 v' [[1, 2], [1, 4], [1, 6]]) ∧ Kept w w' :=
  families_good v exF 3 5 w [[1, 2], [1, 4], [1, 6]] hv ok_ex chk_ex syn_ex fams_ex
theorem cut_ex_at (v : Value) (w : World) (hs : ∃ a n c, v = .slice a n c) (hv : NodesAt w v exN) :
    Calls Try.prog 18 #[.agg #[.int .i64 3, v, .int .i64 5]] w fun e w' => (∃ v', e = .returned (.tuple #[v', .nilIface]) ∧ OwnSets w' 0 v' [1, 6]) ∧ Kept w w' :=
  cuts_ok v exF 3 5 [[1, 2], [1, 4], [1, 6]] w ok_ex hs fams_ex fun W hW => fam_ex_at v W (hv.kept hW)
theorem lit_at (w : World) : RowsAt IntsAt ((((w.alloc (.cells #[.int .i64 1, .int .i64 2] 3)).alloc (.cells #[.int .i64 1, .int .i64 4] 3)).alloc (.cells #[.int .i64 1, .int .i64 6] 3)).alloc (.cells #[.slice (some ⟨w.heap.size, 0, none⟩) 2 2, .slice (some ⟨w.heap.size + 1, 0, none⟩) 2 2, .slice (some ⟨w.heap.size + 1 + 1, 0, none⟩) 2 2] 27)) (.slice (some ⟨w.heap.size + 1 + 1 + 1, 0, none⟩) 3 3) [[1, 2], [1, 4], [1, 6]] := by
  generalize hW : World.alloc _ (.cells #[_, _, _] 27) = W
  have hs : ∀ (j : Nat) (u : Value), (#[.slice (some ⟨w.heap.size, 0, none⟩) 2 2, .slice (some ⟨w.heap.size + 1, 0, none⟩) 2 2, .slice (some ⟨w.heap.size + 1 + 1, 0, none⟩) 2 2] : Array Value)[j]? = some u → W.cell? ⟨w.heap.size + 1 + 1 + 1, j, none⟩ = some u := by
    intro j u h
    rw [← hW]
    exact alloc_cell (by simp [World.size_alloc]) h
  have h1 : IntsAt W (.slice (some ⟨w.heap.size, 0, none⟩) 2 2) [1, 2] := pair_at (by rw [← hW]; exact Kept.cell ((((Kept.refl _).alloc _).alloc _).alloc _) (alloc_cell rfl rfl)) (by rw [← hW]; exact Kept.cell ((((Kept.refl _).alloc _).alloc _).alloc _) (alloc_cell rfl rfl))
  have h2 : IntsAt W (.slice (some ⟨w.heap.size + 1, 0, none⟩) 2 2) [1, 4] := pair_at (by rw [← hW]; exact Kept.cell (((Kept.refl _).alloc _).alloc _) (alloc_cell (by simp [World.size_alloc]) rfl)) (by rw [← hW]; exact Kept.cell (((Kept.refl _).alloc _).alloc _) (alloc_cell (by simp [World.size_alloc]) rfl))
  have h3 : IntsAt W (.slice (some ⟨w.heap.size + 1 + 1, 0, none⟩) 2 2) [1, 6] := pair_at (by rw [← hW]; exact Kept.cell ((Kept.refl _).alloc _) (alloc_cell (by simp [World.size_alloc]) rfl)) (by rw [← hW]; exact Kept.cell ((Kept.refl _).alloc _) (alloc_cell (by simp [World.size_alloc]) rfl))
  refine ⟨_, 3, rfl, ⟨Nat.le_refl _, fun h => by cases h⟩, by simp, fun i hi => ⟨w.heap.size + 1 + 1 + 1, 0, ?_⟩⟩
  match i, hi with
  | 0, _ => exact ⟨_, rfl, hs 0 _ rfl, h1⟩
  | 1, _ => exact ⟨_, rfl, hs 1 _ rfl, h2⟩
  | 2, _ => exact ⟨_, rfl, hs 2 _ rfl, h3⟩
theorem rows_true {l : List (List Int)} (va vb : Value) (w : World) (ha : RowsAt IntsAt w va l) (hb : RowsAt IntsAt w vb l) : Calls Try.prog 25 #[va, vb] w fun e w' => e = .returned (.bool true) ∧ Kept w w' := by
  have h := rows_eq l l va vb w ha hb
  rw [decide_eq_true rfl] at h
  exact h
theorem ints_true {l : List Int} (va vb : Value) (w : World) (ha : IntsAt w va l) (hb : IntsAt w vb l) : Calls Try.prog 22 #[va, vb] w fun e w' => e = .returned (.bool true) ∧ Kept w w' := by
  have h := ints_at l l va vb w ha hb
  rw [decide_eq_true rfl] at h
  exact h
theorem RowsAt.keptI {w w' : World} {v : Value} {l : List (List Int)} (h : RowsAt IntsAt w v l) (hk : Kept w w') : RowsAt IntsAt w' v l := RowsAt.kept (fun _ _ _ _ h k => h.kept k) h hk
theorem pair_new (w : World) (x y : Int) : IntsAt (w.alloc (.cells #[.int .i64 x, .int .i64 y] 3)) (.slice (some ⟨w.heap.size, 0, none⟩) 2 2) [x, y] := pair_at (alloc_cell rfl rfl) (alloc_cell rfl rfl)
set_option maxRecDepth 100000 in
set_option maxHeartbeats 1000000 in
theorem awake_ok (w : World) : Calls Try.prog 16 #[] w fun e w' => e = .returned (.bool true) ∧ Kept w w' := by
  go_enter Try.func16, Try.ntmps16
  go_wp2_with (go_at_call 47; refine (example_ok _).mono ?_; rintro e w1 ⟨⟨v1, rfl, ⟨a1, n1, c1, rfl⟩, hn1⟩, hk1⟩; have HN1 := Lib.hid hn1; clear hn1)
  refine (fam_ex_at _ _ HN1.out).mono ?_
  rintro e w2 ⟨⟨v2, rfl, ho2⟩, hk2⟩
  obtain ⟨g2, cap2, rfl, hg2, hg2', hc2⟩ := ho2.shape (by simp)
  have HO2 := Lib.hid ho2
  clear ho2
  go_wp2_with (go_at_call 47; refine (example_ok _).mono ?_; rintro e w3 ⟨⟨v3, rfl, ⟨a3, n3, c3, rfl⟩, hn3⟩, hk3⟩; have HN3 := Lib.hid hn3; clear hn3)
  refine (cut_ex_at _ _ ⟨_, _, _, rfl⟩ HN3.out).mono ?_
  rintro e w4 ⟨⟨v4, rfl, ho4⟩, hk4⟩
  obtain ⟨a4, n4, c4, rfl⟩ := ho4.1.ints.shape
  have HR4 := Lib.hid (ofN_rows ((((HO2.out.kept hk3).kept hk4)).at))
  have HO4 := Lib.hid ho4
  clear ho4
  go_wp2_with (first
    | (go_at_call 25; refine (rows_true _ _ _ (HR4.out.keptI (((((Kept.refl _).alloc _).alloc _).alloc _).alloc _)) (lit_at _)).mono ?_; rintro e w5 ⟨rfl, hk5⟩)
    | (go_at_call 22; refine (ints_true _ _ _ (HO4.out.1.ints.kept (((((((Kept.refl _).alloc _).alloc _).alloc _).alloc _).trans hk5).alloc _)) (pair_new _ _ _)).mono ?_; rintro e w6 ⟨rfl, hk6⟩))
  go_ret
  exact ⟨rfl, (((hk1.trans hk2).trans hk3).trans hk4).trans (((((((Kept.refl _).alloc _).alloc _).alloc _).alloc _).trans hk5).trans (((Kept.refl _).alloc _).trans hk6))⟩
end Go.Proofs.Ytcgfjacidjebaaa
