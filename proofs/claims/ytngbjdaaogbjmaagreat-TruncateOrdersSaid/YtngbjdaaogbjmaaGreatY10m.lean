import Derived.Test.YtngbjdaaogbjmaaGreatK5
import Derived.Test.YtngbjdaaogbjmaaGreatK2
/-
  Walks: truncate.coherently; ByOrder's closure.
-/
namespace Go.Proofs.YtngbjdaaogbjmaaGreat.Tr
open Go.RowKit

set_option maxRecDepth 100000 in
theorem coher_err (v : Value) (f : Fm) (w : World) (hv : NodesAt w v f.nodes) (ht : f.top ≤ 9223372036854775807) (hck : chkF f ≠ 0) :
    Calls Tryz.prog 37 #[fmV v f] w fun e w' => e = .returned (errV (chkF f)) ∧ Kept w w' := by
  have HC := Lib.hid (fun W (hk : Kept w W) => check_any v f W (hv.kept hk) ht)
  have E2 := Lib.hid (errV_pos hck)
  obtain ⟨q, hq⟩ : ∃ q, q = chkF f := ⟨_, rfl⟩
  obtain ⟨a, c, rfl, hrest⟩ := hv
  clear hrest ht hck
  generalize f.nodes.length = n at *
  obtain ⟨vars, nodes, top⟩ := f
  unfold fmV at *
  simp only at HC E2 ⊢
  rw [← hq] at HC E2 ⊢
  clear hq
  rw [E2.out] at HC ⊢
  go_enter Tryz.func37, Tryz.ntmps37
  go_wp2_with (go_at_call 16; refine (HC.out _ ((Kept.refl _).alloc _)).mono ?_; rintro e w1 ⟨rfl, hk1⟩)
  go_ret
  exact ⟨rfl, ((Kept.refl _).alloc _).trans hk1⟩
set_option maxRecDepth 100000 in
theorem coher_ok (v : Value) (f : Fm) (V T : Nat) (w : World) (hv : NodesAt w v f.nodes) (hok : Ok f V T) (hck : chkF f = 0) :
    Calls Tryz.prog 37 #[.agg #[.int .i64 V, v, .int .i64 T]] w fun e w' => e = .returned (errV (if synK V T f = true then 0 else 7)) ∧ Kept w w' := by
  have hfm : fmV v f = .agg #[.int .i64 V, v, .int .i64 T] := by unfold fmV; rw [hok.vars, hok.top]
  have HC : Hid (∀ W, Kept w W → Calls Tryz.prog 16 #[.agg #[.int .i64 V, v, .int .i64 T]] W fun e w' => e = .returned .nilIface ∧ Kept W w') := Lib.hid fun W hk => by
    have h := check_any v f W (hv.kept hk) (by rw [hok.top]; have := hok.tlt; have := hok.n128; have := hok.v24; omega)
    rw [hck, hfm] at h
    exact h
  have HSY := Lib.hid (fun W (hk : Kept w W) => syntax_ok v f V T W (hv.kept hk) hok hck)
  obtain ⟨b, hb⟩ : ∃ b, b = synK V T f := ⟨_, rfl⟩
  rw [← hb] at HSY ⊢
  obtain ⟨a, c, rfl, hrest⟩ := hv
  clear hrest hok hck hfm hb
  generalize f.nodes.length = n at *
  cases b with
  | true =>
    rw [if_pos rfl, errV_zero]
    go_enter Tryz.func37, Tryz.ntmps37
    go_wp2_with (go_at_call 16; refine (HC.out _ ((Kept.refl _).alloc _)).mono ?_; rintro e w1 ⟨rfl, hk1⟩; obtain ⟨c0, c1, c2⟩ := fm_cells hk1; have K1 := Lib.hid (((Kept.refl _).alloc _).trans hk1); clear hk1)
    refine (HSY.out _ K1.out).mono ?_
    rintro e w2 ⟨rfl, hk2⟩
    go_wp2
    go_ret
    exact ⟨rfl, K1.out.trans hk2⟩
  | false =>
    rw [if_neg (by decide), errV_pos (by decide)]
    go_enter Tryz.func37, Tryz.ntmps37
    go_wp2_with (go_at_call 16; refine (HC.out _ ((Kept.refl _).alloc _)).mono ?_; rintro e w1 ⟨rfl, hk1⟩; obtain ⟨c0, c1, c2⟩ := fm_cells hk1; have K1 := Lib.hid (((Kept.refl _).alloc _).trans hk1); clear hk1)
    refine (HSY.out _ K1.out).mono ?_
    rintro e w2 ⟨rfl, hk2⟩
    go_wp2
    go_ret
    exact ⟨rfl, K1.out.trans hk2⟩
/-- Too many events. -/
def overP (k : Int) (e : Nat) : Bool := decide (k < pc e)
set_option maxRecDepth 100000 in
theorem over_any (k : Int) (e bk : Nat) (w : World) (hk : w.cell? ⟨bk, 0, none⟩ = some (.int .i64 k)) (he : Mk e) :
    Calls Tryz.prog 39 #[.int .i64 e, .pointer (some ⟨bk, 0, none⟩)] w fun e' w' => e' = .returned (.bool (overP k e)) ∧ Kept w w' := by
  have HC : Hid (∀ W, Calls Tryz.prog 19 #[.int .i64 e] W fun e' w' => e' = .returned (.int .i64 (pc e)) ∧ W = w') := Lib.hid fun W => (count_any he W).mono fun _ _ h => ⟨h.1, h.2⟩
  unfold overP
  generalize pc e = q at *
  have hk2 := ((Kept.refl w).drew).cell hk
  clear he
  go_enter Tryz.func39, Tryz.ntmps39
  go_wp2
  go_region_with (go_at_call 19; (with_reducible refine (HC.out _).mono ?_); rintro e w3 ⟨rfl, rfl⟩)
  all_goals go_wp2
  all_goals go_ret
  all_goals exact ⟨rfl, (Kept.refl _).drew⟩
end Go.Proofs.YtngbjdaaogbjmaaGreat.Tr
