/-
  Walks: faultlinebase.Clip, faultlinelaw31.Heavy.
-/
import Derived.Test.YtcgfjacidjebaaaE6
import Derived.Test.YtcgfjacidjebaaaF1
namespace Go.Proofs.Ytcgfjacidjebaaa
open Go.RowKit

theorem clip_any (k : Int) (w : World) : Calls Try.prog 48 #[.int .i64 k, .int .i64 1, .int .i64 16] w fun e w' => (∃ z, e = .returned (.int .i64 z)) ∧ Kept w w' := by
  go_enter Try.func48, Try.ntmps48
  go_wp2
  all_goals (go_ret; exact ⟨⟨_, rfl⟩, Kept.refl _⟩)
set_option maxRecDepth 100000 in
set_option maxHeartbeats 2000000 in
theorem heavy_any (v : Value) (f : Fm) (w : World) (hv : NodesAt w v f.nodes) :
    Calls Try.prog 17 #[fmV v f] w fun e w' => (∃ b, e = .returned (.bool b)) ∧ Kept w w' := by
  obtain ⟨a, c, rfl, _, hl, hx⟩ := hv
  obtain ⟨n, hn⟩ : ∃ n, n = f.nodes.length := ⟨_, rfl⟩
  rw [← hn] at hl ⊢
  obtain ⟨vars, nodes, top⟩ := f
  have HX := Lib.hid hx
  have HN := Lib.hid hn
  clear hx hn
  show Calls _ _ #[.agg #[.int .i64 vars, .slice a n c, .int .i64 top]] _ _
  go_enter Try.func17, Try.ntmps17
  go_wp2
  all_goals first
    | (go_ret; exact ⟨by simp, (Kept.refl _).alloc _⟩)
    | skip
  all_goals
    go_loopw [3, 4, 36] (fun p q i wr => ∃ (k : Nat) (x y : Int), k ≤ n ∧ i = .int .i64 k ∧ p = .int .i64 x ∧ q = .int .i64 y ∧ Kept w wr) (fun _ _ i _ => n - (intOf i).toNat)
    case atStart => exact ⟨0, 0, 0, Nat.zero_le _, rfl, rfl, rfl, (Kept.refl _).alloc _⟩
    case round =>
      obtain ⟨k, x, y, hk, rfl, rfl, rfl, hK⟩ := hrel
      by_cases hlt : k < n
      · obtain ⟨b, o, rfl, u, h1, h2, h3, h4⟩ := HX.out k (by have := HN.out; omega)
        obtain ⟨ax, cx, rfl, _, hlx, hcx⟩ := h4
        have hrange := Lib.hid (node_range (hK.cell h1) (hK.cell h2) (hK.cell h3))
        clear hcx h1 h2 h3
        generalize nodes[k].kind = kd at hrange
        generalize nodes[k].k = kk at hrange
        generalize nodes[k].args.length = na at hrange hlx
        by_cases hv4 : kd = 4
        · subst hv4
          go_wp2_with (with_reducible refine wpList_load_mid rfl 47 _ rfl b (o + k * 3) rfl _ _ hrange.out Try.underlying47 rfl (by kernel_rfl) ?_)
          have d1 : (wr.alloc (.cells #[.int .i64 4, .int .i64 kk, .slice ax na cx] 47)).cell? ⟨wr.heap.size, 1, none⟩ = some (.int .i64 kk) := by simp
          have d2 : (wr.alloc (.cells #[.int .i64 4, .int .i64 kk, .slice ax na cx] 47)).cell? ⟨wr.heap.size, 2, none⟩ = some (.slice ax na cx) := by simp
          go_region_held3 (fun w' => w'.cell? ⟨wr.heap.size, 1, none⟩ = some (.int .i64 kk) ∧ w'.cell? ⟨wr.heap.size, 2, none⟩ = some (.slice ax na cx))
            (first | go_keep | exact ⟨hk5.cell d1, hk5.cell d2⟩)
            (first | (go_at_call 48; refine (clip_any kk _).mono ?_; rintro e w5 ⟨⟨z, rfl⟩, hk5⟩))
          go_wp2
          go_roundw
          case rel => exact ⟨k + 1, _, _, by omega, by simp, rfl, rfl, (hK.alloc _).trans ((Kept.refl _).drew.trans hk5)⟩
          case measure => simp [intOf]; omega
        · have e4 : (kd == 4) = false := by simpa using hv4
          go_wp2_with (with_reducible refine wpList_load_mid rfl 47 _ rfl b (o + k * 3) rfl _ _ hrange.out Try.underlying47 rfl (by kernel_rfl) ?_)
          go_roundw
          case rel => exact ⟨k + 1, _, _, by omega, by simp, rfl, rfl, hK.alloc _⟩
          case measure => simp [intOf]; omega
      · go_wp2
        all_goals (try go_quiet (fail))
        all_goals (try go_wp2)
        all_goals (go_ret; first | exact ⟨⟨_, rfl⟩, hK⟩ | exact ⟨.inl rfl, hK⟩ | exact ⟨.inr rfl, hK⟩)
end Go.Proofs.Ytcgfjacidjebaaa
