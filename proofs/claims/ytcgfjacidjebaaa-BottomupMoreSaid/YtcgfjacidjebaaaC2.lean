/-
  Walks: formula.checkNode.
-/
import Derived.Test.YtcgfjacidjebaaaC1
namespace Go.Proofs.Ytcgfjacidjebaaa
open Go.RowKit

set_option maxHeartbeats 4000000 in
theorem checkNode_any (vars top : Int) (v : Value) (xs : List Nd) (i : Nat) (w : World) (hv : NodesAt w v xs) (hi : i < xs.length) (h0 : 0 ≤ vars) (h24 : vars ≤ 24) (hi9 : i ≤ 1000) :
    Calls Try.prog 58 #[.agg #[.int .i64 vars, v, .int .i64 top], .int .i64 i] w fun e w' => e = .returned (errV (chkNd (vars + i) xs[i])) ∧ Kept w w' := by
  obtain ⟨a, c, rfl, _, hl, hx⟩ := hv
  obtain ⟨b, o, rfl, u, hc1, hc2, hc3, hI⟩ := hx i hi
  obtain ⟨nl, hnl⟩ : ∃ nl, nl = xs.length := ⟨_, rfl⟩
  obtain ⟨x, hxx⟩ : ∃ x, x = xs[i] := ⟨_, rfl⟩
  rw [← hxx] at hc1 hc2 hI ⊢
  rw [← hnl] at hi hl ⊢
  obtain ⟨kind, k, args⟩ := x
  obtain ⟨aa, ca, rfl, _, hla, hca⟩ := hI
  simp only at hc1 hc2 hc3
  obtain ⟨n, hn⟩ : ∃ n, n = args.length := ⟨_, rfl⟩
  simp only at hca hla
  rw [← hn] at hc3 hla
  have HC := Lib.hid hca
  have HN := Lib.hid hn
  have hlt : (i : Int) < (nl : Int) := by omega
  have HR := Lib.hid (fun w' (hk : Kept w w') => node_range (hk.cell hc1) (hk.cell hc2) (hk.cell hc3))
  clear hx hxx hca hnl hn hc1 hc2 hc3
  unfold chkNd
  simp only
  by_cases hk : kind < 0 ∨ 5 < kind
  · rw [if_pos hk]
    rcases hk with hk | hk
    all_goals
      go_enter Try.func58, Try.ntmps58
      go_wp2_with (refine wpList_load_mid rfl 47 _ rfl b (o + i * 3) rfl _ _ (HR.out _ ((Kept.refl _).alloc _)) Try.underlying47 rfl (by kernel_rfl) ?_)
      go_ret
      exact ⟨rfl, ((Kept.refl _).alloc _).alloc _⟩
  · rw [if_neg hk]
    have hk1 : ¬ kind < 0 := by omega
    have hk2 : ¬ 5 < kind := by omega
    clear hk
    have HA := Lib.hid (fun W => arguments_any kind n W)
    have hn2 : args.length = n := HN.out.symm
    rw [hn2]
    clear hn2
    cases hao : argsOk kind n with
    | false =>
      rw [if_pos rfl]
      have HAO := Lib.hid hao
      clear hao
      go_enter Try.func58, Try.ntmps58
      go_wp2_with (first
        | (refine wpList_load_mid rfl 47 _ rfl b (o + i * 3) rfl _ _ (HR.out _ ((Kept.refl _).alloc _)) Try.underlying47 rfl (by kernel_rfl) ?_)
        | (go_at_call 83; refine (HA.out _).mono ?_; rintro e w2 ⟨rfl, rfl⟩; rw [HAO.out]))
      go_ret
      exact ⟨rfl, ((Kept.refl _).alloc _).alloc _⟩
    | true =>
      rw [if_neg (by simp)]
      have HAO := Lib.hid hao
      clear hao
      have hsum : vars + (i : Int) ≤ 1024 ∧ 0 ≤ vars + (i : Int) := by omega
      obtain ⟨r, hr⟩ : ∃ r, r = (if args.all (fun a => decide (0 ≤ a ∧ a < vars + (i : Int))) = false then 10 else chkK kind k n) := ⟨_, rfl⟩
      rw [← hr]
      have HRR := Lib.hid hr
      clear hr
      go_enter Try.func58, Try.ntmps58
      go_wp2_with (first
        | (refine wpList_load_mid rfl 47 _ rfl b (o + i * 3) rfl _ _ (HR.out _ ((Kept.refl _).alloc _)) Try.underlying47 rfl (by kernel_rfl) ?_)
        | (go_at_call 83; refine (HA.out _).mono ?_; rintro e w2 ⟨rfl, rfl⟩; rw [HAO.out]))
      go_loop [7, 33] (fun _ j => ∃ q : Nat, q ≤ n ∧ j = .int .i64 q ∧ Hid (∀ x ∈ args.take q, 0 ≤ x ∧ x < vars + (i : Int))) (fun _ j => n - (intOf j).toNat)
      case atStart => exact ⟨0, Nat.zero_le _, rfl, Lib.hid (by simp)⟩
      case round =>
        obtain ⟨q, hq, rfl, HF⟩ := hrel
        by_cases hqn : q < n
        · have hqx : q < args.length := by have := HN.out; omega
          obtain ⟨b2, o2, rfl, hc0⟩ := HC.out q hqx
          have hcell := (((Kept.refl w).alloc (.cells #[.int .i64 vars, .slice (some ⟨b, o, none⟩) nl c, .int .i64 top] 24)).alloc (.cells #[.int .i64 kind, .int .i64 k, .slice (some ⟨b2, o2, none⟩) n ca] 47)).cell hc0
          obtain ⟨y, hy⟩ : ∃ y, y = args[q] := ⟨_, rfl⟩
          rw [← hy] at hcell
          have HY := Lib.hid hy
          clear hc0 hy
          by_cases hy0 : y < 0
          · go_wp2
            go_ret
            refine ⟨?_, ((Kept.refl _).alloc _).alloc _⟩
            rw [HRR.out, if_pos]
            · rfl
            · rw [List.all_eq_false]
              exact ⟨y, by rw [HY.out]; exact List.getElem_mem _, by simp; omega⟩
          · by_cases hy1 : y < vars + (i : Int)
            · go_wp2
              go_round
              case rel =>
                refine ⟨q + 1, by omega, by go_num, Lib.hid ?_⟩
                intro z hz
                rw [List.take_succ_eq_append_getElem hqx] at hz
                rcases List.mem_append.1 hz with hz | hz
                · exact HF.out z hz
                · simp at hz; rw [hz, ← HY.out]; omega
              case measure => simp [intOf]; omega
            · go_wp2
              go_ret
              refine ⟨?_, ((Kept.refl _).alloc _).alloc _⟩
              rw [HRR.out, if_pos]
              · rfl
              · rw [List.all_eq_false]
                exact ⟨y, by rw [HY.out]; exact List.getElem_mem _, by simp; omega⟩
        · have hall : r = chkK kind k n := by
            rw [HRR.out, if_neg]
            have hh := HF.out
            rw [List.take_of_length_le (by have := HN.out; omega)] at hh
            rw [Bool.not_eq_false, List.all_eq_true]
            intro z hz; exact decide_eq_true (hh z hz)
          have HAL := Lib.hid hall
          clear hall
          by_cases e0 : kind = 0
          · by_cases k0 : k = 0
            · subst e0 k0; go_wp2; go_ret; exact ⟨by rw [HAL.out]; rfl, ((Kept.refl _).alloc _).alloc _⟩
            · by_cases k1 : k = 1
              · subst e0 k1; go_wp2; go_ret; exact ⟨by rw [HAL.out]; rfl, ((Kept.refl _).alloc _).alloc _⟩
              · have b0 : (k == 0) = false := by simpa using k0
                have b1 : (k == 1) = false := by simpa using k1
                have b2 : (k != 0) = true := by simpa using k0
                have b3 : (k != 1) = true := by simpa using k1
                subst e0; go_wp2; go_ret; exact ⟨by rw [HAL.out, chkK, if_pos rfl, if_neg (by omega)]; rfl, ((Kept.refl _).alloc _).alloc _⟩
          · by_cases e4 : kind = 4
            · by_cases k0 : 1 ≤ k
              · by_cases k1 : k ≤ n
                · subst e4; go_wp2; go_ret; exact ⟨by rw [HAL.out, chkK, if_neg (by omega), if_pos rfl, if_pos (by omega)]; rfl, ((Kept.refl _).alloc _).alloc _⟩
                · subst e4; go_wp2; go_ret; exact ⟨by rw [HAL.out, chkK, if_neg (by omega), if_pos rfl, if_neg (by omega)]; rfl, ((Kept.refl _).alloc _).alloc _⟩
              · subst e4; go_wp2; go_ret; exact ⟨by rw [HAL.out, chkK, if_neg (by omega), if_pos rfl, if_neg (by omega)]; rfl, ((Kept.refl _).alloc _).alloc _⟩
            · by_cases k0 : k = 0
              · subst k0; go_wp2; go_ret; exact ⟨by rw [HAL.out, chkK, if_neg e0, if_neg e4, if_pos rfl]; rfl, ((Kept.refl _).alloc _).alloc _⟩
              · have b0 : (k == 0) = false := by simpa using k0
                have b2 : (k != 0) = true := by simpa using k0
                go_wp2; go_ret; exact ⟨by rw [HAL.out, chkK, if_neg e0, if_neg e4, if_neg k0]; rfl, ((Kept.refl _).alloc _).alloc _⟩
end Go.Proofs.Ytcgfjacidjebaaa
