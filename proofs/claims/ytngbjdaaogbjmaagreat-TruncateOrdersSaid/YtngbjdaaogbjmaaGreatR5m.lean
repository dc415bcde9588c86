import Derived.Test.YtngbjdaaogbjmaaGreatK1
/-
  Walks: faultlineref08.Valid, node, Check.
-/
namespace Go.Proofs.YtngbjdaaogbjmaaGreat
open Go.RowKit

theorem argsOk_mid {kind : Int} {n : Nat} (h0 : kind ≠ 0) (h1 : kind ≠ 1) : argsOk kind n = decide (1 ≤ n ∧ n ≤ 16) := by unfold argsOk; rw [if_neg h0, if_neg h1]
set_option maxRecDepth 100000 in
set_option maxHeartbeats 8000000 in
theorem rnode_any (vars top : Int) (v : Value) (xs : List Nd) (i : Nat) (w : World) (hv : NodesAt w v xs) (hi : i < xs.length) (h0 : 0 ≤ vars) (h24 : vars ≤ 24) (hi9 : i ≤ 1000) :
    Calls Tryz.prog 40 #[.agg #[.int .i64 vars, v, .int .i64 top], .int .i64 i] w fun e w' => e = .returned (.int .i64 (chkNd (vars + i) xs[i])) ∧ Kept w w' := by
  obtain ⟨a, c, rfl, _, hl, hx⟩ := hv
  obtain ⟨b, o, rfl, u, hc1, hc2, hc3, hI⟩ := hx i hi
  obtain ⟨nl, hnl⟩ : ∃ nl, nl = xs.length := ⟨_, rfl⟩
  obtain ⟨x, hxx⟩ : ∃ x, x = xs[i] := ⟨_, rfl⟩
  rw [← hxx] at hc1 hc2 hI ⊢
  rw [← hnl] at hi hl ⊢
  obtain ⟨kind, k, args⟩ := x
  obtain ⟨aa, ca, rfl, _, hla, hca⟩ := hI
  simp only at hc1 hc2 hc3
  obtain ⟨n, hn⟩ : ∃ n, n = args.length := ⟨_, rfl⟩
  simp only at hca hla
  rw [← hn] at hc3 hla
  have HC := Lib.hid hca
  have HN := Lib.hid hn
  have hlt : (i : Int) < (nl : Int) := by omega
  have HR := Lib.hid (fun w' (hk : Kept w w') => node_range (hk.cell hc1) (hk.cell hc2) (hk.cell hc3))
  have hsum : vars + (i : Int) ≤ 1024 ∧ 0 ≤ vars + (i : Int) := by omega
  clear hx hxx hca hnl hn hc1 hc2 hc3
  unfold chkNd
  simp only
  by_cases hk : kind < 0 ∨ 5 < kind
  · rw [if_pos hk]
    have e0 : (kind == 0) = false := by simp; omega
    have e1 : (kind == 1) = false := by simp; omega
    have e2 : (kind == 2) = false := by simp; omega
    have e3 : (kind == 3) = false := by simp; omega
    have e4 : (kind == 4) = false := by simp; omega
    have e5 : (kind == 5) = false := by simp; omega
    clear hk
    go_enter Tryz.func40, Tryz.ntmps40
    go_wp2_with (refine wpList_load_mid rfl 70 _ rfl b (o + i * 3) rfl _ _ (HR.out _ ((Kept.refl _).alloc _)) Tryz.underlying70 rfl (by kernel_rfl) ?_)
    go_ret
    exact ⟨rfl, ((Kept.refl _).alloc _).alloc _⟩
  · rw [if_neg hk]
    have hn2 : args.length = n := HN.out.symm
    rw [hn2]
    clear hn2
    cases hao : argsOk kind n with
    | false =>
      rw [if_pos rfl]
      have hcs : (kind = 0 ∧ 0 < n) ∨ (kind = 1 ∧ n < 1) ∨ (kind = 1 ∧ 1 < n) ∨ ((kind = 2 ∨ kind = 3 ∨ kind = 4 ∨ kind = 5) ∧ n < 1) ∨ ((kind = 2 ∨ kind = 3 ∨ kind = 4 ∨ kind = 5) ∧ 16 < n) := by
        unfold argsOk at hao
        split at hao
        · simp at hao; omega
        · split at hao
          · simp at hao; omega
          · simp at hao; omega
      clear hao hk
      rcases hcs with ⟨rfl, h⟩ | ⟨rfl, h⟩ | ⟨rfl, h⟩ | ⟨(rfl | rfl | rfl | rfl), h⟩ | ⟨(rfl | rfl | rfl | rfl), h⟩
      · have h' : (0 : Int) < (n : Int) := by omega
        clear h
        go_enter Tryz.func40, Tryz.ntmps40
        go_wp2_with (refine wpList_load_mid rfl 70 _ rfl b (o + i * 3) rfl _ _ (HR.out _ ((Kept.refl _).alloc _)) Tryz.underlying70 rfl (by kernel_rfl) ?_)
        go_ret
        exact ⟨rfl, ((Kept.refl _).alloc _).alloc _⟩
      · have h' : (n : Int) < 1 := by omega
        clear h
        go_enter Tryz.func40, Tryz.ntmps40
        go_wp2_with (refine wpList_load_mid rfl 70 _ rfl b (o + i * 3) rfl _ _ (HR.out _ ((Kept.refl _).alloc _)) Tryz.underlying70 rfl (by kernel_rfl) ?_)
        go_ret
        exact ⟨rfl, ((Kept.refl _).alloc _).alloc _⟩
      · have h' : (1 : Int) < (n : Int) := by omega
        clear h
        go_enter Tryz.func40, Tryz.ntmps40
        go_wp2_with (refine wpList_load_mid rfl 70 _ rfl b (o + i * 3) rfl _ _ (HR.out _ ((Kept.refl _).alloc _)) Tryz.underlying70 rfl (by kernel_rfl) ?_)
        go_ret
        exact ⟨rfl, ((Kept.refl _).alloc _).alloc _⟩
      · have h' : (n : Int) < 1 := by omega
        clear h
        go_enter Tryz.func40, Tryz.ntmps40
        go_wp2_with (refine wpList_load_mid rfl 70 _ rfl b (o + i * 3) rfl _ _ (HR.out _ ((Kept.refl _).alloc _)) Tryz.underlying70 rfl (by kernel_rfl) ?_)
        go_ret
        exact ⟨rfl, ((Kept.refl _).alloc _).alloc _⟩
      · have h' : (n : Int) < 1 := by omega
        clear h
        go_enter Tryz.func40, Tryz.ntmps40
        go_wp2_with (refine wpList_load_mid rfl 70 _ rfl b (o + i * 3) rfl _ _ (HR.out _ ((Kept.refl _).alloc _)) Tryz.underlying70 rfl (by kernel_rfl) ?_)
        go_ret
        exact ⟨rfl, ((Kept.refl _).alloc _).alloc _⟩
      · have h' : (n : Int) < 1 := by omega
        clear h
        go_enter Tryz.func40, Tryz.ntmps40
        go_wp2_with (refine wpList_load_mid rfl 70 _ rfl b (o + i * 3) rfl _ _ (HR.out _ ((Kept.refl _).alloc _)) Tryz.underlying70 rfl (by kernel_rfl) ?_)
        go_ret
        exact ⟨rfl, ((Kept.refl _).alloc _).alloc _⟩
      · have h' : (n : Int) < 1 := by omega
        clear h
        go_enter Tryz.func40, Tryz.ntmps40
        go_wp2_with (refine wpList_load_mid rfl 70 _ rfl b (o + i * 3) rfl _ _ (HR.out _ ((Kept.refl _).alloc _)) Tryz.underlying70 rfl (by kernel_rfl) ?_)
        go_ret
        exact ⟨rfl, ((Kept.refl _).alloc _).alloc _⟩
      all_goals
        have h' : (16 : Int) < (n : Int) := by omega
        clear h
        go_enter Tryz.func40, Tryz.ntmps40
        go_wp2_with (refine wpList_load_mid rfl 70 _ rfl b (o + i * 3) rfl _ _ (HR.out _ ((Kept.refl _).alloc _)) Tryz.underlying70 rfl (by kernel_rfl) ?_)
        go_ret
        exact ⟨rfl, ((Kept.refl _).alloc _).alloc _⟩
    | true =>
      rw [if_neg (by simp)]
      have hcs : (kind = 0 ∨ kind = 1 ∨ kind = 2 ∨ kind = 3 ∨ kind = 4 ∨ kind = 5) ∧ (kind = 0 → (n : Int) ≤ 0) ∧ (kind ≠ 0 → (1 : Int) ≤ (n : Int)) ∧ (kind = 1 → (n : Int) ≤ 1) ∧ (n : Int) ≤ 16 := by
        unfold argsOk at hao
        split at hao
        · simp at hao; omega
        · split at hao
          · simp at hao; omega
          · simp at hao; omega
      obtain ⟨r, hr⟩ : ∃ r, r = (if args.all (fun a => decide (0 ≤ a ∧ a < vars + (i : Int))) = false then 10 else chkK kind k n) := ⟨_, rfl⟩
      rw [← hr]
      have HRR := Lib.hid hr
      clear hr hao hk
      obtain ⟨hcs, q0, q1, q2, q3⟩ := hcs
      rcases hcs with rfl | rfl | rfl | rfl | rfl | rfl
      · have q0' := q0 rfl
        clear q0 q1 q2
        go_enter Tryz.func40, Tryz.ntmps40
        go_wp2_with (refine wpList_load_mid rfl 70 _ rfl b (o + i * 3) rfl _ _ (HR.out _ ((Kept.refl _).alloc _)) Tryz.underlying70 rfl (by kernel_rfl) ?_)
        go_loop [9, 41] (fun _ j => ∃ q : Nat, q ≤ n ∧ j = .int .i64 q ∧ Hid (∀ x ∈ args.take q, 0 ≤ x ∧ x < vars + (i : Int))) (fun _ j => n - (intOf j).toNat)
        case atStart => exact ⟨0, Nat.zero_le _, rfl, Lib.hid (by simp)⟩
        case round =>
          obtain ⟨q, hq, rfl, HF⟩ := hrel
          have hqn : ¬ q < n := by omega
          have hall := HRR.out
          rw [if_neg (by
            have hh := HF.out
            rw [List.take_of_length_le (by have := HN.out; omega)] at hh
            rw [Bool.not_eq_false, List.all_eq_true]
            intro z hz; exact decide_eq_true (hh z hz))] at hall
          unfold chkK at hall
          by_cases k0 : k = 0
          · subst k0
            simp at hall
            subst hall
            go_wp2; go_ret; exact ⟨rfl, ((Kept.refl _).alloc _).alloc _⟩
          · have b0 : (k == 0) = false := by simpa using k0
            have b2 : (k != 0) = true := by simpa using k0
            by_cases k1 : k = 1
            · subst k1
              simp at hall
              try rw [if_pos (by omega)] at hall
              subst hall
              clear b0 b2 k0
              go_wp2; go_ret; exact ⟨rfl, ((Kept.refl _).alloc _).alloc _⟩
            · have b1 : (k == 1) = false := by simpa using k1
              have b3 : (k != 1) = true := by simpa using k1
              simp [k0, k1] at hall
              subst hall
              clear k0 k1
              go_wp2; go_ret; exact ⟨rfl, ((Kept.refl _).alloc _).alloc _⟩
      all_goals
        have q0' := Lib.hid q0
        simp at q0 q1 q2
        go_enter Tryz.func40, Tryz.ntmps40
        go_wp2_with (refine wpList_load_mid rfl 70 _ rfl b (o + i * 3) rfl _ _ (HR.out _ ((Kept.refl _).alloc _)) Tryz.underlying70 rfl (by kernel_rfl) ?_)
        go_loop [9, 41] (fun _ j => ∃ q : Nat, q ≤ n ∧ j = .int .i64 q ∧ Hid (∀ x ∈ args.take q, 0 ≤ x ∧ x < vars + (i : Int))) (fun _ j => n - (intOf j).toNat)
        case atStart => exact ⟨0, Nat.zero_le _, rfl, Lib.hid (by simp)⟩
        case round =>
          obtain ⟨q, hq, rfl, HF⟩ := hrel
          by_cases hqn : q < n
          · have hqx : q < args.length := by have := HN.out; omega
            obtain ⟨b2, o2, rfl, hc0⟩ := HC.out q hqx
            have hcell := fun X Y => (((Kept.refl w).alloc X).alloc Y).cell hc0
            obtain ⟨y, hy⟩ : ∃ y, y = args[q] := ⟨_, rfl⟩
            rw [← hy] at hcell
            have HY := Lib.hid hy
            have hcell2 := hcell (.cells #[.int .i64 vars, .slice (some ⟨b, o, none⟩) nl c, .int .i64 top] 24)
            have hcell3 := fun kk => hcell2 (.cells #[.int .i64 kk, .int .i64 k, .slice (some ⟨b2, o2, none⟩) n ca] 70)
            have g0 := hcell3 0
            have g1 := hcell3 1
            have g2 := hcell3 2
            have g3 := hcell3 3
            have g4 := hcell3 4
            have g5 := hcell3 5
            clear hc0 hy hcell hcell2 hcell3
            by_cases hy0 : y < 0
            · go_wp2
              go_ret
              refine ⟨?_, ((Kept.refl _).alloc _).alloc _⟩
              rw [HRR.out, if_pos]
              · rfl
              · rw [List.all_eq_false]
                exact ⟨y, by rw [HY.out]; exact List.getElem_mem _, by simp; omega⟩
            · by_cases hy1 : y < vars + (i : Int)
              · go_wp2
                go_round
                case rel =>
                  refine ⟨q + 1, by omega, by go_num, Lib.hid ?_⟩
                  intro z hz
                  rw [List.take_succ_eq_append_getElem hqx] at hz
                  rcases List.mem_append.1 hz with hz | hz
                  · exact HF.out z hz
                  · simp at hz; rw [hz, ← HY.out]; omega
                case measure => simp [intOf]; omega
              · go_wp2
                go_ret
                refine ⟨?_, ((Kept.refl _).alloc _).alloc _⟩
                rw [HRR.out, if_pos]
                · rfl
                · rw [List.all_eq_false]
                  exact ⟨y, by rw [HY.out]; exact List.getElem_mem _, by simp; omega⟩
          · have hall := HRR.out
            rw [if_neg (by
              have hh := HF.out
              rw [List.take_of_length_le (by have := HN.out; omega)] at hh
              rw [Bool.not_eq_false, List.all_eq_true]
              intro z hz; exact decide_eq_true (hh z hz))] at hall
            unfold chkK at hall
            by_cases k0 : k = 0
            · subst k0
              simp at hall
              subst hall
              go_wp2; go_ret; exact ⟨rfl, ((Kept.refl _).alloc _).alloc _⟩
            · have b0 : (k == 0) = false := by simpa using k0
              have b2 : (k != 0) = true := by simpa using k0
              by_cases k1 : k = 1
              · subst k1
                simp at hall
                try rw [if_pos (by omega)] at hall
                subst hall
                clear b0 b2 k0
                go_wp2; go_ret; exact ⟨rfl, ((Kept.refl _).alloc _).alloc _⟩
              · have b1 : (k == 1) = false := by simpa using k1
                have b3 : (k != 1) = true := by simpa using k1
                by_cases k2 : 1 ≤ k
                · by_cases k3 : k ≤ (n : Int)
                  · simp [k0, k2, k3] at hall
                    subst hall
                    clear k0 k1
                    go_wp2; go_ret; exact ⟨rfl, ((Kept.refl _).alloc _).alloc _⟩
                  · simp [k0, k2, k3] at hall
                    subst hall
                    clear k0 k1
                    go_wp2; go_ret; exact ⟨rfl, ((Kept.refl _).alloc _).alloc _⟩
                · simp [k0, k2] at hall
                  subst hall
                  clear k0 k1
                  go_wp2; go_ret; exact ⟨rfl, ((Kept.refl _).alloc _).alloc _⟩
end Go.Proofs.YtngbjdaaogbjmaaGreat
