import Derived.Test.YtngbjdaaogbjmaaGreatR5m
/-
  Walks: faultlineref08.Valid, Check.
-/
namespace Go.Proofs.YtngbjdaaogbjmaaGreat
open Go.RowKit

set_option maxHeartbeats 1000000 in
theorem rvalidF_any (v : Value) (f : Fm) (w : World) (hv : NodesAt w v f.nodes) (h0 : 0 ≤ f.vars) (h24 : f.vars ≤ 24) (arg : Int) (ht : arg ≤ 9223372036854775807) :
    Calls Tryz.prog 41 #[fmV v f, .int .i64 arg] w fun e w' => e = .returned (.bool (okArg f arg)) ∧ Kept w w' := by
  obtain ⟨a, c, rfl, _, hl, hx⟩ := hv
  obtain ⟨vars, nodes, top⟩ := f
  simp only at hl hx h0 h24
  unfold okArg
  simp only
  clear hx
  obtain ⟨n, hn⟩ : ∃ n, n = nodes.length := ⟨_, rfl⟩
  rw [← hn] at hl ⊢
  clear hn
  by_cases h1 : 0 ≤ arg
  · by_cases h2 : arg < vars
    · rw [decide_eq_true ⟨h0, h1, .inl h2⟩]
      go_enter Tryz.func41, Tryz.ntmps41
      go_wp2
      go_ret
      exact ⟨rfl, (Kept.refl _).alloc _⟩
    · by_cases h3 : arg - vars < n
      · rw [decide_eq_true ⟨h0, h1, .inr h3⟩]
        go_enter Tryz.func41, Tryz.ntmps41
        go_wp2
        go_ret
        exact ⟨rfl, (Kept.refl _).alloc _⟩
      · rw [decide_eq_false (by rintro ⟨_, _, h | h⟩; exact h2 h; exact h3 h)]
        go_enter Tryz.func41, Tryz.ntmps41
        go_wp2
        go_ret
        exact ⟨rfl, (Kept.refl _).alloc _⟩
  · rw [decide_eq_false fun h => h1 h.2.1]
    go_enter Tryz.func41, Tryz.ntmps41
    go_wp2
    go_ret
    exact ⟨rfl, (Kept.refl _).alloc _⟩

set_option maxHeartbeats 4000000 in
theorem rcheck_any (v : Value) (f : Fm) (w : World) (hv : NodesAt w v f.nodes) (ht : f.top ≤ 9223372036854775807) :
    Calls Tryz.prog 12 #[fmV v f] w fun e w' => e = .returned (.int .i64 (chkF f)) ∧ Kept w w' := by
  obtain ⟨r, hr⟩ : ∃ r, r = chkF f := ⟨_, rfl⟩
  rw [← hr]
  have HV := Lib.hid hv
  have HRR := Lib.hid hr
  obtain ⟨a, c, rfl, _, hl, hx⟩ := hv
  obtain ⟨n, hn⟩ : ∃ n, n = f.nodes.length := ⟨_, rfl⟩
  rw [← hn] at hl HV ⊢
  have HN := Lib.hid hn
  obtain ⟨vars, hvars⟩ : ∃ x, x = f.vars := ⟨_, rfl⟩
  obtain ⟨top, htop⟩ : ∃ x, x = f.top := ⟨_, rfl⟩
  rw [← htop] at ht
  have HVA := Lib.hid hvars
  have HTO := Lib.hid htop
  unfold fmV
  rw [← hvars, ← htop]
  clear hx hr hn hvars htop
  by_cases h : vars < 0 ∨ 24 < vars
  · have h9 : r = 3 := by rw [HRR.out, chkF, if_pos (by rw [← HVA.out]; exact h)]
    subst h9
    rcases h with h | h
    all_goals
      go_enter Tryz.func12, Tryz.ntmps12
      go_wp2
      go_ret
      exact ⟨rfl, (Kept.refl _).alloc _⟩
  · have h0 : 0 ≤ vars := by omega
    have h24 : vars ≤ 24 := by omega
    have HH := Lib.hid (show ¬ (f.vars < 0 ∨ 24 < f.vars) by rw [← HVA.out]; exact h)
    clear h
    by_cases hn : 128 < n
    · have h9 : r = 4 := by rw [HRR.out, chkF, if_neg HH.out, if_pos (by rw [← HN.out]; exact hn)]
      subst h9
      go_enter Tryz.func12, Tryz.ntmps12
      go_wp2
      go_ret
      exact ⟨rfl, (Kept.refl _).alloc _⟩
    · have HH2 := Lib.hid (show ¬ 128 < f.nodes.length by rw [← HN.out]; exact hn)
      go_enter Tryz.func12, Tryz.ntmps12
      go_wp2
      go_loopw [3, 4, 20] (fun _ _ i wr => ∃ k : Nat, k ≤ n ∧ i = .int .i64 k ∧ Hid (∀ j (hj : j < f.nodes.length), j < k → chkNd (f.vars + j) f.nodes[j] = 0) ∧ Kept w wr ∧ wr.cell? ⟨w.heap.size, 0, none⟩ = some (.int .i64 vars) ∧ wr.cell? ⟨w.heap.size, 1, none⟩ = some (.slice a n c) ∧ wr.cell? ⟨w.heap.size, 2, none⟩ = some (.int .i64 top)) (fun _ _ i _ => n - (intOf i).toNat)
      case atStart => exact ⟨0, Nat.zero_le _, rfl, Lib.hid (by intro j _ h; omega), (Kept.refl _).alloc _, by simp, by simp, by simp⟩
      case round =>
        obtain ⟨k, hk, rfl, HF, hK, c0, c1, c2⟩ := hrel
        have hload : wr.rangeAt w.heap.size 0 [.int .i64 vars, .slice a n c, .int .i64 top] := by
          intro j v hj
          match j, hj with
          | 0, hj => simp at hj; subst hj; exact c0
          | 1, hj => simp at hj; subst hj; exact c1
          | 2, hj => simp at hj; subst hj; exact c2
        have HLD := Lib.hid hload
        clear hload
        by_cases hlt : k < n
        · have hkx : k < f.nodes.length := by have := HN.out; omega
          have hcall := rnode_any f.vars f.top _ f.nodes k wr (HV.out.kept hK) hkx (by rw [← HVA.out]; exact h0) (by rw [← HVA.out]; exact h24) (by omega)
          rw [← HVA.out, ← HTO.out] at hcall
          obtain ⟨q, hq⟩ : ∃ q, q = chkNd (vars + k) f.nodes[k] := ⟨_, rfl⟩
          rw [← hq] at hcall
          have HQ := Lib.hid hq
          have HCL := Lib.hid hcall
          clear hq hcall
          by_cases hq0 : q = 0
          · subst hq0
            go_wp2_with (first
              | (with_reducible refine wpList_load_mid rfl 24 _ rfl w.heap.size 0 rfl _ _ HLD.out Tryz.underlying24 rfl (by kernel_rfl) ?_)
              | (go_at_call 40; refine HCL.out.mono ?_; rintro e w2 ⟨rfl, hk2⟩))
            go_roundw
            case rel =>
              refine ⟨k + 1, by omega, by go_num, Lib.hid ?_, hK.trans hk2, hk2.cell c0, hk2.cell c1, hk2.cell c2⟩
              intro j hj hjk
              by_cases e : j = k
              · subst e; rw [← HVA.out, ← HQ.out]
              · exact HF.out j hj (by omega)
            case measure => simp [intOf]; omega
          · have hq1 : ((q : Int) == 0) = false := by simp; omega
            have hq2 : ((q : Int) != 0) = true := by simp; omega
            have HQ0 := Lib.hid hq0
            clear hq0
            go_wp2_with (first
              | (with_reducible refine wpList_load_mid rfl 24 _ rfl w.heap.size 0 rfl _ _ HLD.out Tryz.underlying24 rfl (by kernel_rfl) ?_)
              | (go_at_call 40; refine HCL.out.mono ?_; rintro e w2 ⟨rfl, hk2⟩))
            go_ret
            refine ⟨?_, hK.trans hk2⟩
            have e1 := chkFrom_at f.vars f.nodes k hkx (fun j hj => HF.out j (by omega) hj) (by rw [← HVA.out, ← HQ.out]; exact HQ0.out)
            have e2 : r = q := by
              rw [HRR.out, chkF, if_neg HH.out, if_neg HH2.out]
              rw [← HVA.out, ← HQ.out] at e1
              rw [← HVA.out, e1, if_neg HQ0.out]
            rw [e2]; rfl
        · have hall := chkFrom_none f.vars f.nodes (fun j hj => HF.out j hj (by have := HN.out; omega))
          have hrr : r = if okArg f f.top then 0 else 10 := by rw [HRR.out, chkF, if_neg HH.out, if_neg HH2.out, if_pos hall]
          have hcall := rvalidF_any _ f wr (HV.out.kept hK) (by rw [← HVA.out]; exact h0) (by rw [← HVA.out]; exact h24) f.top (by rw [← HTO.out]; exact ht)
          unfold fmV at hcall
          rw [← HTO.out, ← HVA.out] at hcall
          have HCL := Lib.hid hcall
          have HRF := Lib.hid hrr
          clear hcall hrr hall
          cases hok : okArg f top with
          | true =>
            have HOK := Lib.hid hok
            clear hok
            go_wp2_with (first
              | (with_reducible refine wpList_load_mid rfl 24 _ rfl w.heap.size 0 rfl _ _ HLD.out Tryz.underlying24 rfl (by kernel_rfl) ?_)
              | (go_at_call 41; refine HCL.out.mono ?_; rintro e w2 ⟨rfl, hk2⟩; rw [HOK.out]))
            go_ret
            exact ⟨by rw [HRF.out, ← HTO.out, HOK.out]; rfl, hK.trans hk2⟩
          | false =>
            have HOK := Lib.hid hok
            clear hok
            go_wp2_with (first
              | (with_reducible refine wpList_load_mid rfl 24 _ rfl w.heap.size 0 rfl _ _ HLD.out Tryz.underlying24 rfl (by kernel_rfl) ?_)
              | (go_at_call 41; refine HCL.out.mono ?_; rintro e w2 ⟨rfl, hk2⟩; rw [HOK.out]))
            go_ret
            exact ⟨by rw [HRF.out, ← HTO.out, HOK.out]; rfl, hK.trans hk2⟩
end Go.Proofs.YtngbjdaaogbjmaaGreat
