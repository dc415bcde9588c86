import Derived.Test.YtapniojbnochiaaK1
import Derived.Deep.RegionHeld3
import Derived.Deep.AppendLies
import Derived.Deep.RegionLaw
import Derived.IntWalk
import Derived.StillTailTactics
/-
  Walks: formula.checkNode.
-/
namespace Go.Proofs.Ytapniojbnochiaa
open Go.RowKit

set_option maxHeartbeats 4000000 in
theorem checkNode_any (vars top : Int) (v : Value) (xs : List Nd) (i : Nat) (w : World) (hv : NodesAt w v xs) (hi : i < xs.length) (h0 : 0 ≤ vars) (h24 : vars ≤ 24) (hi9 : i ≤ 1000) :
    Calls Try.prog 62 #[.agg #[.int .i64 vars, v, .int .i64 top], .int .i64 i] w fun e w' => e = .returned (errV (chkNd (vars + i) xs[i])) ∧ Kept w w' := by
  obtain ⟨a, c, rfl, _, hl, hx⟩ := hv
  obtain ⟨b, o, rfl, u, hc1, hc2, hc3, hI⟩ := hx i hi
  obtain ⟨nl, hnl⟩ : ∃ nl, nl = xs.length := ⟨_, rfl⟩
  obtain ⟨x, hxx⟩ : ∃ x, x = xs[i] := ⟨_, rfl⟩
  rw [← hxx] at hc1 hc2 hI ⊢
  rw [← hnl] at hi hl ⊢
  obtain ⟨kind, k, args⟩ := x
  obtain ⟨aa, ca, rfl, _, hla, hca⟩ := hI
  simp only at hc1 hc2 hc3
  obtain ⟨n, hn⟩ : ∃ n, n = args.length := ⟨_, rfl⟩
  simp only at hca hla
  rw [← hn] at hc3 hla
  have HC := Lib.hid hca
  have HN := Lib.hid hn
  have hlt : (i : Int) < (nl : Int) := by omega
  have HR := Lib.hid (fun w' (hk : Kept w w') => node_range (hk.cell hc1) (hk.cell hc2) (hk.cell hc3))
  clear hx hxx hca hnl hn hc1 hc2 hc3
  unfold chkNd
  simp only
  by_cases hk : kind < 0 ∨ 5 < kind
  · rw [if_pos hk]
    rcases hk with hk | hk
    all_goals
      go_enter Try.func62, Try.ntmps62
      go_wp2_with (refine wpList_load_mid rfl 47 _ rfl b (o + i * 3) rfl _ _ (HR.out _ ((Kept.refl _).alloc _)) Try.underlying47 rfl (by kernel_rfl) ?_)
      go_ret
      exact ⟨rfl, ((Kept.refl _).alloc _).alloc _⟩
  · rw [if_neg hk]
    have hk1 : ¬ kind < 0 := by omega
    have hk2 : ¬ 5 < kind := by omega
    clear hk
    have HA := Lib.hid (fun W => arguments_any kind n W)
    have hn2 : args.length = n := HN.out.symm
    rw [hn2]
    clear hn2
    cases hao : argsOk kind n with
    | false =>
      rw [if_pos rfl]
      have HAO := Lib.hid hao
      clear hao
      go_enter Try.func62, Try.ntmps62
      go_wp2_with (first
        | (refine wpList_load_mid rfl 47 _ rfl b (o + i * 3) rfl _ _ (HR.out _ ((Kept.refl _).alloc _)) Try.underlying47 rfl (by kernel_rfl) ?_)
        | (go_at_call 91; refine (HA.out _).mono ?_; rintro e w2 ⟨rfl, rfl⟩; rw [HAO.out]))
      go_ret
      exact ⟨rfl, ((Kept.refl _).alloc _).alloc _⟩
    | true =>
      rw [if_neg (by simp)]
      have HAO := Lib.hid hao
      clear hao
      have hsum : vars + (i : Int) ≤ 1024 ∧ 0 ≤ vars + (i : Int) := by omega
      obtain ⟨r, hr⟩ : ∃ r, r = (if args.all (fun a => decide (0 ≤ a ∧ a < vars + (i : Int))) = false then 10 else chkK kind k n) := ⟨_, rfl⟩
      rw [← hr]
      have HRR := Lib.hid hr
      clear hr
      go_enter Try.func62, Try.ntmps62
      go_wp2_with (first
        | (refine wpList_load_mid rfl 47 _ rfl b (o + i * 3) rfl _ _ (HR.out _ ((Kept.refl _).alloc _)) Try.underlying47 rfl (by kernel_rfl) ?_)
        | (go_at_call 91; refine (HA.out _).mono ?_; rintro e w2 ⟨rfl, rfl⟩; rw [HAO.out]))
      go_loop [7, 33] (fun _ j => ∃ q : Nat, q ≤ n ∧ j = .int .i64 q ∧ Hid (∀ x ∈ args.take q, 0 ≤ x ∧ x < vars + (i : Int))) (fun _ j => n - (intOf j).toNat)
      case atStart => exact ⟨0, Nat.zero_le _, rfl, Lib.hid (by simp)⟩
      case round =>
        obtain ⟨q, hq, rfl, HF⟩ := hrel
        by_cases hqn : q < n
        · have hqx : q < args.length := by have := HN.out; omega
          obtain ⟨b2, o2, rfl, hc0⟩ := HC.out q hqx
          have hcell := (((Kept.refl w).alloc (.cells #[.int .i64 vars, .slice (some ⟨b, o, none⟩) nl c, .int .i64 top] 24)).alloc (.cells #[.int .i64 kind, .int .i64 k, .slice (some ⟨b2, o2, none⟩) n ca] 47)).cell hc0
          obtain ⟨y, hy⟩ : ∃ y, y = args[q] := ⟨_, rfl⟩
          rw [← hy] at hcell
          have HY := Lib.hid hy
          clear hc0 hy
          by_cases hy0 : y < 0
          · go_wp2
            go_ret
            refine ⟨?_, ((Kept.refl _).alloc _).alloc _⟩
            rw [HRR.out, if_pos]
            · rfl
            · rw [List.all_eq_false]
              exact ⟨y, by rw [HY.out]; exact List.getElem_mem _, by simp; omega⟩
          · by_cases hy1 : y < vars + (i : Int)
            · go_wp2
              go_round
              case rel =>
                refine ⟨q + 1, by omega, by go_num, Lib.hid ?_⟩
                intro z hz
                rw [List.take_succ_eq_append_getElem hqx] at hz
                rcases List.mem_append.1 hz with hz | hz
                · exact HF.out z hz
                · simp at hz; rw [hz, ← HY.out]; omega
              case measure => simp [intOf]; omega
            · go_wp2
              go_ret
              refine ⟨?_, ((Kept.refl _).alloc _).alloc _⟩
              rw [HRR.out, if_pos]
              · rfl
              · rw [List.all_eq_false]
                exact ⟨y, by rw [HY.out]; exact List.getElem_mem _, by simp; omega⟩
        · have hall : r = chkK kind k n := by
            rw [HRR.out, if_neg]
            have hh := HF.out
            rw [List.take_of_length_le (by have := HN.out; omega)] at hh
            rw [Bool.not_eq_false, List.all_eq_true]
            intro z hz; exact decide_eq_true (hh z hz)
          have HAL := Lib.hid hall
          clear hall
          by_cases e0 : kind = 0
          · by_cases k0 : k = 0
            · subst e0 k0; go_wp2; go_ret; exact ⟨by rw [HAL.out]; rfl, ((Kept.refl _).alloc _).alloc _⟩
            · by_cases k1 : k = 1
              · subst e0 k1; go_wp2; go_ret; exact ⟨by rw [HAL.out]; rfl, ((Kept.refl _).alloc _).alloc _⟩
              · have b0 : (k == 0) = false := by simpa using k0
                have b1 : (k == 1) = false := by simpa using k1
                have b2 : (k != 0) = true := by simpa using k0
                have b3 : (k != 1) = true := by simpa using k1
                subst e0; go_wp2; go_ret; exact ⟨by rw [HAL.out, chkK, if_pos rfl, if_neg (by omega)]; rfl, ((Kept.refl _).alloc _).alloc _⟩
          · by_cases e4 : kind = 4
            · by_cases k0 : 1 ≤ k
              · by_cases k1 : k ≤ n
                · subst e4; go_wp2; go_ret; exact ⟨by rw [HAL.out, chkK, if_neg (by omega), if_pos rfl, if_pos (by omega)]; rfl, ((Kept.refl _).alloc _).alloc _⟩
                · subst e4; go_wp2; go_ret; exact ⟨by rw [HAL.out, chkK, if_neg (by omega), if_pos rfl, if_neg (by omega)]; rfl, ((Kept.refl _).alloc _).alloc _⟩
              · subst e4; go_wp2; go_ret; exact ⟨by rw [HAL.out, chkK, if_neg (by omega), if_pos rfl, if_neg (by omega)]; rfl, ((Kept.refl _).alloc _).alloc _⟩
            · by_cases k0 : k = 0
              · subst k0; go_wp2; go_ret; exact ⟨by rw [HAL.out, chkK, if_neg e0, if_neg e4, if_pos rfl]; rfl, ((Kept.refl _).alloc _).alloc _⟩
              · have b0 : (k == 0) = false := by simpa using k0
                have b2 : (k != 0) = true := by simpa using k0
                go_wp2; go_ret; exact ⟨by rw [HAL.out, chkK, if_neg e0, if_neg e4, if_neg k0]; rfl, ((Kept.refl _).alloc _).alloc _⟩
end Go.Proofs.Ytapniojbnochiaa

/-
  Walks: formula.Valid, Check.
-/
namespace Go.Proofs.Ytapniojbnochiaa
open Go.RowKit

/-- A formula as a value. -/
abbrev fmV (v : Value) (f : Fm) : Value := .agg #[.int .i64 f.vars, v, .int .i64 f.top]

set_option maxHeartbeats 1000000 in
theorem validF_any (v : Value) (f : Fm) (w : World) (hv : NodesAt w v f.nodes) (h0 : 0 ≤ f.vars) (h24 : f.vars ≤ 24) (arg : Int) (ht : arg ≤ 9223372036854775807) :
    Calls Try.prog 63 #[fmV v f, .int .i64 arg] w fun e w' => e = .returned (.bool (okArg f arg)) ∧ Kept w w' := by
  obtain ⟨a, c, rfl, _, hl, hx⟩ := hv
  obtain ⟨vars, nodes, top⟩ := f
  simp only at hl hx h0 h24
  unfold okArg
  simp only
  clear hx
  obtain ⟨n, hn⟩ : ∃ n, n = nodes.length := ⟨_, rfl⟩
  rw [← hn] at hl ⊢
  clear hn
  by_cases h1 : 0 ≤ arg
  · by_cases h2 : arg < vars
    · rw [decide_eq_true ⟨h0, h1, .inl h2⟩]
      go_enter Try.func63, Try.ntmps63
      go_wp2
      go_ret
      exact ⟨rfl, (Kept.refl _).alloc _⟩
    · by_cases h3 : arg - vars < n
      · rw [decide_eq_true ⟨h0, h1, .inr h3⟩]
        go_enter Try.func63, Try.ntmps63
        go_wp2
        go_ret
        exact ⟨rfl, (Kept.refl _).alloc _⟩
      · rw [decide_eq_false (by rintro ⟨_, _, h | h⟩; exact h2 h; exact h3 h)]
        go_enter Try.func63, Try.ntmps63
        go_wp2
        go_ret
        exact ⟨rfl, (Kept.refl _).alloc _⟩
  · rw [decide_eq_false fun h => h1 h.2.1]
    go_enter Try.func63, Try.ntmps63
    go_wp2
    go_ret
    exact ⟨rfl, (Kept.refl _).alloc _⟩

theorem chkFrom_at (b : Int) (xs : List Nd) : ∀ (k : Nat) (h : k < xs.length), (∀ j (hj : j < k), chkNd (b + j) (xs[j]'(by omega)) = 0) → chkNd (b + k) xs[k] ≠ 0 → chkFrom b xs = chkNd (b + k) xs[k] := by
  induction xs generalizing b with
  | nil => intro k h; simp at h
  | cons x xs ih =>
    intro k h h1 h2
    unfold chkFrom
    cases k with
    | zero => simp at h2 ⊢; exact fun h => absurd h h2
    | succ k =>
      have h3 := h1 0 (by omega)
      simp at h3
      rw [if_pos h3]
      have := ih (b + 1) k (by simpa using h) (fun j hj => by
        have := h1 (j + 1) (by omega)
        simpa [Int.add_assoc, Int.add_comm 1] using this) (by simpa [Int.add_assoc, Int.add_comm 1] using h2)
      rw [this]
      simp [Int.add_assoc, Int.add_comm 1]
theorem chkFrom_none (b : Int) (xs : List Nd) (h : ∀ j (hj : j < xs.length), chkNd (b + j) xs[j] = 0) : chkFrom b xs = 0 := by
  induction xs generalizing b with
  | nil => rfl
  | cons x xs ih =>
    unfold chkFrom
    have h3 := h 0 (by simp)
    simp at h3
    rw [if_pos h3]
    refine ih (b + 1) fun j hj => ?_
    have := h (j + 1) (by simpa using hj)
    simpa [Int.add_assoc, Int.add_comm 1] using this

set_option maxHeartbeats 4000000 in
theorem check_any (v : Value) (f : Fm) (w : World) (hv : NodesAt w v f.nodes) (ht : f.top ≤ 9223372036854775807) :
    Calls Try.prog 27 #[fmV v f] w fun e w' => e = .returned (errV (chkF f)) ∧ Kept w w' := by
  obtain ⟨r, hr⟩ : ∃ r, r = chkF f := ⟨_, rfl⟩
  rw [← hr]
  have HV := Lib.hid hv
  have HRR := Lib.hid hr
  obtain ⟨a, c, rfl, _, hl, hx⟩ := hv
  obtain ⟨n, hn⟩ : ∃ n, n = f.nodes.length := ⟨_, rfl⟩
  rw [← hn] at hl HV ⊢
  have HN := Lib.hid hn
  obtain ⟨vars, hvars⟩ : ∃ x, x = f.vars := ⟨_, rfl⟩
  obtain ⟨top, htop⟩ : ∃ x, x = f.top := ⟨_, rfl⟩
  rw [← htop] at ht
  have HVA := Lib.hid hvars
  have HTO := Lib.hid htop
  unfold fmV
  rw [← hvars, ← htop]
  clear hx hr hn hvars htop
  by_cases h : vars < 0 ∨ 24 < vars
  · have h9 : r = 3 := by rw [HRR.out, chkF, if_pos (by rw [← HVA.out]; exact h)]
    subst h9
    rcases h with h | h
    all_goals
      go_enter Try.func27, Try.ntmps27
      go_wp2
      go_ret
      exact ⟨rfl, (Kept.refl _).alloc _⟩
  · have h0 : 0 ≤ vars := by omega
    have h24 : vars ≤ 24 := by omega
    have HH := Lib.hid (show ¬ (f.vars < 0 ∨ 24 < f.vars) by rw [← HVA.out]; exact h)
    clear h
    by_cases hn : 128 < n
    · have h9 : r = 4 := by rw [HRR.out, chkF, if_neg HH.out, if_pos (by rw [← HN.out]; exact hn)]
      subst h9
      go_enter Try.func27, Try.ntmps27
      go_wp2
      go_ret
      exact ⟨rfl, (Kept.refl _).alloc _⟩
    · have HH2 := Lib.hid (show ¬ 128 < f.nodes.length by rw [← HN.out]; exact hn)
      go_enter Try.func27, Try.ntmps27
      go_wp2
      go_loopw [3, 4, 22] (fun _ _ i wr => ∃ k : Nat, k ≤ n ∧ i = .int .i64 k ∧ Hid (∀ j (hj : j < f.nodes.length), j < k → chkNd (f.vars + j) f.nodes[j] = 0) ∧ Kept w wr ∧ wr.cell? ⟨w.heap.size, 0, none⟩ = some (.int .i64 vars) ∧ wr.cell? ⟨w.heap.size, 1, none⟩ = some (.slice a n c) ∧ wr.cell? ⟨w.heap.size, 2, none⟩ = some (.int .i64 top)) (fun _ _ i _ => n - (intOf i).toNat)
      case atStart => exact ⟨0, Nat.zero_le _, rfl, Lib.hid (by intro j _ h; omega), (Kept.refl _).alloc _, by simp, by simp, by simp⟩
      case round =>
        obtain ⟨k, hk, rfl, HF, hK, c0, c1, c2⟩ := hrel
        have hload : wr.rangeAt w.heap.size 0 [.int .i64 vars, .slice a n c, .int .i64 top] := by
          intro j v hj
          match j, hj with
          | 0, hj => simp at hj; subst hj; exact c0
          | 1, hj => simp at hj; subst hj; exact c1
          | 2, hj => simp at hj; subst hj; exact c2
        have HLD := Lib.hid hload
        clear hload
        by_cases hlt : k < n
        · have hkx : k < f.nodes.length := by have := HN.out; omega
          have hcall := checkNode_any f.vars f.top _ f.nodes k wr (HV.out.kept hK) hkx (by rw [← HVA.out]; exact h0) (by rw [← HVA.out]; exact h24) (by omega)
          rw [← HVA.out, ← HTO.out] at hcall
          obtain ⟨q, hq⟩ : ∃ q, q = chkNd (vars + k) f.nodes[k] := ⟨_, rfl⟩
          rw [← hq] at hcall
          have HQ := Lib.hid hq
          have HCL := Lib.hid hcall
          clear hq hcall
          by_cases hq0 : q = 0
          · have HE := Lib.hid (show errV q = .nilIface by rw [hq0]; rfl)
            go_wp2_with (first
              | (with_reducible refine wpList_load_mid rfl 24 _ rfl w.heap.size 0 rfl _ _ HLD.out Try.underlying24 rfl (by kernel_rfl) ?_)
              | (go_at_call 62; refine HCL.out.mono ?_; rintro e w2 ⟨rfl, hk2⟩; rw [HE.out]))
            go_roundw
            case rel =>
              refine ⟨k + 1, by omega, by go_num, Lib.hid ?_, hK.trans hk2, hk2.cell c0, hk2.cell c1, hk2.cell c2⟩
              intro j hj hjk
              by_cases e : j = k
              · subst e; rw [← HVA.out, ← HQ.out]; exact hq0
              · exact HF.out j hj (by omega)
            case measure => simp [intOf]; omega
          · have HE := Lib.hid (show errV q = .iface 45 (.int .i64 q) from errV_pos hq0)
            go_wp2_with (first
              | (with_reducible refine wpList_load_mid rfl 24 _ rfl w.heap.size 0 rfl _ _ HLD.out Try.underlying24 rfl (by kernel_rfl) ?_)
              | (go_at_call 62; refine HCL.out.mono ?_; rintro e w2 ⟨rfl, hk2⟩; rw [HE.out]))
            go_ret
            refine ⟨?_, hK.trans hk2⟩
            have e1 := chkFrom_at f.vars f.nodes k hkx (fun j hj => HF.out j (by omega) hj) (by rw [← HVA.out, ← HQ.out]; exact hq0)
            have e2 : r = q := by
              rw [HRR.out, chkF, if_neg HH.out, if_neg HH2.out]
              rw [← HVA.out, ← HQ.out] at e1
              rw [← HVA.out, e1, if_neg hq0]
            rw [e2, HE.out]; rfl
        · have hall := chkFrom_none f.vars f.nodes (fun j hj => HF.out j hj (by have := HN.out; omega))
          have hrr : r = if okArg f f.top then 0 else 10 := by rw [HRR.out, chkF, if_neg HH.out, if_neg HH2.out, if_pos hall]
          have hcall := validF_any _ f wr (HV.out.kept hK) (by rw [← HVA.out]; exact h0) (by rw [← HVA.out]; exact h24) f.top (by rw [← HTO.out]; exact ht)
          unfold fmV at hcall
          rw [← HTO.out, ← HVA.out] at hcall
          have HCL := Lib.hid hcall
          have HRF := Lib.hid hrr
          clear hcall hrr hall
          cases hok : okArg f top with
          | true =>
            have HOK := Lib.hid hok
            clear hok
            go_wp2_with (first
              | (with_reducible refine wpList_load_mid rfl 24 _ rfl w.heap.size 0 rfl _ _ HLD.out Try.underlying24 rfl (by kernel_rfl) ?_)
              | (go_at_call 63; refine HCL.out.mono ?_; rintro e w2 ⟨rfl, hk2⟩; rw [HOK.out]))
            go_ret
            exact ⟨by rw [HRF.out, ← HTO.out, HOK.out]; rfl, hK.trans hk2⟩
          | false =>
            have HOK := Lib.hid hok
            clear hok
            go_wp2_with (first
              | (with_reducible refine wpList_load_mid rfl 24 _ rfl w.heap.size 0 rfl _ _ HLD.out Try.underlying24 rfl (by kernel_rfl) ?_)
              | (go_at_call 63; refine HCL.out.mono ?_; rintro e w2 ⟨rfl, hk2⟩; rw [HOK.out]))
            go_ret
            exact ⟨by rw [HRF.out, ← HTO.out, HOK.out]; rfl, hK.trans hk2⟩
end Go.Proofs.Ytapniojbnochiaa

/-
  Slices of nodes of the call's own; walk: formula.Trim.
-/
namespace Go.Proofs.Ytapniojbnochiaa
open Go.RowKit

theorem info_node : (Try.prog.info? 47).map (fun i => (i.zero, i.size, i.bytes)) = some (some (.agg #[.int .i64 0, .int .i64 0, .slice none 0 0]), 3, 40) := by kernel_rfl
/-- A slice of nodes of these kinds. -/
def KindsAt (w : World) (v : Value) (ks : List Int) : Prop :=
  ∃ (a : Option Addr) (c : Nat), v = .slice a ks.length c ∧ (ks.length ≤ c ∧ (a = none → c = 0)) ∧ ks.length ≤ 140737488355328 ∧
    ∀ i (h : i < ks.length), ∃ b o, a = some ⟨b, o, none⟩ ∧ ∃ (u1 : Int) (sa : Option Addr) (sn sc : Nat), w.cell? ⟨b, o + i * 3, none⟩ = some (.int .i64 ks[i]) ∧ w.cell? ⟨b, o + i * 3 + 1, none⟩ = some (.int .i64 u1) ∧ w.cell? ⟨b, o + i * 3 + 2, none⟩ = some (.slice sa sn sc)
theorem KindsAt.kept {w w' : World} {v : Value} {ks : List Int} (h : KindsAt w v ks) (hk : Kept w w') : KindsAt w' v ks := by
  obtain ⟨a, c, h1, h2, h3, h4⟩ := h
  exact ⟨a, c, h1, h2, h3, fun i hi => let ⟨b, o, h5, u1, sa, sn, sc, h6, h7, h8⟩ := h4 i hi; ⟨b, o, h5, u1, sa, sn, sc, hk.cell h6, hk.cell h7, hk.cell h8⟩⟩
def OwnKinds (w : World) (B : Nat) (v : Value) (ks : List Int) : Prop :=
  ∃ cells, w.ownsRow B 47 3 v ks.length cells ∧ ks.length ≤ 100000 ∧ ∀ i (h : i < ks.length), cells[i * 3]? = some (.int .i64 ks[i]) ∧ ∃ (u1 : Int) (sa : Option Addr) (sn sc : Nat), cells[i * 3 + 1]? = some (.int .i64 u1) ∧ cells[i * 3 + 2]? = some (.slice sa sn sc)
theorem OwnKinds.at {w : World} {B : Nat} {v : Value} {ks : List Int} (h : OwnKinds w B v ks) : KindsAt w v ks := by
  obtain ⟨cells, ⟨h1, h2⟩, h3, h4⟩ := h
  rcases h2 with ⟨rfl, h5⟩ | ⟨g, cap, cur, rfl, h5, h6, h7, h8, h9, h10⟩
  · have : ks = [] := List.eq_nil_of_length_eq_zero h5
    subst this
    exact ⟨none, 0, rfl, ⟨by simp, fun _ => rfl⟩, by simp, fun i h => by simp at h⟩
  · refine ⟨_, cap, rfl, ⟨h7, fun h => by cases h⟩, by omega, fun i hi => ⟨g, 0, rfl, ?_⟩⟩
    have key : ∀ j, j < ks.length * 3 → w.cell? ⟨g, j, none⟩ = cells[j]? := by
      intro j hj
      have e1 : (cur.toList.take (ks.length * 3))[j]? = cells[j]? := by rw [h10]
      rw [List.getElem?_take_of_lt hj] at e1
      simp only [World.cell?, h6]
      simpa using e1
    obtain ⟨e0, u1, sa, sn, sc, e1, e2⟩ := h4 i hi
    refine ⟨u1, sa, sn, sc, ?_, ?_, ?_⟩
    · rw [Nat.zero_add, key _ (by omega)]; exact e0
    · rw [Nat.zero_add, key _ (by omega)]; exact e1
    · rw [Nat.zero_add, key _ (by omega)]; exact e2
/-- The kinds of the first k nodes that are marked. -/
def kindsUp (V : Nat) (mark : List Bool) (nodes : List Nd) : Nat → List Int
  | 0 => []
  | k + 1 => if mark.getD (V + k) false then kindsUp V mark nodes k ++ [(nodes.getD k noNd).kind] else kindsUp V mark nodes k
theorem len_kindsUp (V : Nat) (mark : List Bool) (nodes : List Nd) (k : Nat) : (kindsUp V mark nodes k).length ≤ k := by
  induction k with
  | zero => simp [kindsUp]
  | succ k ih =>
    unfold kindsUp
    split
    · simp; omega
    · omega
/-- What the last loop keeps. -/
structure TInv (w1 w3 wr : World) (g V n : Nat) (ov : Value) (tl : List Int) (ks : List Int) (mark : List Bool) : Prop where
  tlen : tl.length = V + n
  row : RowAt wr (w1.heap.size + 1) 3 (tl.map (.int .i64))
  box : RowAt wr w1.heap.size 24 [.int .i64 V, ov, .int .i64 0]
  own : OwnKinds wr w3.heap.size ov ks
  marks : RowAt wr g 4 (mark.map .bool)
  kept : Kept w1 wr
  size : w3.heap.size ≤ wr.heap.size
def toP (V n k : Nat) : List Int := (List.range k).map (fun i : Nat => (i : Int)) ++ List.replicate (V + n - k) 0
theorem toP_step (V n k : Nat) (h : k < V) : (toP V n k).set k (k : Int) = toP V n (k + 1) := by
  unfold toP
  rw [List.set_append_right _ _ (by simp), List.range_succ, List.map_append, show V + n - k = (V + n - (k + 1)) + 1 by omega, List.replicate_succ]
  simp
theorem toP_len (V n k : Nat) (h : k ≤ V) : (toP V n k).length = V + n := by simp [toP]; omega
theorem arg_step {wo wr w5 : World} {kd kk z : Int} {uv nv : Value} {ys : List Int} {o : Obj} (hown : OwnInts wr (wo.heap.size + 2) uv ys) (hrow : RowAt wr (wo.heap.size + 1) 47 [.int .i64 kd, .int .i64 kk, uv]) (hK : Kept wo wr) (hsz : wo.heap.size + 2 ≤ wr.heap.size) (hys : ys.length ≤ 1000)
    (h5 : w5.ownsRow (wo.heap.size + 2) 3 1 nv (ys.length + 1) (ys.map (Value.int .i64) ++ [.int .i64 z])) (hg : (wr.alloc o).grownBy w5 uv.ownBlock) :
    OwnInts (w5.setCell ⟨wo.heap.size + 1, 2, none⟩ nv) (wo.heap.size + 2) nv (ys ++ [z]) ∧ RowAt (w5.setCell ⟨wo.heap.size + 1, 2, none⟩ nv) (wo.heap.size + 1) 47 [.int .i64 kd, .int .i64 kk, nv] ∧ Kept wo (w5.setCell ⟨wo.heap.size + 1, 2, none⟩ nv) ∧ wo.heap.size + 2 ≤ (w5.setCell ⟨wo.heap.size + 1, 2, none⟩ nv).heap.size := by
  have hne : some (wo.heap.size + 1) ≠ uv.ownBlock := by
    intro e
    have := (hown.1.lt _ e.symm).1
    omega
  have hb : w5.heap[wo.heap.size + 1]? = wr.heap[wo.heap.size + 1]? := (hg.block _ (by simp; omega) hne).trans (Below.heap_alloc wr o _ (by omega))
  have hbel := grown_below hg (hown.1.alloc o) (by simp; omega)
  have hk5 : Kept wo w5 := (hK.alloc o).app (hbel.mono (by omega))
  refine ⟨⟨?_, by simp; omega⟩, ?_, hk5.store (by omega) _ _, ?_⟩
  · have := ownsRow_setCell_below h5 (a := ⟨wo.heap.size + 1, 2, none⟩) (by show wo.heap.size + 1 < _; omega) nv
    simpa using this
  · have := (hrow.same hb).store 2 nv
    simpa using this
  · have h1 := hbel.size
    simp at h1
    simp [World.setCell]; omega
theorem range_other {w : World} {b o : Nat} {cs : List Value} (h : w.rangeAt b o cs) {p : Nat} (hp : b ≠ p) (i : Nat) (u : Value) : (w.setCell ⟨p, i, none⟩ u).rangeAt b o cs :=
  fun j v hj => cell_other (h j v hj) hp i u
theorem app_kind {ops : Array Oper} {rest : List Oper} {o : Oper} {a : Act} {Q : Exit → Act → World → Prop} {w : World} (hgd : o.guard = none) (s x : Operand)
    (ho : o.op = .call { callee := .builtin .append, args := #[s, x], argTypes := #[22, 22] }) (B : Nat) (v : Value) (ks : List Int) (hs : a.eval s = v) (hown : OwnKinds w B v ks)
    (g : Nat) (kd x1 : Int) (sa : Option Addr) (sn sc : Nat) (hx : a.eval x = .slice (some ⟨g, 0, none⟩) 1 1) (hc : w.rangeAt g 0 [.int .i64 kd, .int .i64 x1, .slice sa sn sc]) (hl : ks.length < 100000) (hB : B ≤ w.heap.size)
    (h : ∀ v' w', OwnKinds w' B v' (ks ++ [kd]) → w.grownBy w' v.ownBlock → Below B w w' → wpList Try.prog ops Q rest (a.put o.dst v') w') : wpList Try.prog ops Q (o :: rest) a w := by
  obtain ⟨i0, hi0, hz0, hz1, hz2⟩ := info_parts info_node
  obtain ⟨cells, hown1, hkl, hcell⟩ := hown
  refine wpList_append_own _ hgd s x 22 ho B 47 i0 _ 3 40 Try.underlying22 hi0 hz0 hz1 hz2 rfl (by decide) v ks.length cells hs hown1 ⟨g, 0, none⟩ 1 1 [.int .i64 kd, .int .i64 x1, .slice sa sn sc] hx rfl ?_ ?_ (by unfold maxLen; omega) (by omega) hB ?_
  · intro j u hj
    have := hc j u hj
    rw [Addr.add_mid]; exact this
  · intro u hu
    simp at hu
    rcases hu with rfl | rfl | rfl <;> rfl
  · intro v' w' h3 h4 _
    refine h v' w' ⟨cells ++ [.int .i64 kd, .int .i64 x1, .slice sa sn sc], by simpa using h3, by simp; omega, ?_⟩ h4 (grown_below h4 hown1 hB)
    intro i hi
    simp at hi
    have hcl : cells.length = ks.length * 3 := hown1.1
    by_cases hik : i < ks.length
    · obtain ⟨e0, u1, ua, un, uc, e1, e2⟩ := hcell i hik
      refine ⟨?_, u1, ua, un, uc, ?_, ?_⟩
      · rw [List.getElem?_append_left (by omega), e0, List.getElem_append_left hik]
      · rw [List.getElem?_append_left (by omega), e1]
      · rw [List.getElem?_append_left (by omega), e2]
    · have e : i = ks.length := by omega
      subst e
      refine ⟨?_, x1, sa, sn, sc, ?_, ?_⟩
      · rw [List.getElem?_append_right (by omega), hcl]; simp
      · rw [List.getElem?_append_right (by omega), hcl]; simp
      · rw [List.getElem?_append_right (by omega), hcl]; simp
theorem range_made (w : World) (x0 x1 x2 : Value) (e : TypeId) : (w.alloc (.cells #[x0, x1, x2] e)).rangeAt w.heap.size 0 [x0, x1, x2] := by
  have h := RowAt.made w #[x0, x1, x2] e
  intro j v hj
  match j, hj with
  | 0, hj => simp at hj; subst hj; exact h.cell (i := 0) (by simp)
  | 1, hj => simp at hj; subst hj; exact h.cell (i := 1) (by simp)
  | 2, hj => simp at hj; subst hj; exact h.cell (i := 2) (by simp)
theorem free_other {w : World} {a : Addr} (h : w.frozen? a = false) {p : Nat} (hp : a.block ≠ p) (i : Nat) (u : Value) : (w.setCell ⟨p, i, none⟩ u).frozen? a = false :=
  (World.frozen?_of_block (w := w) (Below.heap_setCell w ⟨p, i, none⟩ u a.block hp)).trans h
theorem Kept.free {w w' : World} (h : Kept w w') {p : Addr} (hp : p.block < w.heap.size) (hf : w.frozen? p = false) : w'.frozen? p = false := (Below.frozen h hp).trans hf
theorem range_madeS (w : World) (a : Addr) (u x0 x1 x2 : Value) (e : TypeId) : ((w.setCell a u).alloc (.cells #[x0, x1, x2] e)).rangeAt w.heap.size 0 [x0, x1, x2] := by
  have h := range_made (w.setCell a u) x0 x1 x2 e
  rwa [show (w.setCell a u).heap.size = w.heap.size by simp [World.setCell]] at h
theorem OwnKinds.kept {w w' : World} {B : Nat} {v : Value} {ks : List Int} (h : OwnKinds w B v ks) (hk : Kept w w') : OwnKinds w' B v ks := by
  obtain ⟨cells, h1, h2⟩ := h
  exact ⟨cells, own_kept h1 hk, h2⟩
theorem OwnKinds.below {w : World} {B : Nat} {v : Value} {ks : List Int} (h : OwnKinds w B v ks) {a : Addr} (ha : a.block < B) (u : Value) : OwnKinds (w.setCell a u) B v ks := by
  obtain ⟨cells, h1, h2⟩ := h
  exact ⟨cells, ownsRow_setCell_below h1 ha u, h2⟩
theorem inv_step {w1 w3 wo wr w6 : World} {g V n k : Nat} {ov nv : Value} {tl ks : List Int} {R : List Bool} {kd t : Int} {cs : Array Value} (hI : TInv w1 w3 wo g V n ov tl ks R) (hK : Kept wo wr) (h1 : w1.heap.size + 1 < w3.heap.size) (hg : w1.heap.size + 1 < g) (hg3 : g < w3.heap.size)
    (h6 : OwnKinds w6 w3.heap.size nv (ks ++ [kd])) (hg6 : ((wr.setCell ⟨w1.heap.size + 1, k, none⟩ (.int .i64 t)).alloc (.cells cs 47)).grownBy w6 ov.ownBlock) :
    TInv w1 w3 (w6.setCell ⟨w1.heap.size, 1, none⟩ nv) g V n nv (tl.set k t) (ks ++ [kd]) R := by
  have hs := hK.size
  have hs3 := hI.size
  have hown : ∀ j, j < w3.heap.size → some j ≠ ov.ownBlock := by
    intro j hj e
    obtain ⟨cells, ho, _⟩ := hI.own
    have := (ho.lt _ e.symm).1
    omega
  have hb : ∀ j, j < w3.heap.size → w6.heap[j]? = (wr.setCell ⟨w1.heap.size + 1, k, none⟩ (.int .i64 t)).heap[j]? := by
    intro j hj
    have l1 : (wr.setCell ⟨w1.heap.size + 1, k, none⟩ (.int .i64 t)).heap.size = wr.heap.size := by simp [World.setCell]
    exact (hg6.block j (by simp; omega) (hown j hj)).trans (Below.heap_alloc _ _ j (by omega))
  have hrow := (hI.row.kept hK).store k (.int .i64 t)
  rw [← List.map_set] at hrow
  have hbox := ((hI.box.kept hK).other (p := w1.heap.size + 1) (by omega) k (.int .i64 t))
  have hmk := ((hI.marks.kept hK).other (p := w1.heap.size + 1) (by omega) k (.int .i64 t))
  refine ⟨by rw [List.length_set]; exact hI.tlen, ?_, ?_, h6.below (by show w1.heap.size < _; omega) _, ?_, ?_, ?_⟩
  · exact (hrow.same (hb _ (by omega))).other (by omega) _ _
  · have := (hbox.same (hb _ (by omega))).store 1 nv
    simpa using this
  · exact (hmk.same (hb _ (by omega))).other (by omega) _ _
  · have l1 : (wr.setCell ⟨w1.heap.size + 1, k, none⟩ (.int .i64 t)).heap.size = wr.heap.size := by simp [World.setCell]
    have k1 : Kept w1 (wr.setCell ⟨w1.heap.size + 1, k, none⟩ (.int .i64 t)) := (hI.kept.trans hK).store (by omega) _ _
    have k2 : Kept w1 w6 := (k1.alloc _).app ⟨hg6.os, hg6.tape, hg6.output, hg6.size, fun j hj => hg6.block j (by simp; omega) (hown j (by omega))⟩
    exact k2.store (Nat.le_refl _) _ _
  · have l1 : (wr.setCell ⟨w1.heap.size + 1, k, none⟩ (.int .i64 t)).heap.size = wr.heap.size := by simp [World.setCell]
    have := hg6.size
    simp at this
    simp [World.setCell] at this ⊢; omega
set_option maxRecDepth 100000 in
set_option maxHeartbeats 8000000 in
theorem trim_any (v : Value) (f : Fm) (V T : Nat) (w : World) (hv : NodesAt w v f.nodes) (hok : Ok f V T) (hck : chkF f = 0) :
    Calls Try.prog 36 #[.agg #[.int .i64 V, v, .int .i64 T]] w fun e w' => ∃ tv, ∃ top : Int, e = .returned (.tuple #[.agg #[.int .i64 V, tv, .int .i64 top], .nilIface]) ∧ KindsAt w' tv (kindsUp V (belowK V T f.nodes) f.nodes f.nodes.length) ∧ Kept w w' := by
  have hchk := check_any v f w hv (by rw [hok.top]; have := hok.tlt; have := hok.n128; have := hok.v24; omega)
  rw [hck] at hchk
  unfold fmV at hchk
  rw [hok.vars, hok.top] at hchk
  have HCH := Lib.hid (fun W (hk : Kept w W) => check_any v f W (hv.kept hk) (by rw [hok.top]; have := hok.tlt; have := hok.n128; have := hok.v24; omega))
  have HBL := Lib.hid (fun W (hk : Kept w W) => below_any v f V T W (hv.kept hk) hok)
  have HV := Lib.hid hv
  obtain ⟨a, c, rfl, _, hl, hx⟩ := hv
  obtain ⟨n, hn⟩ : ∃ n, n = f.nodes.length := ⟨_, rfl⟩
  rw [← hn] at hl HCH HBL
  have hn9 : n ≤ 128 := by rw [hn]; exact hok.n128
  have hV9 := hok.v24
  have hT9 : T < V + n := by rw [hn]; exact hok.tlt
  have E1 := Lib.hid (show fmV (.slice a n c) f = .agg #[.int .i64 V, .slice a n c, .int .i64 T] by unfold fmV; rw [hok.vars, hok.top])
  have hch2 : ∀ W, Kept w W → Calls Try.prog 27 #[.agg #[.int .i64 V, .slice a n c, .int .i64 T]] W fun e w' => e = .returned (errV (chkF f)) ∧ Kept W w' := fun W hk => by have := HCH.out W hk; rw [E1.out] at this; exact this
  have HCH2 := Lib.hid hch2
  clear hch2
  clear HCH E1
  have E2 := Lib.hid (show errV (chkF f) = .nilIface by rw [hck]; rfl)
  have HX := Lib.hid hx
  have HN := Lib.hid hn
  have HO := Lib.hid hok
  rw [← hn]
  clear hx hn hok hl hck hchk
  go_enter Try.func36, Try.ntmps36
  go_wp2_with (first
    | (go_at_call 27; refine (HCH2.out _ (((Kept.refl _).alloc _).alloc _)).mono ?_; rintro e w1 ⟨rfl, hk1⟩; rw [E2.out]; have hs1 := hk1.size; simp only [World.size_alloc] at hs1; have ls0 : w.heap.size < w1.heap.size := (by omega); have ls1 : w.heap.size + 1 < w1.heap.size := (by omega); have b0 := hk1.cell (p := ⟨w.heap.size, 0, none⟩) (v := .int .i64 V) (by simp); have b1 := hk1.cell (p := ⟨w.heap.size, 1, none⟩) (v := .slice a n c) (by simp); have b2 := hk1.cell (p := ⟨w.heap.size, 2, none⟩) (v := .int .i64 T) (by simp))
    | (at_make; refine make_one 27 3 _ 8 info_int Try.underlying27 rfl rfl _ _ rfl (V + n) (by show Value.int .i64 ((V : Int) + (n : Int)) = .int .i64 ((V + n : Nat) : Int); rw [Int.natCast_add]) (by show Value.int .i64 ((V : Int) + (n : Int)) = .int .i64 ((V + n : Nat) : Int); rw [Int.natCast_add]) (by omega) (by unfold maxLen; omega) ?_; intro w2 hr2 hk2; simp only [World.size_alloc] at hr2; have HR2 := Lib.hid hr2; clear hr2; have hk02 := (hk1.trans ((Kept.refl _).alloc _)).trans hk2; have d0 := hk02.cell (p := ⟨w.heap.size, 0, none⟩) (v := .int .i64 V) (by simp)))
  go_loopw [7, 32] (fun _ i wr => ∃ k : Nat, k ≤ V ∧ i = .int .i64 k ∧ RowAt wr (w1.heap.size + 1) 3 ((toP V n k).map (.int .i64)) ∧ Kept (w1.alloc (.cells #[.int .i64 V, .slice none 0 0, .int .i64 0] 24)) wr) (fun _ i _ => V - (intOf i).toNat)
  case atStart => exact ⟨0, Nat.zero_le _, rfl, by simpa [toP] using HR2.out, hk2⟩
  case round =>
    clear hk2
    obtain ⟨k, hk, rfl, hrow, hK⟩ := hrel
    by_cases hlt : k < V
    · have cY := hrow.cell (i := k) (by rw [List.length_map, toP_len V n k hk]; omega)
      have fY := hrow.free k
      have hnew := hrow.store k (.int .i64 k)
      have hKn := hK.store (g := w1.heap.size + 1) (by simp) k (.int .i64 k)
      have hY1 : (k : Int) < (V : Int) + (n : Int) := by omega
      have hY2 : (k : Int) < ((V + n : Nat) : Int) := by omega
      rw [← List.map_set, toP_step V n k hlt] at hnew
      have HNW := Lib.hid hnew
      have HKN := Lib.hid hKn
      clear hnew hKn hrow hK
      go_wp2
      go_roundw
      case rel => exact ⟨k + 1, by omega, by go_num, HNW.out, HKN.out⟩
      case measure => simp [intOf]; omega
    · have e : k = V := by omega
      have htl := toP_len V n k hk
      obtain ⟨tl, htle⟩ : ∃ tl, tl = toP V n k := ⟨_, rfl⟩
      rw [← htle] at hrow htl
      have hkw := (hk1.trans ((Kept.refl _).alloc _)).trans hK
      have hkW : Kept w wr := (((Kept.refl w).alloc _).alloc _).trans hkw
      have q0 := hkw.cell (p := ⟨w.heap.size, 0, none⟩) (v := .int .i64 V) (by simp)
      have q1 := hkw.cell (p := ⟨w.heap.size, 1, none⟩) (v := .slice a n c) (by simp)
      have q2 := hkw.cell (p := ⟨w.heap.size, 2, none⟩) (v := .int .i64 T) (by simp)
      have hlt1 := hrow.lt
      have HRO := Lib.hid hrow
      have HKK := Lib.hid hK
      have HKW := Lib.hid hkW
      have hVn : (V : Int) ≤ (V : Int) + (n : Int) := by omega
      have hVn2 : (V : Int) ≤ ((V + n : Nat) : Int) := by omega
      clear e hrow hkw hkW hK htle
      go_wp2
      go_region_held3 (fun w' => w'.cell? ⟨w.heap.size, 0, none⟩ = some (.int .i64 V) ∧ w'.cell? ⟨w.heap.size, 1, none⟩ = some (.slice a n c) ∧ w'.cell? ⟨w.heap.size, 2, none⟩ = some (.int .i64 T))
        (first | go_keep | exact ⟨hk3.cell q0, hk3.cell q1, hk3.cell q2⟩)
        (first | (go_at_call 72; refine (HBL.out _ (HKW.out.drew)).mono ?_; rintro e w3 ⟨g, rfl, hg, hr3, hk3⟩))
      obtain ⟨R, hR⟩ : ∃ R, R = belowK V T f.nodes := ⟨_, rfl⟩
      rw [← hR] at hr3
      have HR3 := Lib.hid hr3
      have HRe := Lib.hid hR
      have HG3 : g < w3.heap.size := HR3.out.lt
      have hg2 : w1.heap.size + 1 < g := by have h9 : wr.heap.size ≤ g := hg; omega
      have hkw3 : Kept (w1.alloc (.cells #[.int .i64 V, .slice none 0 0, .int .i64 0] 24)) w3 := HKK.out.trans ((Kept.refl wr).drew.trans hk3)
      have hinv0 : TInv w1 w3 w3 g V n (.slice none 0 0) tl [] R := ⟨htl, HRO.out.kept ((Kept.refl wr).drew.trans hk3), (RowAt.made w1 _ _).kept hkw3, ⟨[], World.ownsRow_nil _ _ _ _, by simp, fun i h => by simp at h⟩, HR3.out, ((Kept.refl w1).alloc _).trans hkw3, Nat.le_refl _⟩
      have HI0 := Lib.hid hinv0
      have HKW1 := Lib.hid hk1
      clear hR hr3 hinv0 hkw3 hk3 q0 q1 q2 HRO HKK hg
      by_cases hn0 : n = 0
      · subst hn0
        have hkW2 := HKW1.out.trans HI0.out.kept
        have hbx := HI0.out.box
        have d0 := hkW2.cell (p := ⟨w.heap.size, 0, none⟩) (v := .int .i64 V) (by simp)
        have d2 := hkW2.cell (p := ⟨w.heap.size, 2, none⟩) (v := .int .i64 T) (by simp)
        have c0 := hbx.cell (i := 0) (by simp)
        have c1 := hbx.cell (i := 1) (by simp)
        have c2 := hbx.cell (i := 2) (by simp)
        have f2 := hbx.free 2
        have hTl : T < tl.length := by rw [HI0.out.tlen]; omega
        obtain ⟨zt, cT⟩ : ∃ z : Int, w3.cell? ⟨w1.heap.size + 1, T, none⟩ = some (.int .i64 z) := ⟨tl[T], by have := HI0.out.row.cell (i := T) (by simpa using hTl); rw [List.getElem_map] at this; exact this⟩
        have hY1 : (T : Int) < (V : Int) := by omega
        have hres : RowAt w3 (w.heap.size + 1) 24 [.int .i64 0, .slice none 0 0, .int .i64 0] := by
          have := (RowAt.made (w.alloc (.cells #[.int .i64 V, .slice a 0 c, .int .i64 T] 24)) #[.int .i64 0, .slice none 0 0, .int .i64 0] 24).kept hkW2
          simpa using this
        have r0 := hres.cell (i := 0) (by simp)
        have r1 := hres.cell (i := 1) (by simp)
        have r2 := hres.cell (i := 2) (by simp)
        have s0 := hres.free 0
        have s1 := hres.free 1
        have s2 := hres.free 2
        simp only [List.getElem_cons_succ, List.getElem_cons_zero] at r0 r1 r2 c0 c1 c2
        have ne1 : w1.heap.size ≠ w.heap.size + 1 := by omega
        have ne2 : w.heap.size + 1 ≠ w1.heap.size := by omega
        clear hbx hres
        go_wp2
        refine wp_loop_rounds 1 ?_
        rw [rounds_succ]
        go_wp2
        refine bodyPost_ret (v := .tuple #[.agg #[.int .i64 V, .slice none 0 0, .int .i64 zt], .nilIface]) ?_ rfl ⟨_, _, rfl, ?_, ?_⟩
        · simp [results, Try.results36, go_sem, r0, r1, r2]
        · exact ⟨none, 0, rfl, ⟨by simp [kindsUp], fun _ => rfl⟩, by simp [kindsUp], fun i h => by simp [kindsUp] at h⟩
        · have hkA : Kept w w3 := (((Kept.refl w).alloc _).alloc _).trans hkW2
          exact (((hkA.store (by omega) _ _).store (by omega) _ _).store (by omega) _ _).store (by omega) _ _
      · have hn1 : 0 < n := by omega
        have hn2 : V < V + n := by omega
        go_wp2
        go_loopw [8, 9, 10, 11, 13, 46, 66] (fun _ _ _ _ _ i _ wr => ∃ (k : Nat) (ov : Value) (tl : List Int), k ≤ n ∧ i = .int .i64 k ∧ TInv w1 w3 wr g V n ov tl (kindsUp V R f.nodes k) R) (fun _ _ _ _ _ i _ _ => n - (intOf i).toNat)
        case atStart => exact ⟨0, _, tl, Nat.zero_le _, rfl, HI0.out⟩
        case round =>
          obtain ⟨k, ov, tl, hk, rfl, hinv⟩ := hrel
          have hkW2 := HKW1.out.trans hinv.kept
          have q0 := hkW2.cell (p := ⟨w.heap.size, 0, none⟩) (v := .int .i64 V) (by simp)
          have q1 := hkW2.cell (p := ⟨w.heap.size, 1, none⟩) (v := .slice a n c) (by simp)
          have q2 := hkW2.cell (p := ⟨w.heap.size, 2, none⟩) (v := .int .i64 T) (by simp)
          by_cases hlt : k < n
          · have hRl : R.length = V + n := by rw [HRe.out, len_belowK, HN.out]
            have cm := hinv.marks.cell (i := V + k) (by simp; omega)
            rw [getD_map_bool R (V + k) (by omega)] at cm
            have hup : kindsUp V R f.nodes (k + 1) = if R.getD (V + k) false then kindsUp V R f.nodes k ++ [(f.nodes.getD k noNd).kind] else kindsUp V R f.nodes k := rfl
            have HUP := Lib.hid hup
            clear hup
            cases hmk : R.getD (V + k) false with
            | false =>
              rw [hmk] at cm
              have HMK := Lib.hid hmk
              have HI := Lib.hid hinv
              clear hmk hinv hkW2
              go_wp2
              go_roundw
              case rel => exact ⟨k + 1, ov, tl, by omega, by go_num, by rw [HUP.out, HMK.out]; exact HI.out⟩
              case measure => simp [intOf]; omega
            | true =>
              rw [hmk] at cm
              have HMK := Lib.hid hmk
              have HI := Lib.hid hinv
              clear hmk hinv
              have hkx : k < f.nodes.length := by have := HN.out; omega
              obtain ⟨b, o, rfl, u, hc1, hc2, hc3, hI⟩ := HX.out k hkx
              have hkA : Kept w wr := (((Kept.refl w).alloc (.cells #[.int .i64 V, .slice (some ⟨b, o, none⟩) n c, .int .i64 T] 24)).alloc (.cells #[.int .i64 0, .slice none 0 0, .int .i64 0] 24)).trans hkW2
              have hrange := node_range (hkA.cell hc1) (hkA.cell hc2) (hkA.cell hc3)
              obtain ⟨ax, cx, rfl, _, hlx, hcx⟩ := hI
              have HRG := Lib.hid hrange
              clear hc1 hc2 hc3 hrange
              go_wp2_with (with_reducible refine wpList_load_mid rfl 47 _ rfl b (o + k * 3) rfl _ _ HRG.out Try.underlying47 rfl (by kernel_rfl) ?_)
              obtain ⟨kd, hkd⟩ : ∃ x, x = f.nodes[k].kind := ⟨_, rfl⟩
              obtain ⟨kk, hkk⟩ : ∃ x, x = f.nodes[k].k := ⟨_, rfl⟩
              have hargs := HO.out.args k hkx
              have h16 := argsOk_le (HO.out.argc k hkx)
              obtain ⟨args, hag⟩ : ∃ x, x = f.nodes[k].args := ⟨_, rfl⟩
              rw [← hag] at hcx hargs hlx h16
              rw [← hkd, ← hkk, ← hag]
              obtain ⟨na, hna⟩ : ∃ x, x = args.length := ⟨_, rfl⟩
              rw [← hna] at hlx h16 ⊢
              have HKD := Lib.hid hkd
              have HCX := Lib.hid hcx
              have HAR := Lib.hid hargs
              have HNA := Lib.hid hna
              have HKA := Lib.hid hkA
              obtain ⟨i0, hi0, hz0, hz1, hz2⟩ := info_parts info_int
              have I0 := Lib.hid hi0
              have I1 := Lib.hid hz0
              have I2 := Lib.hid hz1
              have I3 := Lib.hid hz2
              have sz1 : w1.heap.size + 1 < wr.heap.size := HI.out.row.lt
              obtain ⟨wo, rfl⟩ : ∃ wo : World, wo = wr := ⟨_, rfl⟩
              clear hkd hkk hag hcx hargs hna hkA hkW2 hi0 hz0 hz1 hz2 q0 q1 q2 cm
              go_loopw [13, 66] (fun _ j wi => ∃ (p : Nat) (uv : Value) (ys : List Int), p ≤ na ∧ j = .int .i64 p ∧ ys.length ≤ p ∧ OwnInts wi (wo.heap.size + 2) uv ys ∧ RowAt wi (wo.heap.size + 1) 47 [.int .i64 kd, .int .i64 kk, uv] ∧ Kept wo wi ∧ wo.heap.size + 2 ≤ wi.heap.size) (fun _ j _ => na - (intOf j).toNat)
              case atStart => exact ⟨0, .slice none 0 0, [], Nat.zero_le _, rfl, by simp, OwnInts.nil _ _, by have := RowAt.made (wo.alloc (.cells #[.int .i64 kd, .int .i64 kk, .slice ax na cx] 47)) #[.int .i64 kd, .int .i64 kk, .slice none 0 0] 47; simpa using this, ((Kept.refl _).alloc _).alloc _, by simp⟩
              case round =>
                obtain ⟨p, uv, ys, hp, rfl, hys, hown, hrow, hK, hsz⟩ := hrel
                by_cases hpn : p < na
                · have hpx : p < args.length := by have := HNA.out; omega
                  obtain ⟨b2, o2, rfl, hc0⟩ := HCX.out p hpx
                  have hcell := (HKA.out.trans hK).cell hc0
                  obtain ⟨y, hy⟩ : ∃ y, y = args[p] := ⟨_, rfl⟩
                  have hy2 := HAR.out args[p] (List.getElem_mem _)
                  rw [← hy] at hcell hy2
                  obtain ⟨Y, hY⟩ := Int.eq_ofNat_of_zero_le hy2.1
                  subst hY
                  have hYl : Y < tl.length := by rw [HI.out.tlen]; omega
                  have cT := hK.cell (HI.out.row.cell (i := Y) (by simpa using hYl))
                  obtain ⟨z, hz⟩ : ∃ z, z = tl[Y] := ⟨_, rfl⟩
                  simp only [List.getElem_map] at cT
                  rw [← hz] at cT
                  have hY1 : (Y : Int) < (V : Int) + (n : Int) := by omega
                  have hY2 : (Y : Int) < ((V + n : Nat) : Int) := by omega
                  have cB := hrow.cell (i := 2) (by simp)
                  have fB := hrow.free 2
                  simp only [List.getElem_cons_succ, List.getElem_cons_zero] at cB
                  have hszi : wo.heap.size + 1 < wr.heap.size := by omega
                  have hszj : w1.heap.size + 1 < wr.heap.size := by omega
                  have HOWN := Lib.hid hown
                  have HROW := Lib.hid hrow
                  have HK := Lib.hid hK
                  have hfar : some (wo.heap.size + 1) ≠ uv.ownBlock := by
                    intro e
                    have := (hown.1.lt _ e.symm).1
                    omega
                  have HFAR := Lib.hid hfar
                  clear hc0 hy hz hown hrow hK hfar
                  go_wp2
                  go_region_law ((refine step_append_lies _ (by rfl) _ _ _ (by rfl) (wo.heap.size + 2) 3 i0 _ 1 8 Try.underlying27 I0.out I1.out I2.out I3.out rfl (by omega) uv ys.length _ (by rfl) ((HOWN.out.1.alloc _).drew) ⟨wr.heap.size, 0, none⟩ 1 1 [.int .i64 z] (by rfl) (by rfl) (World.news_of_block (cs := #[.int .i64 z]) (t := 3) (fr := (0, 0)) (heap_alloc_new wr _)) (by simp [Value.oneCell']) (by omega) (by unfold maxLen; omega) (by omega) (by simp; omega) (wr.heap.size + 1) (by simp) ?_; intro gg cap w5 hown5 hgrow hat hlt5; have st5 := hgrow.cell (a := ⟨wo.heap.size + 1, 2, none⟩) (v := uv) (((Kept.refl wr).alloc _).cell cB) HFAR.out; have sf5 := (World.frozen?_of_block (a := ⟨wo.heap.size + 1, 2, none⟩) (hgrow.block (wo.heap.size + 1) (by simp; omega) HFAR.out)).trans ((Below.frozen ((Kept.refl wr).alloc _) (p := ⟨wo.heap.size + 1, 2, none⟩) (by simp; omega)).trans fB)))
                  all_goals go_wp2
                  all_goals
                    have R := arg_step (o := .cells #[.int .i64 z] 3) HOWN.out HROW.out HK.out hsz (by omega) hown5 ⟨hgrow.os, hgrow.tape, hgrow.output, hgrow.size, hgrow.block⟩
                    go_roundw
                    case rel => exact ⟨p + 1, _, _, by omega, by go_num, by simp; omega, R.1, R.2.1, R.2.2.1, R.2.2.2⟩
                    case measure => simp [intOf]; omega
                · obtain ⟨ks, hks⟩ : ∃ ks, ks = kindsUp V R f.nodes k := ⟨_, rfl⟩
                  have hkl := len_kindsUp V R f.nodes k
                  rw [← hks] at HI HUP hkl
                  have HKL := Lib.hid (show ks.length < 100000 by omega)
                  have hkc := (HKW1.out.trans HI.out.kept).trans hK
                  have q0 := hkc.cell (p := ⟨w.heap.size, 0, none⟩) (v := .int .i64 V) (by simp)
                  have hbx := HI.out.box.kept hK
                  have c5 := hbx.cell (i := 1) (by simp)
                  have f5 := hbx.free 1
                  have hrt := HI.out.row.kept hK
                  have cT := hrt.cell (i := V + k) (by simp [HI.out.tlen]; omega)
                  have fT := hrt.free (V + k)
                  have hY1 : (V : Int) + (k : Int) < (V : Int) + (n : Int) := by omega
                  have hY2 : (V : Int) + (k : Int) < ((V + n : Nat) : Int) := by omega
                  have szz : w1.heap.size < wr.heap.size := by omega
                  have hrng : wr.rangeAt (wo.heap.size + 1) 0 [.int .i64 kd, .int .i64 kk, uv] := by
                    intro j v hj
                    match j, hj with
                    | 0, hj => simp at hj; subst hj; exact hrow.cell (i := 0) (by simp)
                    | 1, hj => simp at hj; subst hj; exact hrow.cell (i := 1) (by simp)
                    | 2, hj => simp at hj; subst hj; exact hrow.cell (i := 2) (by simp)
                  simp only [List.getElem_cons_succ, List.getElem_cons_zero] at c5
                  obtain ⟨oa, oc, hov, _⟩ := HI.out.own.at
                  subst hov
                  obtain ⟨on, hon⟩ : ∃ on, on = ks.length := ⟨_, rfl⟩
                  rw [← hon] at HI c5 hbx hkl
                  obtain ⟨ua, un, uc, huv⟩ := hown.ints.shape
                  subst huv
                  have HRNG := Lib.hid (fun x => range_other hrng (p := w1.heap.size + 1) (by omega) (V + k) x)
                  have HRT := Lib.hid hrt
                  have HBX := Lib.hid hbx
                  have HK := Lib.hid hK
                  have HON := Lib.hid hon
                  clear hrng hrt hbx hK hkc hks hrow hown hon
                  have g3 : g < w3.heap.size := HG3
                  have g4 : w1.heap.size + 1 < w3.heap.size := by omega
                  have hok1 := (HI.out.own.kept HK.out)
                  have HOK1 := Lib.hid (fun x => (hok1.below (a := ⟨w1.heap.size + 1, V + k, none⟩) (by show w1.heap.size + 1 < _; omega) x).kept ((Kept.refl _).alloc (.cells #[.int .i64 kd, .int .i64 kk, .slice ua un uc] 47)))
                  have hne5 : some w1.heap.size ≠ (Value.slice oa on oc).ownBlock := by
                    intro e
                    obtain ⟨cells, ho, _⟩ := HI.out.own
                    have := (ho.lt _ e.symm).1
                    omega
                  have HNE5 := Lib.hid hne5
                  have hw3r : w3.heap.size ≤ wr.heap.size := Nat.le_trans HI.out.size HK.out.size
                  clear hok1 hne5
                  go_wp2_with (first
                    | (with_reducible refine wpList_load_mid rfl 47 _ rfl (wo.heap.size + 1) 0 rfl _ _ (HRNG.out _) Try.underlying47 rfl (by kernel_rfl) ?_)
                    | (at_builtin; refine app_kind rfl _ _ rfl w3.heap.size _ ks rfl (HOK1.out _) _ kd kk ua un uc rfl (range_madeS _ _ _ _ _ _ _) HKL.out (by simp [World.setCell]; omega) ?_; intro nv w6 hown6 hg6 hb6; obtain ⟨xa, xc, rfl, _⟩ := hown6.at; have HOWN6 := Lib.hid hown6; clear hown6; have st5 := hg6.cell (a := ⟨w1.heap.size, 1, none⟩) (v := .slice oa on oc) (((Kept.refl _).alloc _).cell (cell_other c5 (p := w1.heap.size + 1) (by show w1.heap.size ≠ _; omega) _ _)) HNE5.out; have sf5 := (World.frozen?_of_block (a := ⟨w1.heap.size, 1, none⟩) (hg6.block w1.heap.size (by simp [World.setCell]; omega) HNE5.out)).trans (((Kept.refl _).alloc _).free (p := ⟨w1.heap.size, 1, none⟩) (by simp [World.setCell]; omega) (free_other f5 (p := w1.heap.size + 1) (by show w1.heap.size ≠ _; omega) _ _))))
                  have RI := inv_step (kd := kd) (t := (V : Int) + (on : Int)) HI.out HK.out g4 hg2 g3 HOWN6.out ⟨hg6.os, hg6.tape, hg6.output, hg6.size, hg6.block⟩
                  rw [show (ks ++ [kd]).length = ks.length + 1 by simp] at RI
                  go_roundw
                  case rel => exact ⟨k + 1, _, _, by omega, by go_num, by rw [HUP.out, HMK.out, if_pos rfl, show (f.nodes.getD k noNd).kind = kd by rw [HKD.out]; simp [List.getD_eq_getElem?_getD, hkx]]; exact RI⟩
                  case measure => simp [intOf]; omega
          · have e : k = n := by omega
            subst e
            obtain ⟨oa, oc, hov, _⟩ := hinv.own.at
            subst hov
            have hbx := hinv.box
            have c0 := hbx.cell (i := 0) (by simp)
            have c1 := hbx.cell (i := 1) (by simp)
            have c2 := hbx.cell (i := 2) (by simp)
            have f2 := hbx.free 2
            have hTl : T < tl.length := by rw [hinv.tlen]; omega
            obtain ⟨zt, cT⟩ : ∃ z : Int, wr.cell? ⟨w1.heap.size + 1, T, none⟩ = some (.int .i64 z) := ⟨tl[T], by have := hinv.row.cell (i := T) (by simpa using hTl); rw [List.getElem_map] at this; exact this⟩
            have hY1 : (T : Int) < (V : Int) + (k : Int) := by omega
            have hY2 : (T : Int) < ((V + k : Nat) : Int) := by omega
            have hres : RowAt wr (w.heap.size + 1) 24 [.int .i64 0, .slice none 0 0, .int .i64 0] := by
              have := (RowAt.made (w.alloc (.cells #[.int .i64 V, .slice a k c, .int .i64 T] 24)) #[.int .i64 0, .slice none 0 0, .int .i64 0] 24).kept hkW2
              simpa using this
            have r0 := hres.cell (i := 0) (by simp)
            have r1 := hres.cell (i := 1) (by simp)
            have r2 := hres.cell (i := 2) (by simp)
            have s0 := hres.free 0
            have s1 := hres.free 1
            have s2 := hres.free 2
            simp only [List.getElem_cons_succ, List.getElem_cons_zero] at r0 r1 r2
            simp only [List.getElem_cons_succ, List.getElem_cons_zero] at c0 c1 c2
            have HI := Lib.hid hinv
            have ne1 : w1.heap.size ≠ w.heap.size + 1 := by omega
            have ne2 : w.heap.size + 1 ≠ w1.heap.size := by omega
            clear hinv hbx hres
            go_wp2
            refine bodyPost_ret (v := .tuple #[.agg #[.int .i64 V, .slice oa (kindsUp V R f.nodes k).length oc, .int .i64 zt], .nilIface]) ?_ rfl ⟨_, _, rfl, ?_, ?_⟩
            · simp [results, Try.results36, go_sem, r0, r1, r2]
            · rw [← HRe.out]
              have h3 : w1.heap.size + 1 < w3.heap.size := by omega
              exact ((((HI.out.own.below (a := ⟨w1.heap.size, 2, none⟩) (by show w1.heap.size < _; omega) _).below (a := ⟨w.heap.size + 1, 0, none⟩) (by show w.heap.size + 1 < _; omega) _).below (a := ⟨w.heap.size + 1, 1, none⟩) (by show w.heap.size + 1 < _; omega) _).below (a := ⟨w.heap.size + 1, 2, none⟩) (by show w.heap.size + 1 < _; omega) _).at
            · have hkA : Kept w wr := (((Kept.refl w).alloc _).alloc _).trans hkW2
              exact (((hkA.store (by omega) _ _).store (by omega) _ _).store (by omega) _ _).store (by omega) _ _
end Go.Proofs.Ytapniojbnochiaa

/-
  Walks: formula.Trim of a formula that is refused; coherent.Syntax.
-/
namespace Go.Proofs.Ytapniojbnochiaa
open Go.RowKit

set_option maxRecDepth 100000 in
set_option maxHeartbeats 2000000 in
theorem trim_err (v : Value) (f : Fm) (w : World) (hv : NodesAt w v f.nodes) (ht : f.top ≤ 9223372036854775807) (hck : chkF f ≠ 0) :
    Calls Try.prog 36 #[fmV v f] w fun e w' => e = .returned (.tuple #[.agg #[.int .i64 0, .slice none 0 0, .int .i64 0], errV (chkF f)]) ∧ Kept w w' := by
  have H := Lib.hid (fun W (hk : Kept w W) => check_any v f W (hv.kept hk) ht)
  have E2 := Lib.hid (errV_pos hck)
  have HE := Lib.hid hck
  obtain ⟨a, c, rfl, _⟩ := hv
  obtain ⟨n, hn⟩ : ∃ n, n = f.nodes.length := ⟨_, rfl⟩
  rw [← hn] at H ⊢
  obtain ⟨vars, nodes, top⟩ := f
  clear hn hck
  go_enter Try.func36, Try.ntmps36
  go_wp2_with (go_at_call 27; refine (H.out _ (((Kept.refl _).alloc _).alloc _)).mono ?_; rintro e w1 ⟨rfl, hk1⟩; rw [E2.out]; have hs1 := hk1.size; simp only [World.size_alloc] at hs1; have hres := ((RowAt.made (w.alloc (.cells #[.int .i64 vars, .slice a n c, .int .i64 top] 24)) #[.int .i64 0, .slice none 0 0, .int .i64 0] 24).kept hk1); simp only [World.size_alloc] at hres; have r0 := hres.cell (i := 0) (by simp); have r1 := hres.cell (i := 1) (by simp); have r2 := hres.cell (i := 2) (by simp); have s0 := hres.free 0; have s1 := hres.free 1; have s2 := hres.free 2; simp only [List.getElem_cons_succ, List.getElem_cons_zero] at r0 r1 r2; clear hres)
  refine bodyPost_ret (v := .tuple #[.agg #[.int .i64 0, .slice none 0 0, .int .i64 0], errV (chkF ⟨vars, nodes, top⟩)]) ?_ rfl ⟨rfl, ?_⟩
  · simp [results, Try.results36, go_sem, r0, r1, r2, E2.out]
  · have hkA : Kept w w1 := (((Kept.refl w).alloc _).alloc _).trans hk1
    exact ((hkA.store (by omega) _ _).store (by omega) _ _).store (by omega) _ _

/-- No negation and no exclusive or. -/
def monoK (ks : List Int) : Bool := ks.all fun k => !(k == 1 || k == 5)
def synK (V T : Nat) (f : Fm) : Bool := monoK (kindsUp V (belowK V T f.nodes) f.nodes f.nodes.length)

set_option maxHeartbeats 2000000 in
theorem syntax_err (v : Value) (f : Fm) (w : World) (hv : NodesAt w v f.nodes) (ht : f.top ≤ 9223372036854775807) (hck : chkF f ≠ 0) :
    Calls Try.prog 56 #[fmV v f] w fun e w' => e = .returned (.tuple #[.bool false, errV (chkF f)]) ∧ Kept w w' := by
  have H := Lib.hid (fun W (hk : Kept w W) => trim_err v f W (hv.kept hk) ht hck)
  have E2 := Lib.hid (errV_pos hck)
  obtain ⟨q, hq⟩ : ∃ q, q = chkF f := ⟨_, rfl⟩
  rw [← hq] at H E2 ⊢
  clear hv ht hck hq
  go_enter Try.func56, Try.ntmps56
  go_wp2_with (go_at_call 36; refine (H.out _ ((Kept.refl _).alloc _)).mono ?_; rintro e w1 ⟨rfl, hk1⟩; rw [E2.out]; have hs1 := hk1.size; simp only [World.size_alloc] at hs1)
  go_ret2
  exact ⟨by rw [E2.out]; rfl, ((((Kept.refl _).alloc _).trans hk1).alloc _)⟩

set_option maxHeartbeats 4000000 in
theorem syntax_ok (v : Value) (f : Fm) (V T : Nat) (w : World) (hv : NodesAt w v f.nodes) (hok : Ok f V T) (hck : chkF f = 0) :
    Calls Try.prog 56 #[.agg #[.int .i64 V, v, .int .i64 T]] w fun e w' => e = .returned (.tuple #[.bool (synK V T f), .nilIface]) ∧ Kept w w' := by
  have H := Lib.hid (fun W (hk : Kept w W) => trim_any v f V T W (hv.kept hk) hok hck)
  have hlen := len_kindsUp V (belowK V T f.nodes) f.nodes f.nodes.length
  have h128 := hok.n128
  unfold synK
  obtain ⟨ks, hks⟩ : ∃ ks, ks = kindsUp V (belowK V T f.nodes) f.nodes f.nodes.length := ⟨_, rfl⟩
  rw [← hks] at H hlen ⊢
  obtain ⟨r, hr⟩ : ∃ r, r = monoK ks := ⟨_, rfl⟩
  rw [← hr]
  have HR := Lib.hid hr
  obtain ⟨n, hn⟩ : ∃ n, n = ks.length := ⟨_, rfl⟩
  have hn9 : n ≤ 128 := by omega
  have HN := Lib.hid hn
  clear hv hok hck hks hr hlen h128 hn
  go_enter Try.func56, Try.ntmps56
  go_wp2_with (go_at_call 36; refine (H.out _ ((Kept.refl _).alloc _)).mono ?_; rintro e w1 ⟨tv, top, rfl, hkd, hk1⟩; obtain ⟨ta, tc, rfl, _, _, htc⟩ := hkd; rw [← HN.out]; have HTC := Lib.hid htc; clear htc; have hs1 := hk1.size; simp only [World.size_alloc] at hs1)
  have hk2 : Kept w (w1.alloc (.cells #[.int .i64 V, .slice ta n tc, .int .i64 top] 24)) := (((Kept.refl _).alloc _).trans hk1).alloc _
  go_loopw [7, 19] (fun _ i wr => ∃ k : Nat, k ≤ n ∧ i = .int .i64 k ∧ Hid (monoK (ks.take k) = true) ∧ Kept w1 wr ∧ Kept w wr) (fun _ i _ => n - (intOf i).toNat)
  case atStart => exact ⟨0, Nat.zero_le _, rfl, Lib.hid rfl, (Kept.refl _).alloc _, hk2⟩
  case round =>
    clear hk2
    obtain ⟨k, hk, rfl, HM, hK, hKw⟩ := hrel
    by_cases hlt : k < n
    · have hkx : k < ks.length := by have := HN.out; omega
      obtain ⟨b, o, rfl, u1, sa, sn, sc, c0, c1, c2⟩ := HTC.out k hkx
      have hstep : monoK (ks.take (k + 1)) = (monoK (ks.take k) && !(ks[k] == 1 || ks[k] == 5)) := by
        unfold monoK; rw [List.take_succ_eq_append_getElem hkx, List.all_append]; simp
      have hbad : (ks[k] == 1 || ks[k] == 5) = true → r = false := by
        intro h; rw [HR.out, monoK, List.all_eq_false]; exact ⟨ks[k], List.getElem_mem _, by rw [h]; simp⟩
      obtain ⟨kd, hkd⟩ : ∃ kd, kd = ks[k] := ⟨_, rfl⟩
      rw [← hkd] at c0 hstep hbad
      have hrange : wr.rangeAt b (o + k * 3) [.int .i64 kd, .int .i64 u1, .slice sa sn sc] := by
        intro j v hj
        match j, hj with
        | 0, hj => simp at hj; subst hj; exact hK.cell c0
        | 1, hj => simp at hj; subst hj; exact hK.cell c1
        | 2, hj => simp at hj; subst hj; exact hK.cell c2
      have HRG := Lib.hid hrange
      have HS := Lib.hid hstep
      have HB := Lib.hid hbad
      clear c0 c1 c2 hrange hstep hbad hkd
      by_cases h1 : kd = 1
      · subst h1
        go_wp2_with (with_reducible refine wpList_load_mid rfl 47 _ rfl b (o + k * 3) rfl _ _ HRG.out Try.underlying47 rfl (by kernel_rfl) ?_)
        go_ret2
        exact ⟨by rw [HB.out rfl]; rfl, (hKw.alloc _)⟩
      · by_cases h5 : kd = 5
        · subst h5
          go_wp2_with (with_reducible refine wpList_load_mid rfl 47 _ rfl b (o + k * 3) rfl _ _ HRG.out Try.underlying47 rfl (by kernel_rfl) ?_)
          go_ret2
          exact ⟨by rw [HB.out rfl]; rfl, (hKw.alloc _)⟩
        · have b1 : (kd == 1) = false := by simpa using h1
          have b5 : (kd == 5) = false := by simpa using h5
          go_wp2_with (with_reducible refine wpList_load_mid rfl 47 _ rfl b (o + k * 3) rfl _ _ HRG.out Try.underlying47 rfl (by kernel_rfl) ?_)
          go_roundw
          case rel => exact ⟨k + 1, by omega, by go_num, Lib.hid (by rw [HS.out, HM.out, b1, b5]; rfl), hK.alloc _, hKw.alloc _⟩
          case measure => simp [intOf]; omega
    · have e : r = true := by
        have := HM.out
        rw [List.take_of_length_le (by have := HN.out; omega)] at this
        rw [HR.out]; exact this
      have HE := Lib.hid e
      clear e
      go_wp2
      go_ret2
      exact ⟨by rw [HE.out]; rfl, hKw⟩
end Go.Proofs.Ytapniojbnochiaa

/-
  Rows of families; walk: bottomup.fold.
-/
namespace Go.Proofs.Ytapniojbnochiaa
open Go.RowKit

/-- Families in memory: a slice of slices of masks. -/
def FamsAt (w : World) (v : Value) (xss : List (List Nat)) : Prop := RowsAt SetsAt w v xss
theorem FamsAt.kept {w w' : World} {v : Value} {xss : List (List Nat)} (h : FamsAt w v xss) (hk : Kept w w') : FamsAt w' v xss :=
  RowsAt.kept (fun _ _ _ _ h k => h.kept k) h hk
/-- Families of the call's own, their rows too. -/
def OwnFams (w : World) (B : Nat) (v : Value) (xss : List (List Nat)) : Prop :=
  ∃ us : List Value, us.length = xss.length ∧ w.ownsRow B 27 1 v xss.length us ∧ xss.length ≤ 140737488355328 ∧ ∀ i (h : i < us.length) (h' : i < xss.length), OwnSets w 0 us[i] xss[i]
theorem OwnFams.at {w : World} {B : Nat} {v : Value} {xss : List (List Nat)} (h : OwnFams w B v xss) : FamsAt w v xss := by
  obtain ⟨us, h1, ⟨h2, h3⟩, h4, h5⟩ := h
  rcases h3 with ⟨rfl, h6⟩ | ⟨g, cap, cur, rfl, h6, h7, h8, h9, h10, h11⟩
  · have : xss = [] := List.eq_nil_of_length_eq_zero h6
    subst this
    exact ⟨none, 0, rfl, ⟨by simp, fun _ => rfl⟩, by simp, fun i h => by simp at h⟩
  · refine ⟨_, cap, rfl, ⟨h8, fun h => by cases h⟩, h4, fun i hi => ⟨g, 0, us[i]'(by omega), rfl, ?_, (h5 i (by omega) hi).sets⟩⟩
    have e1 : (cur.toList.take (xss.length * 1))[i]? = us[i]? := by rw [h11]
    rw [List.getElem?_take_of_lt (by omega)] at e1
    simp only [World.cell?, h7, Nat.zero_add]
    simpa [h1, hi] using e1
theorem OwnFams.kept {w w' : World} {B : Nat} {v : Value} {xss : List (List Nat)} (h : OwnFams w B v xss) (hk : Kept w w') : OwnFams w' B v xss := by
  obtain ⟨us, h1, h2, h3, h4⟩ := h
  exact ⟨us, h1, own_kept h2 hk, h3, fun i h h' => (h4 i h h').kept hk⟩
theorem OwnFams.nil (w : World) (B : Nat) : OwnFams w B (.slice none 0 0) [] := ⟨[], rfl, World.ownsRow_nil _ _ _ _, by simp, fun i h => by simp at h⟩
/-- A row of one type stays while a row of another type is written. -/
theorem own_tag {w w' : World} {B : Nat} {e e' : TypeId} {size size' n n' B' : Nat} {v v' : Value} {xs xs' : List Value} (h : w.ownsRow B e size v n xs) (h' : w.ownsRow B' e' size' v' n' xs') (hne : e ≠ e')
    (hg : ∀ k, k < w.heap.size → some k ≠ v'.ownBlock → w'.heap[k]? = w.heap[k]?) : w'.ownsRow B e size v n xs := by
  obtain ⟨h1, h2⟩ := h
  refine ⟨h1, h2.imp id ?_⟩
  rintro ⟨g, cap, cur, rfl, h5, h6, h7⟩
  refine ⟨g, cap, cur, rfl, h5, (hg g (heap_lt h6) ?_).trans h6, h7⟩
  intro e
  obtain ⟨_, ⟨rfl, _⟩ | ⟨g2, cap2, cur2, rfl, _, h8, _⟩⟩ := h'
  · cases e
  · cases e
    rw [h8] at h6
    cases h6
    exact hne rfl
theorem OwnSets.tag {w w' : World} {B : Nat} {e' : TypeId} {size' n' B' : Nat} {v v' : Value} {ns : List Nat} {xs' : List Value} (h : OwnSets w B v ns) (h' : w.ownsRow B' e' size' v' n' xs') (hne : 3 ≠ e')
    (hg : ∀ k, k < w.heap.size → some k ≠ v'.ownBlock → w'.heap[k]? = w.heap[k]?) : OwnSets w' B v ns := ⟨⟨own_tag h.1.1 h' hne hg, h.1.2⟩, h.2⟩
/-- append of one family. -/
theorem app_fam {ops : Array Oper} {rest : List Oper} {o : Oper} {a : Act} {Q : Exit → Act → World → Prop} {w : World} (hgd : o.guard = none) (s x : Operand)
    (ho : o.op = .call { callee := .builtin .append, args := #[s, x], argTypes := #[37, 37] }) (B : Nat) (v : Value) (xss : List (List Nat)) (hs : a.eval s = v) (hown : OwnFams w B v xss)
    (ad : Addr) (u : Value) (ys : List Nat) (hx : a.eval x = .slice (some ad) 1 1) (hc : w.cell? ad = some u) (hu : OwnSets w 0 u ys) (hl : xss.length < 1000000) (hB : B ≤ w.heap.size)
    (h : ∀ v' w', OwnFams w' B v' (xss ++ [ys]) → w.grownBy w' v.ownBlock → Below B w w' → wpList Try.prog ops Q rest (a.put o.dst v') w') : wpList Try.prog ops Q (o :: rest) a w := by
  obtain ⟨us, h1, h2, h3, h4⟩ := hown
  obtain ⟨ua, un, uc, rfl⟩ := hu.1.ints.shape
  refine app_one 37 27 _ 24 info_ints Try.underlying37 rfl hgd s x ho B v us hs (by rw [h1]; exact h2) ad _ hx hc rfl (by omega) (by simp [maxLen]; omega) hB ?_
  intro v' w' h5 h6 h7
  refine h v' w' ⟨us ++ [.slice ua un uc], by simp [h1], by simpa [h1] using h5, by simp; omega, ?_⟩ h6 h7
  intro i hi hi'
  by_cases hik : i < us.length
  · rw [List.getElem_append_left hik, List.getElem_append_left (by omega)]
    exact (h4 i hik (by omega)).tag h2 (by decide) (fun k hk hne => h6.block k hk hne)
  · have e : i = us.length := by simp at hi; omega
    subst e
    rw [List.getElem_append_right (Nat.le_refl _), List.getElem_append_right (by omega)]
    simp only [Nat.sub_self, h1, List.getElem_cons_zero]
    exact hu.tag h2 (by decide) (fun k hk hne => h6.block k hk hne)

def foldK (op : List Nat → List Nat → Option (List Nat)) (first : List Nat) (args : List (List Nat)) : Option (List Nat) := args.foldlM op first
theorem foldK_snoc (op : List Nat → List Nat → Option (List Nat)) (first : List Nat) (args : List (List Nat)) (k : Nat) (h : k < args.length) : foldK op first (args.take (k + 1)) = (foldK op first (args.take k)).bind fun l => op l args[k] := by
  unfold foldK
  rw [List.take_succ_eq_append_getElem h, List.foldlM_append]
  simp [Option.bind_eq_bind]
theorem foldK_none (op : List Nat → List Nat → Option (List Nat)) (first : List Nat) (args : List (List Nat)) (k : Nat) (h : foldK op first (args.take k) = none) : foldK op first args = none := by
  unfold foldK at *
  rw [← List.take_append_drop k args, List.foldlM_append, h]; rfl

/-- A function value that joins two lists of sets. -/
def Joins (g : Nat) (op : List Nat → List Nat → Option (List Nat)) : Prop :=
  ∀ (a b : List Nat) (va vb : Value) (w : World), SetsAt w va a → SetsAt w vb b → Calls Try.prog g #[va, vb] w fun e w' => LRes w' w.heap.size e (op a b) ∧ Kept w w'
set_option maxHeartbeats 4000000 in
theorem fold_any (g : Nat) (eg : ∀ args w, (callFunc g args).run Try.prog w = .ok (.enter g args) w) (op : List Nat → List Nat → Option (List Nat)) (hop : Joins g op) (v vf : Value) (args : List (List Nat)) (first : List Nat) (w : World)
    (hv : FamsAt w v args) (hf : SetsAt w vf first) (hne : args ≠ []) :
    Calls Try.prog 87 #[v, vf, .func (.func g) #[] #[]] w fun e w' => LRes w' w.heap.size e (foldK op first args) ∧ Kept w w' := by
  obtain ⟨a, c, rfl, _, hl, hx⟩ := hv
  obtain ⟨n, hn⟩ : ∃ n, n = args.length := ⟨_, rfl⟩
  rw [← hn] at hl ⊢
  have hpos : 0 < n := by rw [hn]; exact List.length_pos_iff.2 hne
  obtain ⟨r, hr⟩ : ∃ r, r = foldK op first args := ⟨_, rfl⟩
  rw [← hr]
  have HR := Lib.hid hr
  have HX := Lib.hid hx
  have HN := Lib.hid hn
  have HOP := Lib.hid hop
  have HF := Lib.hid hf
  clear hx hn hop hr hf hne
  go_enter Try.func87, Try.ntmps87
  go_wp2
  go_loopw [8, 10, 11, 12, 16] (fun out _ _ _ i wr => ∃ (k : Nat) (l : List Nat), k ≤ n ∧ i = .int .i64 k ∧ Hid (foldK op first (args.take k) = some l ∧ SetsAt wr out l ∧ (0 < k → OwnSets wr w.heap.size out l)) ∧ Kept w wr) (fun _ _ _ _ i _ => n - (intOf i).toNat)
  case atStart => exact ⟨0, first, Nat.zero_le _, rfl, Lib.hid ⟨rfl, HF.out, fun h => absurd h (by omega)⟩, Kept.refl _⟩
  case round =>
    obtain ⟨k, l, hk, rfl, HL, hK⟩ := hrel
    by_cases hlt : k < n
    · have hkx : k < args.length := by have := HN.out; omega
      obtain ⟨b, o, u, rfl, hc0, hu⟩ := HX.out k hkx
      have hcell := hK.cell hc0
      have hcall := HOP.out l args[k] u8 u wr HL.out.2.1 (hu.kept hK)
      have hstep := foldK_snoc op first args k hkx
      rw [HL.out.1] at hstep
      simp only [Option.bind_some] at hstep
      have HC := Lib.hid hcall
      have HS := Lib.hid hstep
      have hz := hK.size
      clear hc0 hu hcall hstep
      obtain ⟨q, hq⟩ : ∃ q, q = op l args[k] := ⟨_, rfl⟩
      rw [← hq] at HC HS
      cases q with
      | none =>
        have hrn : r = none := by rw [HR.out]; exact foldK_none op first args (k + 1) HS.out
        have HRN := Lib.hid hrn
        clear hrn hq
        go_wp2_with (go_at_fn g; refine HC.out.mono ?_; rintro e w2 ⟨he, hk2⟩; unfold LRes at he; subst he; rw [errV_pos (show (4 : Nat) ≠ 0 by decide)])
        go_ret2
        exact ⟨by rw [HRN.out]; rfl, hK.trans hk2⟩
      | some l2 =>
        clear hq
        go_wp2_with (go_at_fn g; refine HC.out.mono ?_; rintro e w2 ⟨⟨v2, rfl, ho2⟩, hk2⟩; have O2 := Lib.hid ho2; clear ho2)
        go_roundw
        case rel => exact ⟨k + 1, l2, by omega, by go_num, Lib.hid ⟨HS.out, O2.out.sets, fun _ => O2.out.mono hz⟩, hK.trans hk2⟩
        case measure => simp [intOf]; omega
    · have e : k = n := by omega
      have h1 := HL.out.1
      rw [List.take_of_length_le (by have := HN.out; omega), ← HR.out] at h1
      have h2 := HL.out.2.2 (by omega)
      have H1 := Lib.hid h1
      have H2 := Lib.hid h2
      clear h1 h2 e
      go_wp2
      go_ret2
      exact ⟨by rw [H1.out]; exact ⟨_, rfl, H2.out⟩, hK⟩
end Go.Proofs.Ytapniojbnochiaa

/-
  Walks: bottomup.vote.
-/
namespace Go.Proofs.Ytapniojbnochiaa
open Go.RowKit

theorem OwnFams.mono {w : World} {B B' : Nat} {v : Value} {xss : List (List Nat)} (h : OwnFams w B v xss) (hb : B' ≤ B) : OwnFams w B' v xss := by
  obtain ⟨us, h1, h2, h3, h4⟩ := h
  exact ⟨us, h1, own_mono h2 hb, h3, h4⟩
theorem OwnSets.one (w : World) (B : Nat) (s : Nat) (hs : Mk s) (hB : B ≤ w.heap.size) : OwnSets (w.alloc (.cells #[.int .i64 s] 3)) B (.slice (some ⟨w.heap.size, 0, none⟩) 1 1) [s] :=
  ⟨⟨⟨by simp, .inr ⟨w.heap.size, 1, #[.int .i64 s], rfl, hB, heap_alloc_new w _, Nat.le_refl _, by unfold maxLen; omega, by simp, by simp⟩⟩, by simp⟩, by simpa using hs⟩
theorem OwnFams.one {w : World} {B : Nat} {u : Value} {ns : List Nat} (hu : OwnSets w 0 u ns) (hB : B ≤ w.heap.size) : OwnFams (w.alloc (.cells #[u] 27)) B (.slice (some ⟨w.heap.size, 0, none⟩) 1 1) [ns] :=
  ⟨[u], rfl, ⟨by simp, .inr ⟨w.heap.size, 1, #[u], rfl, hB, heap_alloc_new w _, Nat.le_refl _, by unfold maxLen; omega, by simp, by simp⟩⟩, by simp, fun i h h' => by
    have e : i = 0 := by simp at h; omega
    subst e
    exact hu.kept ((Kept.refl _).alloc _)⟩
theorem OwnSets.nils (w : World) (B : Nat) : OwnSets w B (.slice none 0 0) [] := ⟨OwnInts.nil _ _, by simp⟩
/-- A row of families whose place i is replaced. -/
theorem OwnFams.store {w : World} {B g n cap : Nat} {xss : List (List Nat)} (h : OwnFams w B (.slice (some ⟨g, 0, none⟩) n cap) xss) (hn : n = xss.length) (i : Nat) {u : Value} {ys : List Nat} (hu : OwnSets w 0 u ys) :
    OwnFams (w.setCell ⟨g, i, none⟩ u) B (.slice (some ⟨g, 0, none⟩) n cap) (xss.set i ys) := by
  obtain ⟨us, h1, h2, h3, h4⟩ := h
  subst hn
  have h5 := h2.stored i u
  refine ⟨us.set i u, by simp [h1], by simpa using h5.1, by simpa using h3, fun j hj hj' => ?_⟩
  have hg : ∀ k, k < w.heap.size → some k ≠ (Value.slice (some ⟨g, 0, none⟩) xss.length cap).ownBlock → (w.setCell ⟨g, i, none⟩ u).heap[k]? = w.heap[k]? := fun k hk hne => h5.2.block k hk hne
  by_cases e : i = j
  · subst e
    rw [List.getElem_set_self, List.getElem_set_self]
    exact hu.tag h2 (by decide) hg
  · rw [List.getElem_set_ne e, List.getElem_set_ne e]
    exact (h4 j (by simpa using hj) (by simpa using hj')).tag h2 (by decide) hg
theorem make_fam {ops : Array Oper} {rest : List Oper} {o : Oper} {a : Act} {Q : Exit → Act → World → Prop} {w : World} (hg : o.guard = none) (l c : Operand)
    (hop : o.op = Op.makeSlice 37 l c) (n : Nat) (hl : a.eval l = .int .i64 n) (hc : a.eval c = .int .i64 n) (hb : n ≤ 1000000)
    (hK : ∀ w', OwnFams w' w.heap.size (.slice (some ⟨w.heap.size, 0, none⟩) n n) (List.replicate n []) → Kept w w' → w.heap.size < w'.heap.size → wpList Try.prog ops Q rest (a.put o.dst (.slice (some ⟨w.heap.size, 0, none⟩) n n)) w') : wpList Try.prog ops Q (o :: rest) a w := by
  obtain ⟨i0, hi0, hz0, hz1, hz2⟩ := info_parts info_ints
  refine wpList_make_full w hg l c 37 hop w.heap.size 27 i0 _ 1 Try.underlying37 hi0 hz0 hz1 .i64 .i64 _ _ n hl hc rfl rfl (by rw [hz2]; omega) (by unfold maxLen; omega) (Nat.le_refl _) ?_
  intro w' h1 h2
  rw [made_one _ rfl n] at h1
  refine hK w' ⟨List.replicate n (.slice none 0 0), by simp, by simpa using h1, by simp; omega, fun i h h' => by simp [OwnSets.nils]⟩ ⟨h2.os, h2.tape, h2.output, h2.size, fun k hk => h2.block k hk (by simp)⟩ ?_
  exact (h1.lt _ rfl).2
theorem OwnFams.cell {w : World} {B g n cap : Nat} {xss : List (List Nat)} (h : OwnFams w B (.slice (some ⟨g, 0, none⟩) n cap) xss) (i : Nat) (hi : i < xss.length) : ∃ u, w.cell? ⟨g, i, none⟩ = some u ∧ OwnSets w 0 u xss[i] := by
  obtain ⟨us, h1, h2, h3, h4⟩ := h
  refine ⟨us[i]'(by omega), ?_, h4 i (by omega) hi⟩
  obtain ⟨h5, h6⟩ := h2
  rcases h6 with ⟨h6, _⟩ | ⟨g', cap', cur, h6, _, h7, h8, h9, h10, h11⟩
  · cases h6
  · cases h6
    have e1 : (cur.toList.take (xss.length * 1))[i]? = us[i]? := by rw [h11]
    rw [List.getElem?_take_of_lt (by omega)] at e1
    simp only [World.cell?, h7]
    simpa [h1, hi] using e1
theorem OwnFams.free {w : World} {B g n cap : Nat} {xss : List (List Nat)} (h : OwnFams w B (.slice (some ⟨g, 0, none⟩) n cap) xss) (i : Nat) : w.frozen? ⟨g, i, none⟩ = false := by
  obtain ⟨us, h1, ⟨h2, h3⟩, _⟩ := h
  rcases h3 with ⟨h3, _⟩ | ⟨g', cap', cur, h3, _, h4, _⟩
  · cases h3
  · cases h3
    simp [World.frozen?, h4]
theorem OwnFams.shape {w : World} {B : Nat} {v : Value} {xss : List (List Nat)} (h : OwnFams w B v xss) (h0 : xss ≠ []) : ∃ g cap, v = .slice (some ⟨g, 0, none⟩) xss.length cap ∧ B ≤ g ∧ g < w.heap.size ∧ xss.length ≤ cap := by
  obtain ⟨us, h1, ⟨h2, h3⟩, _⟩ := h
  rcases h3 with ⟨_, h3⟩ | ⟨g, cap, cur, rfl, h4, h5, h6, _⟩
  · exact absurd (List.eq_nil_of_length_eq_zero h3) h0
  · exact ⟨g, cap, rfl, h4, heap_lt h5, h6⟩

/-- One place of the next row. -/
def nextAt (arg : List Nat) (t : List (List Nat)) (m : Nat) : Option (List Nat) := (productK arg (t.getD m [])).bind fun x => plusK x (t.getD (m + 1) [])
def voteUp (arg : List Nat) (t : List (List Nat)) : Nat → Option (List (List Nat))
  | 0 => some [[0]]
  | m + 1 => (voteUp arg t m).bind fun acc => (nextAt arg t m).map fun x => acc ++ [x]
def voteDown (k : Nat) (args : List (List Nat)) : Nat → List (List Nat) → Option (List (List Nat))
  | 0, t => some t
  | q + 1, t => (voteUp (args.getD q []) t k).bind (voteDown k args q)
/-- The sets of which at least k arguments are true. -/
def voteK (args : List (List Nat)) (k : Nat) : Option (List Nat) := (voteDown k args args.length ([0] :: List.replicate k [])).map fun t => t.getD k []
theorem len_voteUp (arg : List Nat) (t : List (List Nat)) : ∀ m acc, voteUp arg t m = some acc → acc.length = m + 1 := by
  intro m
  induction m with
  | zero => intro acc h; cases h; rfl
  | succ m ih =>
    intro acc h
    unfold voteUp at h
    cases h1 : voteUp arg t m with
    | none => rw [h1] at h; cases h
    | some a =>
      rw [h1] at h
      simp only [Option.bind_some] at h
      cases h2 : nextAt arg t m with
      | none => rw [h2] at h; cases h
      | some x => rw [h2] at h; cases h; simp [ih a h1]
theorem voteUp_none (arg : List Nat) (t : List (List Nat)) (m : Nat) (h : voteUp arg t m = none) : ∀ k, m ≤ k → voteUp arg t k = none := by
  intro k hk
  induction k with
  | zero => have : m = 0 := by omega
            subst this; exact h
  | succ k ih =>
    by_cases e : m = k + 1
    · subst e; exact h
    · unfold voteUp; rw [ih (by omega)]; rfl
end Go.Proofs.Ytapniojbnochiaa

/-
  Walks: bottomup.vote.
-/
namespace Go.Proofs.Ytapniojbnochiaa
open Go.RowKit

theorem wrapT (m : Nat) (h : m ≤ 100000) : IntKind.i64.wrap (m : Int) = (m : Int) := IntWalk.i64_in _ (by omega)
theorem wrapS (m : Nat) (h : m ≤ 100000) : IntKind.i64.wrap ((m : Int) + 1 - 1) = (m : Int) := by
  rw [show (m : Int) + 1 - 1 = (m : Int) by omega]; exact wrapT m h
set_option maxRecDepth 100000 in
set_option maxHeartbeats 8000000 in
theorem vote_any (v : Value) (args : List (List Nat)) (k : Nat) (w : World) (hv : FamsAt w v args) (hk1 : 1 ≤ k) (hk2 : k ≤ args.length) (hl9 : args.length ≤ 1000) :
    Calls Try.prog 88 #[v, .int .i64 k] w fun e w' => LRes w' 0 e (voteK args k) ∧ Kept w w' := by
  obtain ⟨a, c, rfl, _, hl, hx⟩ := hv
  obtain ⟨n, hn⟩ : ∃ n, n = args.length := ⟨_, rfl⟩
  rw [← hn] at hl hk2 hl9 ⊢
  obtain ⟨r, hr⟩ : ∃ r, r = voteK args k := ⟨_, rfl⟩
  rw [← hr]
  have HR := Lib.hid hr
  have HX := Lib.hid hx
  have HN := Lib.hid hn
  have hHop := @product_any
  have HPr := Lib.hid hHop
  have hHop2 := @plus_any
  have HPl := Lib.hid hHop2
  clear hx hn hr hl hHop hHop2
  go_enter Try.func88, Try.ntmps88
  go_wp2_with (at_make; refine make_fam rfl _ _ rfl (k + 1) (by show Value.int .i64 ((k : Int) + 1) = .int .i64 ((k + 1 : Nat) : Int); rw [Int.natCast_add]; rfl) (by show Value.int .i64 ((k : Int) + 1) = .int .i64 ((k + 1 : Nat) : Int); rw [Int.natCast_add]; rfl) (by omega) ?_; intro w1 ho1 hk1' hz1; obtain ⟨u0, hc0, _⟩ := ho1.cell 0 (by simp); have hf0 := ho1.free 0; have hz1n : ¬ w1.heap.size = w.heap.size := (by omega); have O1 := Lib.hid ho1; clear ho1)
  have hko : Kept w ((w1.setCell ⟨w.heap.size, 0, none⟩ (.slice (some ⟨w1.heap.size, 0, none⟩) 1 1)).alloc (.cells #[.int .i64 0] 3)) := ((hk1'.store (Nat.le_refl _) _ _).alloc _)
  have ht0 : OwnFams ((w1.setCell ⟨w.heap.size, 0, none⟩ (.slice (some ⟨w1.heap.size, 0, none⟩) 1 1)).alloc (.cells #[.int .i64 0] 3)) w.heap.size (.slice (some ⟨w.heap.size, 0, none⟩) (k + 1) (k + 1)) ([0] :: List.replicate k []) := by
    have h1 := (O1.out.kept ((Kept.refl _).alloc (.cells #[.int .i64 0] 3))).store (by simp) 0 (OwnSets.one w1 0 0 (by unfold Mk; omega) (Nat.zero_le _))
    rw [List.replicate_succ] at h1
    rw [← World.setCell_alloc_past _ _ _ _ hz1]
    exact h1
  have HT0 := Lib.hid ht0
  have HKO := Lib.hid hko
  clear ht0 hko hc0 hf0 hk1'
  go_loopw [6, 7, 8, 9, 10, 11, 12] (fun tv i _ _ _ _ _ wr => ∃ (q : Nat) (t : List (List Nat)), q ≤ n ∧ i = .int .i64 ((q : Int) - 1) ∧ t.length = k + 1 ∧ OwnFams wr w.heap.size tv t ∧ Hid ((voteDown k args q t).map (fun t => t.getD k []) = r) ∧ Kept w wr) (fun _ i _ _ _ _ _ _ => (intOf i + 1).toNat)
  case atStart => exact ⟨n, _, Nat.le_refl _, rfl, by simp, HT0.out, Lib.hid (by rw [HR.out, HN.out]; rfl), HKO.out⟩
  case round =>
    clear HT0 HKO O1
    obtain ⟨q, t, hq, rfl, htl, hot, HG, hK⟩ := hrel
    obtain ⟨g, tc, rfl, hg1, hg2, hcap⟩ := hot.shape (by intro e; rw [e] at htl; simp at htl)
    rw [htl]
    rw [htl] at hot hcap
    by_cases hpos : 0 < q
    · obtain ⟨p, rfl⟩ : ∃ p, q = p + 1 := ⟨q - 1, by omega⟩
      have e1 : ((p + 1 : Nat) : Int) - 1 = (p : Int) := by omega
      rw [e1]
      have hpx : p < args.length := by have := HN.out; omega
      have hpn : (p : Int) < (n : Int) := by omega
      obtain ⟨b, o, u, rfl, hc0, hu⟩ := HX.out p hpx
      have hgo : voteDown k args (p + 1) t = (voteUp args[p] t k).bind (voteDown k args p) := by
        show (voteUp (args.getD p []) t k).bind (voteDown k args p) = _
        rw [show args.getD p [] = args[p] by simp [List.getD_eq_getElem?_getD, hpx]]
      have hg := HG.out
      rw [hgo] at hg
      obtain ⟨arg, harg⟩ : ∃ x, x = args[p] := ⟨_, rfl⟩
      rw [← harg] at hu hg
      have HG2 := Lib.hid hg
      have HU := Lib.hid hu
      have HC0 := Lib.hid hc0
      have HOT := Lib.hid hot
      have HK := Lib.hid hK
      have hsz := hK.size
      clear e1 hgo hg harg hu hc0 hot hK HG
      go_wp2
      obtain ⟨wo, rfl⟩ : ∃ wo : World, wo = wr := ⟨_, rfl⟩
      have hst : OwnFams ((wo.alloc (.cells #[.int .i64 0] 3)).alloc (.cells #[.slice (some ⟨wo.heap.size, 0, none⟩) 1 1] 27)) wo.heap.size (.slice (some ⟨wo.heap.size + 1, 0, none⟩) 1 1) [[0]] := by
        have := OwnFams.one (B := wo.heap.size) (OwnSets.one wo 0 0 (by unfold Mk; omega) (Nat.zero_le _)) (by simp)
        simpa using this
      have HST := Lib.hid hst
      clear hst
      go_loopw [8, 9, 10, 11, 12] (fun nv j _ _ _ wi => ∃ (m : Nat) (acc : List (List Nat)), m ≤ k ∧ j = .int .i64 ((m : Int) + 1) ∧ OwnFams wi wo.heap.size nv acc ∧ Hid (voteUp arg t m = some acc) ∧ Kept wo wi) (fun _ j _ _ _ _ => k + 1 - (intOf j).toNat)
      case atStart => exact ⟨0, [[0]], Nat.zero_le _, rfl, HST.out, Lib.hid rfl, ((Kept.refl _).alloc _).alloc _⟩
      case round =>
        clear HST
        obtain ⟨m, acc, hm, rfl, hon, HV, hKi⟩ := hrel
        have hsi := hKi.size
        by_cases hmk : m < k
        · have hcu := (HK.out.trans hKi).cell HC0.out
          have huw := HU.out.kept (HK.out.trans hKi)
          obtain ⟨um, hcm0, hum0⟩ := HOT.out.cell m (by omega)
          obtain ⟨um1, hcm10, hum10⟩ := HOT.out.cell (m + 1) (by omega)
          have hcm := hKi.cell hcm0
          have hcm1 := hKi.cell hcm10
          have hum := (hum0.kept hKi).sets
          have hum1 := (hum10.kept hKi).sets
          obtain ⟨tm, htm⟩ : ∃ x, x = t[m] := ⟨_, rfl⟩
          obtain ⟨tm1, htm1⟩ : ∃ x, x = t[m + 1] := ⟨_, rfl⟩
          rw [← htm] at hum
          rw [← htm1] at hum1
          have hnx : nextAt arg t m = (productK arg tm).bind fun x => plusK x tm1 := by
            unfold nextAt
            rw [show t.getD m [] = tm by rw [htm]; simp [List.getD_eq_getElem?_getD, show m < t.length by omega], show t.getD (m + 1) [] = tm1 by rw [htm1]; simp [List.getD_eq_getElem?_getD, show m + 1 < t.length by omega]]
          have hvu : voteUp arg t (m + 1) = (nextAt arg t m).map fun x => acc ++ [x] := by
            show ((voteUp arg t m).bind fun acc => (nextAt arg t m).map fun x => acc ++ [x]) = _
            rw [HV.out]; rfl
          have hal := len_voteUp arg t m acc HV.out
          have HNX := Lib.hid hnx
          have HVU := Lib.hid hvu
          have HUW := Lib.hid huw
          have HUM := Lib.hid hum
          have HUM1 := Lib.hid hum1
          have HON := Lib.hid hon
          have HKI := Lib.hid hKi
          have hi1 : (m : Int) < ((k + 1 : Nat) : Int) ∧ (m : Int) + 1 < ((k + 1 : Nat) : Int) := by omega
          have hi2 : (m : Int) + 1 ≤ (k : Int) := by omega
          clear hnx hvu huw hum hum1 hon hum0 hum10 hcm0 hcm10 htm htm1 hKi
          cases hp : productK arg tm with
          | none =>
            have HP := Lib.hid hp
            clear hp
            have hw1 := wrapS m (by omega)
            have hw3 := wrapT m (by omega)
            have hw2 : (0 : Int) ≤ (m : Int) ∧ (m : Int) < (k : Int) + 1 := by omega
            go_wp2
            go_region_held3 (fun w' => w'.cell? ⟨b, o + p, none⟩ = some u ∧ w'.cell? ⟨g, m, none⟩ = some um)
              (first | go_keep | exact ⟨hk5.cell hcu, hk5.cell hcm⟩)
              (first | (go_at_call 48; refine (HPr.out arg tm u um _ (HUW.out.kept (Kept.refl _).drew) (HUM.out.kept (Kept.refl _).drew)).mono ?_; rintro e w5 ⟨he, hk5⟩; rw [HP.out] at he; unfold LRes at he; subst he; rw [errV_pos (show (4 : Nat) ≠ 0 by decide)]))
            go_wp2
            go_ret2
            have hrn : r = none := by
              rw [← HG2.out, voteUp_none arg t (m + 1) (by rw [HVU.out, HNX.out, HP.out]; rfl) k (by omega)]; rfl
            exact ⟨by rw [hrn]; rfl, (HK.out.trans HKI.out).trans ((Kept.refl _).drew.trans hk5)⟩
          | some x =>
            have HP := Lib.hid hp
            clear hp
            have hw1 := wrapS m (by omega)
            have hw3 := wrapT m (by omega)
            have hw2 : (0 : Int) ≤ (m : Int) ∧ (m : Int) < (k : Int) + 1 := by omega
            cases hq2 : plusK x tm1 with
            | none =>
              have HQ := Lib.hid hq2
              clear hq2
              go_wp2
              go_region_held3 (fun w' => w'.cell? ⟨b, o + p, none⟩ = some u ∧ w'.cell? ⟨g, m, none⟩ = some um)
                (first | go_keep | exact ⟨hk5.cell hcu, hk5.cell hcm⟩)
                (first | (go_at_call 48; refine (HPr.out arg tm u um _ (HUW.out.kept (Kept.refl _).drew) (HUM.out.kept (Kept.refl _).drew)).mono ?_; rintro e w5 ⟨he, hk5⟩; rw [HP.out] at he; unfold LRes at he; obtain ⟨v5, rfl, ho5⟩ := he; have O5 := Lib.hid ho5; clear ho5))
              have hk5' : Kept wr w5 := (Kept.refl _).drew.trans hk5
              have hcm1' := hk5'.cell hcm1
              clear hw1 hw3
              go_wp2_with (go_at_call 49; refine (HPl.out x tm1 v5 um1 _ O5.out.sets (HUM1.out.kept hk5')).mono ?_; rintro e w6 ⟨he, hk6⟩; rw [HQ.out] at he; unfold LRes at he; subst he; rw [errV_pos (show (4 : Nat) ≠ 0 by decide)])
              go_ret2
              have hrn : r = none := by
                rw [← HG2.out, voteUp_none arg t (m + 1) (by rw [HVU.out, HNX.out, HP.out]; simp [HQ.out]) k (by omega)]; rfl
              exact ⟨by rw [hrn]; rfl, ((HK.out.trans HKI.out).trans hk5').trans hk6⟩
            | some y =>
              have HQ := Lib.hid hq2
              clear hq2
              go_wp2
              go_region_held3 (fun w' => w'.cell? ⟨b, o + p, none⟩ = some u ∧ w'.cell? ⟨g, m, none⟩ = some um)
                (first | go_keep | exact ⟨hk5.cell hcu, hk5.cell hcm⟩)
                (first | (go_at_call 48; refine (HPr.out arg tm u um _ (HUW.out.kept (Kept.refl _).drew) (HUM.out.kept (Kept.refl _).drew)).mono ?_; rintro e w5 ⟨he, hk5⟩; rw [HP.out] at he; unfold LRes at he; obtain ⟨v5, rfl, ho5⟩ := he; have O5 := Lib.hid ho5; clear ho5))
              have hk5' : Kept wr w5 := (Kept.refl _).drew.trans hk5
              have hcm1' := hk5'.cell hcm1
              clear hw1 hw3
              go_wp2_with (first
                | (go_at_call 49; refine (HPl.out x tm1 v5 um1 _ O5.out.sets (HUM1.out.kept hk5')).mono ?_; rintro e w6 ⟨he, hk6⟩; rw [HQ.out] at he; unfold LRes at he; obtain ⟨v6, rfl, ho6⟩ := he; have hz6 := hk6.size; have hz5 := hk5'.size; obtain ⟨xa, xn, xc, rfl⟩ := ho6.1.ints.shape; have O6 := Lib.hid ho6; clear ho6)
                | (at_builtin; refine app_fam rfl _ _ rfl wo.heap.size _ acc rfl (HON.out.kept (((hk5'.trans hk6).alloc _))) _ _ y rfl (by simp) ((O6.out.mono (Nat.zero_le _)).kept ((Kept.refl _).alloc _)) (by omega) (by simp; omega) ?_; intro nv' w7 hown7 hg7 hb7; have O7 := Lib.hid hown7; clear hown7))
              go_roundw
              case rel => exact ⟨m + 1, _, by omega, by go_num, O7.out, Lib.hid (by rw [HVU.out, HNX.out, HP.out]; simp [HQ.out]), HKI.out.trans hk5' |>.trans hk6 |>.alloc _ |>.app hb7⟩
              case measure => simp [intOf]; omega
        · have e : m = k := by omega
          subst e
          have hal := len_voteUp arg t m acc HV.out
          have h2 := HG2.out
          rw [HV.out] at h2
          have H2 := Lib.hid h2
          have HON := Lib.hid (hon.mono hsz)
          have HKI := Lib.hid hKi
          clear h2 hon hKi
          go_wp2
          go_roundw
          case rel => exact ⟨p, acc, by omega, by go_num, hal, HON.out, Lib.hid (by simpa using H2.out), HK.out.trans HKI.out⟩
          case measure => simp [intOf]
    · have e : q = 0 := by omega
      subst e
      obtain ⟨uk, hck, huk⟩ := hot.cell k (by omega)
      have hki : (k : Int) < ((k + 1 : Nat) : Int) := by omega
      have hki2 : (k : Int) < (k : Int) + 1 := by omega
      have hrr : r = some t[k] := by
        rw [← HG.out]
        show some (t.getD k []) = _
        rw [show t.getD k [] = t[k] by simp [List.getD_eq_getElem?_getD, show k < t.length by omega]]
      have HRR := Lib.hid hrr
      have HUK := Lib.hid huk
      clear hrr huk hot
      go_wp2
      go_ret2
      exact ⟨by rw [HRR.out]; exact ⟨_, rfl, HUK.out⟩, hK⟩
end Go.Proofs.Ytapniojbnochiaa

/-
  Walks: bottomup.node.
-/
namespace Go.Proofs.Ytapniojbnochiaa
open Go.RowKit

def nodeK (kind : Int) (k : Int) (fams : List (List Nat)) : Option (List Nat) :=
  if kind = 0 then (if k = 1 then some [0] else some []) else if kind = 3 then foldK plusK [] fams else if kind = 2 then foldK productK [0] fams else voteK fams k.toNat

set_option maxHeartbeats 1000000 in
theorem node_const (k : Int) (ua : Option Addr) (un uc : Nat) (v : Value) (fams : List (List Nat)) (w : World) :
    Calls Try.prog 58 #[.agg #[.int .i64 0, .int .i64 k, .slice ua un uc], v] w fun e w' => LRes w' 0 e (nodeK 0 k fams) ∧ Kept w w' := by
  by_cases h1 : k = 1
  · subst h1
    go_enter Try.func58, Try.ntmps58
    go_wp2
    go_ret2
    refine ⟨⟨_, rfl, ?_⟩, ((Kept.refl _).alloc _).alloc _⟩
    have := OwnSets.one (w.alloc (.cells #[.int .i64 0, .int .i64 1, .slice ua un uc] 47)) 0 0 (by unfold Mk; omega) (Nat.zero_le _)
    simpa using this
  · have b1 : (k == 1) = false := by simpa using h1
    have e : nodeK 0 k fams = some [] := by unfold nodeK; rw [if_pos rfl, if_neg h1]
    rw [e]
    clear e h1
    go_enter Try.func58, Try.ntmps58
    go_wp2
    go_ret2
    exact ⟨⟨_, rfl, OwnSets.nil _ _⟩, (Kept.refl _).alloc _⟩
set_option maxHeartbeats 1000000 in
theorem node_and (k : Int) (ua : Option Addr) (un uc : Nat) (v : Value) (fams : List (List Nat)) (w : World) (hv : FamsAt w v fams) (hne : fams ≠ []) :
    Calls Try.prog 58 #[.agg #[.int .i64 2, .int .i64 k, .slice ua un uc], v] w fun e w' => LRes w' 0 e (foldK productK [0] fams) ∧ Kept w w' := by
  have h : Calls Try.prog 87 #[v, .slice (some ⟨w.heap.size + 1, 0, none⟩) 1 1, .func (.func 48) #[] #[]] ((w.alloc (.cells #[.int .i64 2, .int .i64 k, .slice ua un uc] 47)).alloc (.cells #[.int .i64 0] 3)) fun e w' => LRes w' (w.heap.size + 2) e (foldK productK [0] fams) ∧ Kept ((w.alloc (.cells #[.int .i64 2, .int .i64 k, .slice ua un uc] 47)).alloc (.cells #[.int .i64 0] 3)) w' := by
    have := fold_any 48 (enters_of Try.func48 (by kernel_rfl) rfl) productK (fun a b va vb w h1 h2 => product_any a b va vb w h1 h2) v _ fams [0] ((w.alloc (.cells #[.int .i64 2, .int .i64 k, .slice ua un uc] 47)).alloc (.cells #[.int .i64 0] 3)) (hv.kept (((Kept.refl _).alloc _).alloc _)) (OwnSets.one (w.alloc (.cells #[.int .i64 2, .int .i64 k, .slice ua un uc] 47)) 0 0 (by unfold Mk; omega) (Nat.zero_le _)).sets hne
    simpa only [World.size_alloc] using this
  obtain ⟨r, hr⟩ : ∃ r, r = foldK productK [0] fams := ⟨_, rfl⟩
  rw [← hr] at h ⊢
  have H := Lib.hid h
  clear hr hv hne h
  cases r with
  | none =>
    go_enter Try.func58, Try.ntmps58
    go_wp2_with (go_at_call 87; refine H.out.mono ?_; rintro e w5 ⟨he, hk5⟩; unfold LRes at he; subst he; rw [errV_pos (show (4 : Nat) ≠ 0 by decide)])
    go_ret2
    exact ⟨rfl, (((Kept.refl _).alloc _).alloc _).trans hk5⟩
  | some l =>
    go_enter Try.func58, Try.ntmps58
    go_wp2_with (go_at_call 87; refine H.out.mono ?_; rintro e w5 ⟨⟨v5, rfl, ho5⟩, hk5⟩)
    go_ret2
    exact ⟨⟨_, rfl, ho5.mono (Nat.zero_le _)⟩, (((Kept.refl _).alloc _).alloc _).trans hk5⟩
set_option maxHeartbeats 1000000 in
theorem node_or (k : Int) (ua : Option Addr) (un uc : Nat) (v : Value) (fams : List (List Nat)) (w : World) (hv : FamsAt w v fams) (hne : fams ≠ []) :
    Calls Try.prog 58 #[.agg #[.int .i64 3, .int .i64 k, .slice ua un uc], v] w fun e w' => LRes w' 0 e (foldK plusK [] fams) ∧ Kept w w' := by
  have h : ∀ W, Kept w W → Calls Try.prog 87 #[v, .slice none 0 0, .func (.func 49) #[] #[]] W fun e w' => LRes w' W.heap.size e (foldK plusK [] fams) ∧ Kept W w' := fun W hk => fold_any 49 (enters_of Try.func49 (by kernel_rfl) rfl) plusK (fun a b va vb w h1 h2 => plus_any a b va vb w h1 h2) v _ fams [] W (hv.kept hk) (OwnSets.nil W 0).sets hne
  obtain ⟨r, hr⟩ : ∃ r, r = foldK plusK [] fams := ⟨_, rfl⟩
  rw [← hr] at h ⊢
  have H := Lib.hid h
  clear hr hv hne h
  cases r with
  | none =>
    go_enter Try.func58, Try.ntmps58
    go_wp2_with (go_at_call 87; refine (H.out _ ((Kept.refl _).alloc _)).mono ?_; rintro e w5 ⟨he, hk5⟩; unfold LRes at he; subst he; rw [errV_pos (show (4 : Nat) ≠ 0 by decide)])
    go_ret2
    exact ⟨rfl, ((Kept.refl _).alloc _).trans hk5⟩
  | some l =>
    go_enter Try.func58, Try.ntmps58
    go_wp2_with (go_at_call 87; refine (H.out _ ((Kept.refl _).alloc _)).mono ?_; rintro e w5 ⟨⟨v5, rfl, ho5⟩, hk5⟩)
    go_ret2
    exact ⟨⟨_, rfl, ho5.mono (Nat.zero_le _)⟩, ((Kept.refl _).alloc _).trans hk5⟩
set_option maxHeartbeats 1000000 in
theorem node_vote (k : Nat) (ua : Option Addr) (un uc : Nat) (v : Value) (fams : List (List Nat)) (w : World) (hv : FamsAt w v fams) (h1 : 1 ≤ k) (h2 : k ≤ fams.length) (hl : fams.length ≤ 1000) :
    Calls Try.prog 58 #[.agg #[.int .i64 4, .int .i64 k, .slice ua un uc], v] w fun e w' => LRes w' 0 e (voteK fams k) ∧ Kept w w' := by
  have h : ∀ W, Kept w W → Calls Try.prog 88 #[v, .int .i64 k] W fun e w' => LRes w' 0 e (voteK fams k) ∧ Kept W w' := fun W hk => vote_any v fams k W (hv.kept hk) h1 h2 hl
  obtain ⟨r, hr⟩ : ∃ r, r = voteK fams k := ⟨_, rfl⟩
  rw [← hr] at h ⊢
  have H := Lib.hid h
  clear hr hv h h1 h2 hl
  cases r with
  | none =>
    go_enter Try.func58, Try.ntmps58
    go_wp2_with (go_at_call 88; refine (H.out _ ((Kept.refl _).alloc _)).mono ?_; rintro e w5 ⟨he, hk5⟩; unfold LRes at he; subst he; rw [errV_pos (show (4 : Nat) ≠ 0 by decide)])
    go_ret2
    exact ⟨rfl, ((Kept.refl _).alloc _).trans hk5⟩
  | some l =>
    go_enter Try.func58, Try.ntmps58
    go_wp2_with (go_at_call 88; refine (H.out _ ((Kept.refl _).alloc _)).mono ?_; rintro e w5 ⟨⟨v5, rfl, ho5⟩, hk5⟩)
    go_ret2
    exact ⟨⟨_, rfl, ho5.mono (Nat.zero_le _)⟩, ((Kept.refl _).alloc _).trans hk5⟩
theorem node_any (kind k : Int) (ua : Option Addr) (un uc : Nat) (v : Value) (fams : List (List Nat)) (w : World) (hv : FamsAt w v fams) (hne : kind ≠ 0 → fams ≠ []) (h4 : kind = 4 → 1 ≤ k ∧ k ≤ fams.length) (hl : fams.length ≤ 1000)
    (hk : kind = 0 ∨ kind = 2 ∨ kind = 3 ∨ kind = 4) :
    Calls Try.prog 58 #[.agg #[.int .i64 kind, .int .i64 k, .slice ua un uc], v] w fun e w' => LRes w' 0 e (nodeK kind k fams) ∧ Kept w w' := by
  rcases hk with rfl | rfl | rfl | rfl
  · exact node_const k ua un uc v fams w
  · rw [show nodeK 2 k fams = foldK productK [0] fams by unfold nodeK; rw [if_neg (by decide), if_neg (by decide), if_pos rfl]]
    exact node_and k ua un uc v fams w hv (hne (by decide))
  · rw [show nodeK 3 k fams = foldK plusK [] fams by unfold nodeK; rw [if_neg (by decide), if_pos rfl]]
    exact node_or k ua un uc v fams w hv (hne (by decide))
  · obtain ⟨kk, hkk⟩ := Int.eq_ofNat_of_zero_le (show 0 ≤ k by have := h4 rfl; omega)
    subst hkk
    have h5 := h4 rfl
    rw [show nodeK 4 (kk : Int) fams = voteK fams kk by unfold nodeK; rw [if_neg (by decide), if_neg (by decide), if_neg (by decide)]; rfl]
    exact node_vote kk ua un uc v fams w hv (by omega) (by omega) hl
end Go.Proofs.Ytapniojbnochiaa

/-
  Walks: bottomup.Families.
-/
namespace Go.Proofs.Ytapniojbnochiaa
open Go.RowKit

def famArg (V : Nat) (out : List (List Nat)) (a : Int) : List Nat := if a < V then [2 ^ a.toNat] else out.getD (a - V).toNat []
def famStep (V : Nat) (mark : List Bool) (nodes : List Nd) (out : List (List Nat)) (i : Nat) : Option (List (List Nat)) :=
  if mark.getD (V + i) false then (nodeK (nodes.getD i noNd).kind (nodes.getD i noNd).k ((nodes.getD i noNd).args.map (famArg V out))).map fun l => out.set i l else some out
def famsUp (V : Nat) (mark : List Bool) (nodes : List Nd) : Nat → Option (List (List Nat))
  | 0 => some (List.replicate nodes.length [])
  | k + 1 => (famsUp V mark nodes k).bind fun out => famStep V mark nodes out k
/-- The families of all needed nodes. -/
def famsK (V T : Nat) (nodes : List Nd) : Option (List (List Nat)) := famsUp V (belowK V T nodes) nodes nodes.length
theorem famsUp_none (V : Nat) (mark : List Bool) (nodes : List Nd) (m : Nat) (h : famsUp V mark nodes m = none) : ∀ k, m ≤ k → famsUp V mark nodes k = none := by
  intro k hk
  induction k with
  | zero => have : m = 0 := by omega
            subst this; exact h
  | succ k ih =>
    by_cases e : m = k + 1
    · subst e; exact h
    · unfold famsUp; rw [ih (by omega)]; rfl
theorem len_famsUp (V : Nat) (mark : List Bool) (nodes : List Nd) : ∀ k out, famsUp V mark nodes k = some out → out.length = nodes.length := by
  intro k
  induction k with
  | zero => intro out h; cases h; simp
  | succ k ih =>
    intro out h
    unfold famsUp at h
    cases h1 : famsUp V mark nodes k with
    | none => rw [h1] at h; cases h
    | some o =>
      rw [h1] at h
      simp only [Option.bind_some, famStep] at h
      split at h
      · cases h2 : nodeK (nodes.getD k noNd).kind (nodes.getD k noNd).k ((nodes.getD k noNd).args.map (famArg V o)) with
        | none => rw [h2] at h; cases h
        | some l => rw [h2] at h; cases h; simp [ih o h1]
      · cases h; exact ih _ h1
theorem mem_kindsUp (V : Nat) (mark : List Bool) (nodes : List Nd) (i : Nat) (h : mark.getD (V + i) false = true) : ∀ k, i < k → (nodes.getD i noNd).kind ∈ kindsUp V mark nodes k := by
  intro k hk
  induction k with
  | zero => omega
  | succ k ih =>
    unfold kindsUp
    by_cases e : i = k
    · subst e; rw [h]; simp
    · split
      · exact List.mem_append.2 (.inl (ih (by omega)))
      · exact ih (by omega)
theorem kind_mono {V T : Nat} {f : Fm} (hok : Ok f V T) (hs : synK V T f = true) (i : Nat) (hi : i < f.nodes.length) (h : (belowK V T f.nodes).getD (V + i) false = true) :
    f.nodes[i].kind = 0 ∨ f.nodes[i].kind = 2 ∨ f.nodes[i].kind = 3 ∨ f.nodes[i].kind = 4 := by
  have h1 := mem_kindsUp V _ f.nodes i h f.nodes.length hi
  unfold synK monoK at hs
  have h2 := List.all_eq_true.1 hs _ h1
  rw [show f.nodes.getD i noNd = f.nodes[i] by simp [List.getD_eq_getElem?_getD, hi]] at h2
  have h3 := hok.kind i hi
  simp at h2
  omega
def FRes (w' : World) (B : Nat) (e : Ending) (r : Option (List (List Nat))) : Prop :=
  match r with
  | some l => ∃ v, e = .returned (.tuple #[v, .nilIface]) ∧ OwnFams w' B v l
  | none => e = .returned (.tuple #[.slice none 0 0, errV 4])
theorem shl_mk (Y : Nat) (h : Y < 24) : wrap64 ((2 : Int) ^ Y) = ((2 ^ Y : Nat) : Int) ∧ Mk (2 ^ Y) := by
  have h1 : (2 : Nat) ^ Y < 2 ^ 24 := Nat.pow_lt_pow_right (by omega) h
  refine ⟨?_, h1⟩
  rw [show (2 : Int) ^ Y = ((2 ^ Y : Nat) : Int) by simp]
  generalize (2 : Nat) ^ Y = z at h1 ⊢
  unfold wrap64; omega
theorem OwnSets.shl (w : World) (Y : Nat) (h : Y < 24) : OwnSets (w.alloc (.cells #[.int .i64 (wrap64 ((2 : Int) ^ Y))] 3)) 0 (.slice (some ⟨w.heap.size, 0, none⟩) 1 1) [2 ^ Y] := by
  rw [(shl_mk Y h).1]
  exact OwnSets.one w 0 (2 ^ Y) (shl_mk Y h).2 (Nat.zero_le _)

set_option maxRecDepth 100000 in
set_option maxHeartbeats 2000000 in
theorem families_bad (v : Value) (f : Fm) (w : World) (hv : NodesAt w v f.nodes) (ht : f.top ≤ 9223372036854775807) (hck : chkF f ≠ 0) :
    Calls Try.prog 24 #[fmV v f] w fun e w' => e = .returned (.tuple #[.slice none 0 0, errV (chkF f)]) ∧ Kept w w' := by
  have h : ∀ W, Kept w W → Calls Try.prog 56 #[fmV v f] W fun e w' => e = .returned (.tuple #[.bool false, errV (chkF f)]) ∧ Kept W w' := fun W hk => syntax_err v f W (hv.kept hk) ht hck
  have H := Lib.hid h
  have E2 := Lib.hid (errV_pos hck)
  obtain ⟨q, hq⟩ : ∃ q, q = chkF f := ⟨_, rfl⟩
  rw [← hq] at H E2 ⊢
  clear hv ht hck hq h
  go_enter Try.func24, Try.ntmps24
  go_wp2_with (go_at_call 56; refine (H.out _ ((Kept.refl _).alloc _)).mono ?_; rintro e w1 ⟨rfl, hk1⟩; rw [E2.out])
  go_ret2
  exact ⟨by rw [E2.out]; rfl, (((Kept.refl _).alloc _).trans hk1)⟩
set_option maxRecDepth 100000 in
set_option maxHeartbeats 2000000 in
theorem families_typed (v : Value) (f : Fm) (V T : Nat) (w : World) (hv : NodesAt w v f.nodes) (hok : Ok f V T) (hck : chkF f = 0) (hs : synK V T f = false) :
    Calls Try.prog 24 #[.agg #[.int .i64 V, v, .int .i64 T]] w fun e w' => e = .returned (.tuple #[.slice none 0 0, errV 7]) ∧ Kept w w' := by
  have h : ∀ W, Kept w W → Calls Try.prog 56 #[.agg #[.int .i64 V, v, .int .i64 T]] W fun e w' => e = .returned (.tuple #[.bool false, .nilIface]) ∧ Kept W w' := fun W hk => by
    have := syntax_ok v f V T W (hv.kept hk) hok hck
    rw [hs] at this; exact this
  have H := Lib.hid h
  clear hv hok hck hs h
  go_enter Try.func24, Try.ntmps24
  go_wp2_with (go_at_call 56; refine (H.out _ ((Kept.refl _).alloc _)).mono ?_; rintro e w1 ⟨rfl, hk1⟩)
  go_ret2
  exact ⟨rfl, (((Kept.refl _).alloc _).trans hk1)⟩
set_option maxRecDepth 100000 in
set_option maxHeartbeats 8000000 in
theorem families_ok (v : Value) (f : Fm) (V T : Nat) (w : World) (hv : NodesAt w v f.nodes) (hok : Ok f V T) (hck : chkF f = 0) (hs : synK V T f = true) :
    Calls Try.prog 24 #[.agg #[.int .i64 V, v, .int .i64 T]] w fun e w' => FRes w' 0 e (famsK V T f.nodes) ∧ Kept w w' := by
  have h1 : ∀ W, Kept w W → Calls Try.prog 56 #[.agg #[.int .i64 V, v, .int .i64 T]] W fun e w' => e = .returned (.tuple #[.bool true, .nilIface]) ∧ Kept W w' := fun W hk => by
    have := syntax_ok v f V T W (hv.kept hk) hok hck
    rw [hs] at this; exact this
  have h2 : ∀ W, Kept w W → Calls Try.prog 57 #[.agg #[.int .i64 V, v, .int .i64 T]] W fun e w' => ∃ g, e = .returned (.slice (some ⟨g, 0, none⟩) (V + f.nodes.length) (V + f.nodes.length)) ∧ W.heap.size ≤ g ∧ RowAt w' g 4 ((belowK V T f.nodes).map .bool) ∧ Kept W w' := fun W hk => needed_any v f V T W (hv.kept hk) hok
  obtain ⟨r, hr⟩ : ∃ r, r = famsK V T f.nodes := ⟨_, rfl⟩
  rw [← hr]
  obtain ⟨mark, hmark⟩ : ∃ m, m = belowK V T f.nodes := ⟨_, rfl⟩
  have hml : mark.length = V + f.nodes.length := by rw [hmark, len_belowK]
  have hkm := fun i hi h => kind_mono hok hs i hi h
  unfold famsK at hr
  rw [← hmark] at hr h2 hkm
  obtain ⟨a, c, rfl, _, hl, hx⟩ := hv
  obtain ⟨n, hn⟩ : ∃ n, n = f.nodes.length := ⟨_, rfl⟩
  rw [← hn] at h1 h2 hml hr ⊢
  have hn9 : n ≤ 128 := by rw [hn]; exact hok.n128
  have hV9 := hok.v24
  have hT9 : T < V + n := by rw [hn]; exact hok.tlt
  have H1 := Lib.hid h1
  have H2 := Lib.hid h2
  have HX := Lib.hid hx
  have HN := Lib.hid hn
  have HO := Lib.hid hok
  have HR := Lib.hid hr
  have HML := Lib.hid hml
  have HKM := Lib.hid hkm
  clear h1 h2 hx hn hok hr hml hl hck hs hkm hmark
  go_enter Try.func24, Try.ntmps24
  go_wp2_with (first
    | (go_at_call 56; refine (H1.out _ ((Kept.refl _).alloc _)).mono ?_; rintro e w1 ⟨rfl, hk1⟩; have b0 := hk1.cell (p := ⟨w.heap.size, 0, none⟩) (v := .int .i64 V) (by simp); have b1 := hk1.cell (p := ⟨w.heap.size, 1, none⟩) (v := .slice a n c) (by simp); have b2 := hk1.cell (p := ⟨w.heap.size, 2, none⟩) (v := .int .i64 T) (by simp))
    | (go_at_call 57; refine (H2.out _ (((Kept.refl _).alloc _).trans hk1)).mono ?_; rintro e w2 ⟨gn, rfl, hgn, hrn, hk2⟩; have d0 := hk2.cell b0; have d1 := hk2.cell b1; have HRN := Lib.hid hrn; clear hrn)
    | (at_make; refine make_fam rfl _ _ rfl n rfl rfl (by omega) ?_; intro w3 ho3 hk3 hz3; have c0 := hk3.cell d0; have c1 := hk3.cell d1; have O3 := Lib.hid ho3; clear ho3))
  have hkb : Kept (w.alloc (.cells #[.int .i64 V, .slice a n c, .int .i64 T] 24)) w2 := hk1.trans hk2
  have HKB := Lib.hid hkb
  have HK3 := Lib.hid hk3
  clear b0 b1 b2 d0 d1 c0 c1 hkb hk1 hk2 hk3
  go_loopw [5, 8, 9, 10, 12, 33, 49] (fun _ _ _ _ _ i _ wr => ∃ (k : Nat) (out : List (List Nat)), k ≤ n ∧ i = .int .i64 k ∧ Hid (famsUp V mark f.nodes k = some out ∧ OwnFams wr w2.heap.size (.slice (some ⟨w2.heap.size, 0, none⟩) n n) out) ∧ Kept w2 wr) (fun _ _ _ _ _ i _ _ => n - (intOf i).toNat)
  case atStart => exact ⟨0, List.replicate n [], Nat.zero_le _, rfl, Lib.hid ⟨by rw [HN.out]; rfl, O3.out⟩, HK3.out⟩
  case round =>
    obtain ⟨k, out, hk, rfl, HI, hK⟩ := hrel
    have hkW := HKB.out.trans hK
    have q0 := hkW.cell (p := ⟨w.heap.size, 0, none⟩) (v := .int .i64 V) (by simp)
    have q1 := hkW.cell (p := ⟨w.heap.size, 1, none⟩) (v := .slice a n c) (by simp)
    by_cases hlt : k < n
    · have hkx : k < f.nodes.length := by have := HN.out; omega
      have hol : out.length = n := by rw [len_famsUp V mark f.nodes k out HI.out.1, HN.out]
      have hup : famsUp V mark f.nodes (k + 1) = famStep V mark f.nodes out k := by
        show ((famsUp V mark f.nodes k).bind fun out => famStep V mark f.nodes out k) = _
        rw [HI.out.1]; rfl
      have hmc := (HRN.out.kept hK).cell (i := V + k) (by simp [HML.out]; omega)
      rw [getD_map_bool mark (V + k) (by rw [HML.out]; omega)] at hmc
      obtain ⟨b, o, rfl, u, hc1, hc2, hc3, hI⟩ := HX.out k hkx
      have hkA : Kept w wr := ((Kept.refl w).alloc (.cells #[.int .i64 V, .slice (some ⟨b, o, none⟩) n c, .int .i64 T] 24)).trans hkW
      have hrange := node_range (hkA.cell hc1) (hkA.cell hc2) (hkA.cell hc3)
      obtain ⟨ax, cx, rfl, _, hlx, hcx⟩ := hI
      have hargs := HO.out.args k hkx
      have h16 := argsOk_le (HO.out.argc k hkx)
      have hargc := HO.out.argc k hkx
      have harit := HO.out.arity k hkx
      have hmono := HKM.out k hkx
      have hstep : famStep V mark f.nodes out k = if mark.getD (V + k) false then (nodeK f.nodes[k].kind f.nodes[k].k (f.nodes[k].args.map (famArg V out))).map (fun l => out.set k l) else some out := by
        unfold famStep
        rw [show f.nodes.getD k noNd = f.nodes[k] by simp [List.getD_eq_getElem?_getD, hkx]]
      rw [hstep] at hup
      obtain ⟨kd, hkd⟩ : ∃ x, x = f.nodes[k].kind := ⟨_, rfl⟩
      obtain ⟨kk, hkk⟩ : ∃ x, x = f.nodes[k].k := ⟨_, rfl⟩
      obtain ⟨args, hag⟩ : ∃ x, x = f.nodes[k].args := ⟨_, rfl⟩
      rw [← hag] at hcx hargs hlx h16 hargc harit hup hrange
      rw [← hkd] at hargc harit hmono hup hrange
      rw [← hkk] at harit hup hrange
      obtain ⟨na, hna⟩ : ∃ x, x = args.length := ⟨_, rfl⟩
      rw [← hna] at hlx h16 hargc harit hrange
      have HRG := Lib.hid hrange
      have HUP := Lib.hid hup
      have HCX := Lib.hid hcx
      have HAR := Lib.hid hargs
      have HNA := Lib.hid hna
      have HGC := Lib.hid hargc
      have HRT := Lib.hid harit
      have HMO := Lib.hid hmono
      have HKA := Lib.hid hkA
      have HK := Lib.hid hK
      have hi1 : (V : Int) + (k : Int) < (V : Int) + (n : Int) := by omega
      have hi2 : (V : Int) + (k : Int) < ((V + n : Nat) : Int) := by omega
      have hgl : gn < wr.heap.size := Nat.lt_of_lt_of_le HRN.out.lt hK.size
      have hlw : w.heap.size < wr.heap.size := by have := hkW.size; simp at this; omega
      clear hc1 hc2 hc3 hrange hup hcx hargs hna hargc harit hmono hkA hK hkW hstep hkd hkk hag
      cases hmk : mark.getD (V + k) false with
      | false =>
        rw [hmk] at hmc
        have HMK := Lib.hid hmk
        clear hmk
        go_wp2_with (with_reducible refine wpList_load_mid rfl 47 _ rfl b (o + k * 3) rfl _ _ HRG.out Try.underlying47 rfl (by kernel_rfl) ?_)
        go_roundw
        case rel => exact ⟨k + 1, out, by omega, by go_num, Lib.hid ⟨by rw [HUP.out, HMK.out]; rfl, HI.out.2.kept ((Kept.refl _).alloc _)⟩, HK.out.alloc _⟩
        case measure => simp [intOf]; omega
      | true =>
        rw [hmk] at hmc
        have HMK := Lib.hid hmk
        clear hmk
        go_wp2_with (with_reducible refine wpList_load_mid rfl 47 _ rfl b (o + k * 3) rfl _ _ HRG.out Try.underlying47 rfl (by kernel_rfl) ?_)
        obtain ⟨wo, rfl⟩ : ∃ wo : World, wo = wr := ⟨_, rfl⟩
        clear hmc
        go_loopw [10, 12, 49] (fun av _ j wi => ∃ (p : Nat) (acc : List (List Nat)), p ≤ na ∧ j = .int .i64 p ∧ Hid (acc = (args.take p).map (famArg V out)) ∧ OwnFams wi (wo.heap.size + 1) av acc ∧ Kept (wo.alloc (.cells #[.int .i64 kd, .int .i64 kk, .slice ax na cx] 47)) wi) (fun _ _ j _ => na - (intOf j).toNat)
        case atStart => exact ⟨0, [], Nat.zero_le _, rfl, Lib.hid rfl, OwnFams.nil _ _, Kept.refl _⟩
        case round =>
          obtain ⟨p, acc, hp, rfl, HA, hacc, hKi⟩ := hrel
          have hsi := hKi.size
          simp only [World.size_alloc] at hsi
          have hal : acc.length ≤ 16 := by rw [HA.out]; simp; omega
          have hKw : Kept wo wr := ((Kept.refl _).alloc _).trans hKi
          have q0 := (HKB.out.trans (HK.out.trans hKw)).cell (p := ⟨w.heap.size, 0, none⟩) (v := .int .i64 V) (by simp)
          by_cases hpn : p < na
          · have hpx : p < args.length := by have := HNA.out; omega
            obtain ⟨b2, o2, rfl, hc0⟩ := HCX.out p hpx
            have hcell := (HKA.out.trans hKw).cell hc0
            obtain ⟨y, hy⟩ : ∃ y, y = args[p] := ⟨_, rfl⟩
            have hy2 := HAR.out args[p] (List.getElem_mem _)
            rw [← hy] at hcell hy2
            obtain ⟨Y, hY⟩ := Int.eq_ofNat_of_zero_le hy2.1
            subst hY
            have hst : (args.take (p + 1)).map (famArg V out) = acc ++ [famArg V out (Y : Int)] := by
              rw [List.take_succ_eq_append_getElem hpx, List.map_append, ← HA.out, ← hy]; rfl
            have HST := Lib.hid hst
            have HAC := Lib.hid hacc
            have HKI := Lib.hid hKi
            clear hc0 hy hst hacc hKi
            by_cases hYV : Y < V
            · have hYV2 : (Y : Int) < (V : Int) := by omega
              have hfa : famArg V out (Y : Int) = [2 ^ Y] := by unfold famArg; rw [if_pos hYV2]; rfl
              have HFA := Lib.hid hfa
              clear hfa
              go_wp2_with (at_builtin; refine app_fam rfl _ _ rfl (wo.heap.size + 1) _ acc rfl (HAC.out.kept (((Kept.refl _).alloc _).alloc _)) _ _ [2 ^ Y] rfl (by simp) ((OwnSets.shl wr Y (by omega)).kept ((Kept.refl _).alloc _)) (by omega) (by simp; omega) ?_; intro nv' w7 hown7 hg7 hb7; have O7 := Lib.hid hown7; clear hown7)
              go_roundw
              case rel => exact ⟨p + 1, _, by omega, by go_num, Lib.hid (by rw [HST.out, HFA.out]), O7.out, (HKI.out.alloc _).alloc _ |>.app (hb7.mono (by simp))⟩
              case measure => simp [intOf]; omega
            · have hYV2 : ¬ (Y : Int) < (V : Int) := by omega
              obtain ⟨Z, hZ⟩ : ∃ Z, Y = V + Z := ⟨Y - V, by omega⟩
              subst hZ
              have hZk : Z < k := by omega
              have hZn : (Z : Int) < (n : Int) := by omega
              obtain ⟨uz, hcz0, huz0⟩ := HI.out.2.cell Z (by omega)
              have hcz := hKw.cell hcz0
              have huz := huz0.kept hKw
              obtain ⟨za, zn, zc, rfl⟩ := huz.1.ints.shape
              have hfa : famArg V out ((V + Z : Nat) : Int) = out[Z]'(by omega) := by
                unfold famArg
                rw [if_neg hYV2, show (((V + Z : Nat) : Int) - (V : Int)).toNat = Z by omega]
                simp [List.getD_eq_getElem?_getD, show Z < out.length by omega]
              have HFA := Lib.hid hfa
              have HUZ := Lib.hid huz
              clear hfa huz hcz0 huz0
              go_wp2_with (at_builtin; refine app_fam rfl _ _ rfl (wo.heap.size + 1) _ acc rfl (HAC.out.kept ((Kept.refl _).alloc _)) _ _ (out[Z]'(by omega)) rfl (by simp) (HUZ.out.kept ((Kept.refl _).alloc _)) (by omega) (by simp; omega) ?_; intro nv' w7 hown7 hg7 hb7; have O7 := Lib.hid hown7; clear hown7)
              go_roundw
              case rel => exact ⟨p + 1, _, by omega, by go_num, Lib.hid (by rw [HST.out, HFA.out]), O7.out, (HKI.out.alloc _) |>.app (hb7.mono (by simp))⟩
              case measure => simp [intOf]; omega
          · have e : p = na := by omega
            have hfull : acc = args.map (famArg V out) := by rw [HA.out, e, List.take_of_length_le (by have := HNA.out; omega)]
            have hlen : acc.length = na := by rw [hfull]; simp; exact HNA.out.symm
            have hne : kd ≠ 0 → acc ≠ [] := by
              intro h0 he
              have := HGC.out
              rw [he] at hlen
              simp at hlen
              unfold argsOk at this
              rw [if_neg h0, ← hlen] at this
              split at this <;> simp at this
            have h4 : kd = 4 → 1 ≤ kk ∧ kk ≤ acc.length := by
              intro h0
              have := HRT.out
              unfold chkK at this
              rw [if_neg (by omega), if_pos h0] at this
              split at this
              · rename_i h; rw [hlen]; exact h
              · cases this
            have hcall : ∀ W, Kept wr W → Calls Try.prog 58 #[.agg #[.int .i64 kd, .int .i64 kk, .slice ax na cx], u10] W fun e w' => LRes w' 0 e (nodeK kd kk acc) ∧ Kept W w' := fun W hkw2 => node_any kd kk ax na cx u10 acc W (hacc.at.kept hkw2) hne h4 (by omega) (HMO.out HMK.out)
            obtain ⟨uo, hco0, _⟩ := HI.out.2.cell k (by omega)
            have hco := hKw.cell hco0
            have hfo := hKw.free (p := ⟨w2.heap.size, k, none⟩) (World.block_lt_of_cell? _ _ hco0) (HI.out.2.free k)
            have hnb := (RowAt.made wo #[.int .i64 kd, .int .i64 kk, .slice ax na cx] 47).kept hKi
            have hrb : wr.rangeAt wo.heap.size 0 [.int .i64 kd, .int .i64 kk, .slice ax na cx] := by
              intro j v hj
              match j, hj with
              | 0, hj => simp at hj; subst hj; exact hnb.cell (i := 0) (by simp)
              | 1, hj => simp at hj; subst hj; exact hnb.cell (i := 1) (by simp)
              | 2, hj => simp at hj; subst hj; exact hnb.cell (i := 2) (by simp)
            have hup2 : famsUp V mark f.nodes (k + 1) = (nodeK kd kk acc).map (fun l => out.set k l) := by rw [HUP.out, HMK.out, if_pos rfl, ← hfull]
            have HCL := Lib.hid hcall
            have HRB := Lib.hid hrb
            have HUP2 := Lib.hid hup2
            have HKW := Lib.hid hKw
            have hkn : (k : Int) < (n : Int) := by omega
            clear hcall hrb hup2 hnb hne h4 hfull hlen e hacc hKi hKw hco0 HA
            cases hnk : nodeK kd kk acc with
            | none =>
              have HNK := Lib.hid hnk
              clear hnk
              go_wp2_with (first
                | (with_reducible refine wpList_load_mid rfl 47 _ rfl wo.heap.size 0 rfl _ _ HRB.out Try.underlying47 rfl (by kernel_rfl) ?_)
                | (go_at_call 58; refine (HCL.out _ (Kept.refl _)).mono ?_; rintro e w8 ⟨he, hk8⟩; rw [HNK.out] at he; unfold LRes at he; subst he; rw [errV_pos (show (4 : Nat) ≠ 0 by decide)]; have hc8 := hk8.cell hco; have hf8 := hk8.free (World.block_lt_of_cell? _ _ hco) hfo))
              go_ret2
              have hrn : r = none := by rw [HR.out]; exact famsUp_none V mark f.nodes (k + 1) (by rw [HUP2.out, HNK.out]; rfl) n (by omega)
              have hz2 : w.heap.size ≤ w2.heap.size := by have := HKB.out.size; simp at this; omega
              exact ⟨by rw [hrn]; rfl, ((HKA.out.trans (HKW.out.trans hk8)).store hz2 _ _)⟩
            | some l =>
              have HNK := Lib.hid hnk
              clear hnk
              go_wp2_with (first
                | (with_reducible refine wpList_load_mid rfl 47 _ rfl wo.heap.size 0 rfl _ _ HRB.out Try.underlying47 rfl (by kernel_rfl) ?_)
                | (go_at_call 58; refine (HCL.out _ (Kept.refl _)).mono ?_; rintro e w8 ⟨he, hk8⟩; rw [HNK.out] at he; unfold LRes at he; obtain ⟨v8, rfl, ho8⟩ := he; obtain ⟨xa, xn, xc, rfl⟩ := ho8.1.ints.shape; have hc8 := hk8.cell hco; have hf8 := hk8.free (World.block_lt_of_cell? _ _ hco) hfo; have O8 := Lib.hid ho8; clear ho8))
              go_roundw
              case rel => exact ⟨k + 1, out.set k l, by omega, by go_num, Lib.hid ⟨by rw [HUP2.out, HNK.out]; rfl, (HI.out.2.kept (HKW.out.trans hk8)).store hol.symm k O8.out⟩, (HK.out.trans (HKW.out.trans hk8)).store (Nat.le_refl _) _ _⟩
              case measure => simp [intOf]; omega
    · have e : k = n := by omega
      have hrr : r = some out := by rw [HR.out, ← e]; exact HI.out.1
      have HRR := Lib.hid hrr
      have HKWn := Lib.hid (((Kept.refl w).alloc _).trans hkW)
      clear hrr hkW e
      go_wp2
      go_ret2
      exact ⟨by rw [HRR.out]; exact ⟨_, rfl, HI.out.2.mono (Nat.zero_le _)⟩, HKWn.out⟩
end Go.Proofs.Ytapniojbnochiaa

/-
  Plain: minimal families are the ones of the upward closed sets of masks; the closure of Plus and Product.
-/
namespace Go.Proofs.Ytapniojbnochiaa

theorem subN_iff {a b : Nat} : subN a b = true ↔ ∀ i, a.testBit i = true → b.testBit i = true := by
  unfold subN sdiff
  rw [beq_iff_eq]
  constructor
  · intro h i hi
    have h1 : (a ^^^ (a &&& b)).testBit i = false := by rw [h]; simp
    simp [hi] at h1
    exact h1
  · intro h
    apply Nat.eq_of_testBit_eq
    intro i
    simp only [Nat.testBit_xor, Nat.testBit_and, Nat.zero_testBit]
    cases ha : a.testBit i with
    | false => simp
    | true => simp [h i ha]
theorem subN_refl (a : Nat) : subN a a = true := subN_iff.2 fun _ h => h
theorem subN_tr {a b c : Nat} (h1 : subN a b = true) (h2 : subN b c = true) : subN a c = true := subN_iff.2 fun i h => subN_iff.1 h2 i (subN_iff.1 h1 i h)
theorem subN_half {a b : Nat} (h : subN a b = true) : a % 2 ≤ b % 2 ∧ subN (a / 2) (b / 2) = true := by
  have h' := subN_iff.1 h
  refine ⟨?_, subN_iff.2 fun i hi => ?_⟩
  · have h0 := h' 0
    simp only [Nat.testBit_zero, decide_eq_true_eq] at h0
    omega
  · have h0 := h' (i + 1)
    simp only [Nat.testBit_succ] at h0
    exact h0 hi
theorem pc_sub (n : Nat) : ∀ a b, b ≤ n → subN a b = true → pc a ≤ pc b ∧ (pc a = pc b → a = b) := by
  induction n using Nat.strongRecOn with
  | ind n ih =>
    intro a b hb h
    by_cases h0 : b = 0
    · subst h0
      have : a = 0 := by
        apply Nat.eq_of_testBit_eq
        intro i
        cases ha : a.testBit i with
        | false => simp
        | true => have := subN_iff.1 h i ha; simp at this
      subst this
      exact ⟨Nat.le_refl _, fun _ => rfl⟩
    · obtain ⟨h1, h2⟩ := subN_half h
      have := ih (b / 2) (by omega) (a / 2) (b / 2) (Nat.le_refl _) h2
      rw [pc_one a, pc_one b]
      refine ⟨by omega, fun he => ?_⟩
      have e2 : pc (a / 2) = pc (b / 2) := by omega
      have := this.2 e2
      omega
theorem subN_le {a b : Nat} (h : subN a b = true) : pc a ≤ pc b ∧ (pc a = pc b → a = b) := pc_sub b a b (Nat.le_refl _) h
theorem subN_anti {a b : Nat} (h1 : subN a b = true) (h2 : subN b a = true) : a = b := by
  have := subN_le h1; have := subN_le h2; exact (subN_le h1).2 (by omega)
theorem not_lt_sub {a b : Nat} (h : subN a b = true) (h2 : ltK b a) : False := by
  have h1 := subN_le h
  unfold ltK at h2
  rcases h2 with h2 | h2
  · omega
  · have := h1.2 (by omega); omega

theorem mem_foldN (l : List Nat) : ∀ out x, (out ++ l).Pairwise ltK → (x ∈ l.foldl keepN out ↔ x ∈ out ∨ x ∈ l ∧ ∀ y, y ∈ out ∨ y ∈ l → subN y x = true → y = x) := by
  induction l with
  | nil => intro out x _; simp
  | cons s l ih =>
    intro out x hp
    have hp' := List.pairwise_append.1 hp
    have hs := List.pairwise_cons.1 hp'.2.1
    show x ∈ l.foldl keepN (keepN out s) ↔ _
    by_cases hk : out.any (fun t => subN t s) = true
    · rw [show keepN out s = out from if_pos hk]
      obtain ⟨t, ht, hts⟩ := List.any_eq_true.1 hk
      rw [ih out x (List.pairwise_append.2 ⟨hp'.1, hs.2, fun a ha b hb => hp'.2.2 a ha b (List.mem_cons_of_mem _ hb)⟩)]
      constructor
      · rintro (h | ⟨h1, h2⟩)
        · exact .inl h
        · refine .inr ⟨List.mem_cons_of_mem _ h1, ?_⟩
          rintro y (hy | hy) hyx
          · exact h2 y (.inl hy) hyx
          · rcases List.mem_cons.1 hy with e | e
            · subst e
              have := h2 t (.inl ht) (subN_tr hts hyx)
              subst this
              exact absurd (hp'.2.2 t ht t (List.mem_cons_of_mem _ h1)) (ltK_irr t)
            · exact h2 y (.inr e) hyx
      · rintro (h | ⟨h1, h2⟩)
        · exact .inl h
        · rcases List.mem_cons.1 h1 with e | e
          · subst e
            have := h2 t (.inl ht) hts
            subst this
            exact absurd (hp'.2.2 t ht t (List.mem_cons_self ..)) (ltK_irr t)
          · exact .inr ⟨e, fun y hy => h2 y (hy.imp id (List.mem_cons_of_mem _))⟩
    · rw [show keepN out s = out ++ [s] from if_neg hk]
      rw [ih (out ++ [s]) x (by simpa using hp)]
      have hk' : ∀ t ∈ out, ¬ subN t s = true := fun t ht h => hk (List.any_eq_true.2 ⟨t, ht, h⟩)
      have ms : ∀ z, z ∈ out ++ [s] ↔ z ∈ out ∨ z = s := fun z => by simp
      simp only [ms, List.mem_cons]
      constructor
      · rintro ((h | h) | ⟨h1, h2⟩)
        · exact .inl h
        · subst h
          refine .inr ⟨.inl rfl, ?_⟩
          rintro y (hy | hy | hy) hyx
          · exact absurd hyx (hk' y hy)
          · exact hy
          · exact (not_lt_sub hyx (hs.1 y hy)).elim
        · refine .inr ⟨.inr h1, ?_⟩
          rintro y (hy | hy | hy) hyx
          · exact h2 y (.inl (.inl hy)) hyx
          · exact h2 y (.inl (.inr hy)) hyx
          · exact h2 y (.inr hy) hyx
      · rintro (h | ⟨h1 | h1, h2⟩)
        · exact .inl (.inl h)
        · exact .inl (.inr h1)
        · refine .inr ⟨h1, ?_⟩
          rintro y ((hy | hy) | hy) hyx
          · exact h2 y (.inl hy) hyx
          · exact h2 y (.inr (.inl hy)) hyx
          · exact h2 y (.inr (.inr hy)) hyx
theorem pair_foldN (l : List Nat) : ∀ out, (out ++ l).Pairwise ltK → (l.foldl keepN out).Pairwise ltK := by
  induction l with
  | nil => intro out h; simpa using h
  | cons s l ih =>
    intro out h
    show (l.foldl keepN (keepN out s)).Pairwise ltK
    by_cases hk : out.any (fun t => subN t s) = true
    · rw [show keepN out s = out from if_pos hk]
      refine ih out (List.Pairwise.sublist ?_ h)
      exact List.Sublist.append_left (List.sublist_cons_self s l) out
    · rw [show keepN out s = out ++ [s] from if_neg hk]
      exact ih _ (by simpa using h)
theorem mem_minK_iff (l : List Nat) (x : Nat) : x ∈ minK l ↔ x ∈ l ∧ ∀ y ∈ l, subN y x = true → y = x := by
  unfold minK minN
  rw [mem_foldN (sortK l) [] x (by simpa using pair_sortK l)]
  simp [mem_sortK]
theorem pair_minK (l : List Nat) : (minK l).Pairwise ltK := pair_foldN _ [] (by simpa using pair_sortK l)

/-- s contains a set of the list. -/
def up (l : List Nat) (s : Nat) : Prop := ∃ t ∈ l, subN t s = true
theorem exists_min (l : List Nat) : ∀ (n : Nat) (t : Nat), pc t ≤ n → t ∈ l → ∃ y ∈ minK l, subN y t = true := by
  intro n
  induction n with
  | zero =>
    intro t hn ht
    refine ⟨t, (mem_minK_iff l t).2 ⟨ht, fun y hy h => ?_⟩, subN_refl t⟩
    have := subN_le h
    exact this.2 (by omega)
  | succ n ih =>
    intro t hn ht
    by_cases h : ∃ y ∈ l, subN y t = true ∧ y ≠ t
    · obtain ⟨y, hy, h1, h2⟩ := h
      have := subN_le h1
      have h3 : pc y ≤ n := by
        by_cases e : pc y = pc t
        · exact absurd (this.2 e) h2
        · omega
      obtain ⟨z, hz, h4⟩ := ih y h3 hy
      exact ⟨z, hz, subN_tr h4 h1⟩
    · exact ⟨t, (mem_minK_iff l t).2 ⟨ht, fun y hy h1 => Classical.byContradiction fun h2 => h ⟨y, hy, h1, h2⟩⟩, subN_refl t⟩
theorem up_minK (l : List Nat) (s : Nat) : up (minK l) s ↔ up l s := by
  constructor
  · rintro ⟨t, ht, h⟩; exact ⟨t, mem_minK ht, h⟩
  · rintro ⟨t, ht, h⟩
    obtain ⟨y, hy, h2⟩ := exists_min l _ t (Nat.le_refl _) ht
    exact ⟨y, hy, subN_tr h2 h⟩
theorem minK_mem_of_up {l r : List Nat} (h : ∀ s, up l s ↔ up r s) {x : Nat} (hx : x ∈ minK l) : x ∈ minK r := by
  obtain ⟨h1, h2⟩ := (mem_minK_iff l x).1 hx
  obtain ⟨y, hy, hyx⟩ := (h x).1 ⟨x, h1, subN_refl x⟩
  obtain ⟨z, hz, hzy⟩ := (h y).2 ⟨y, hy, subN_refl y⟩
  have e1 := h2 z hz (subN_tr hzy hyx)
  subst e1
  have e2 : y = z := subN_anti hyx hzy
  subst e2
  refine (mem_minK_iff r y).2 ⟨hy, fun w hw hwy => ?_⟩
  obtain ⟨v, hv, hvw⟩ := (h w).2 ⟨w, hw, subN_refl w⟩
  have e3 := h2 v hv (subN_tr hvw hwy)
  subst e3
  exact subN_anti hwy hvw
/-- The minimal sets are those of the closure. -/
theorem minK_of_up {l r : List Nat} (h : ∀ s, up l s ↔ up r s) : minK l = minK r :=
  pair_unique ltK ltK_irr ltK_tr _ _ (pair_minK l) (pair_minK r) fun _ => ⟨fun hx => minK_mem_of_up h hx, fun hx => minK_mem_of_up (fun s => (h s).symm) hx⟩
/-- The same over masks alone. -/
theorem minK_of_upMk {l r : List Nat} (hl : ∀ n ∈ l, Mk n) (hr : ∀ n ∈ r, Mk n) (h : ∀ s, Mk s → (up l s ↔ up r s)) : minK l = minK r := by
  have key : ∀ l : List Nat, (∀ n ∈ l, Mk n) → ∀ s, up l s ↔ up l (s % 16777216) := by
    intro l hl s
    have e : ∀ t, Mk t → (subN t s = true ↔ subN t (s % 16777216) = true) := by
      intro t ht
      rw [subN_iff, subN_iff]
      refine ⟨fun h i hi => ?_, fun h i hi => ?_⟩
      · have hi24 : i < 24 := by
          rcases Nat.lt_or_ge i 24 with h9 | h9
          · exact h9
          · rw [Nat.testBit_lt_two_pow (Nat.lt_of_lt_of_le (show t < 2 ^ 24 from ht) (Nat.pow_le_pow_right (by omega) h9))] at hi; cases hi
        rw [show (16777216 : Nat) = 2 ^ 24 from rfl, Nat.testBit_mod_two_pow]
        simp [hi24, h i hi]
      · have h1 := h i hi
        rw [show (16777216 : Nat) = 2 ^ 24 from rfl, Nat.testBit_mod_two_pow] at h1
        simp at h1
        exact h1.2
    constructor
    · rintro ⟨t, ht, h⟩; exact ⟨t, ht, (e t (hl t ht)).1 h⟩
    · rintro ⟨t, ht, h⟩; exact ⟨t, ht, (e t (hl t ht)).2 h⟩
  refine minK_of_up fun s => ?_
  rw [key l hl s, key r hr s]
  exact h _ (show s % 16777216 < 16777216 by omega)
/-- A family as it is stored: sorted, no set in another one. -/
def Can (l : List Nat) : Prop := minK l = l
theorem can_minK (l : List Nat) : Can (minK l) := minK_of_up fun s => up_minK l s
theorem can_eq {l r : List Nat} (hl : Can l) (hr : Can r) (h : ∀ s, up l s ↔ up r s) : l = r := by
  have := minK_of_up h
  rw [hl, hr] at this
  exact this
theorem can_eqMk {l r : List Nat} (hl : Can l) (hr : Can r) (ml : ∀ n ∈ l, Mk n) (mr : ∀ n ∈ r, Mk n) (h : ∀ s, Mk s → (up l s ↔ up r s)) : l = r := by
  have := minK_of_upMk ml mr h
  rw [hl, hr] at this
  exact this
theorem up_nil (s : Nat) : ¬ up [] s := by rintro ⟨t, h, _⟩; cases h
theorem zero_sub (s : Nat) : subN 0 s = true := subN_iff.2 fun i h => by simp at h
theorem up_zero (s : Nat) : up [0] s := ⟨0, by simp, zero_sub s⟩
theorem can_nil : Can [] := rfl
theorem can_one (x : Nat) : Can [x] := by
  have h1 : ∀ y, y ∈ minK [x] ↔ y ∈ [x] := fun y => by rw [mem_minK_iff]; simp; intro h _; exact h.symm
  exact pair_unique ltK ltK_irr ltK_tr _ _ (pair_minK [x]) (by simp) h1
theorem up_append (a b : List Nat) (s : Nat) : up (a ++ b) s ↔ up a s ∨ up b s := by
  unfold up
  constructor
  · rintro ⟨t, h, h2⟩
    rcases List.mem_append.1 h with h | h
    · exact .inl ⟨t, h, h2⟩
    · exact .inr ⟨t, h, h2⟩
  · rintro (⟨t, h, h2⟩ | ⟨t, h, h2⟩)
    · exact ⟨t, List.mem_append.2 (.inl h), h2⟩
    · exact ⟨t, List.mem_append.2 (.inr h), h2⟩
theorem or_sub (x y s : Nat) : subN (x ||| y) s = true ↔ subN x s = true ∧ subN y s = true := by
  rw [subN_iff, subN_iff, subN_iff]
  constructor
  · intro h; exact ⟨fun i hi => h i (by simp [hi]), fun i hi => h i (by simp [hi])⟩
  · rintro ⟨h1, h2⟩ i hi
    simp at hi
    rcases hi with hi | hi
    · exact h1 i hi
    · exact h2 i hi
theorem up_allU (a b : List Nat) (s : Nat) : up (allU a b) s ↔ up a s ∧ up b s := by
  unfold up
  constructor
  · rintro ⟨t, h, h2⟩
    obtain ⟨x, hx, y, hy, rfl⟩ := (mem_allU a b t).1 h
    have := (or_sub x y s).1 h2
    exact ⟨⟨x, hx, this.1⟩, ⟨y, hy, this.2⟩⟩
  · rintro ⟨⟨x, hx, h1⟩, ⟨y, hy, h2⟩⟩
    exact ⟨x ||| y, (mem_allU a b _).2 ⟨x, hx, y, hy, rfl⟩, (or_sub x y s).2 ⟨h1, h2⟩⟩
theorem plusK_some {a b l : List Nat} (h : plusK a b = some l) : l = minK (a ++ b) ∧ l.length ≤ 1024 := by
  unfold plusK at h
  split at h
  · split at h
    · cases h; exact ⟨rfl, by assumption⟩
    · cases h
  · cases h
theorem productK_some {a b l : List Nat} (h : productK a b = some l) : l = minK (allU (minK a) (minK b)) ∧ l.length ≤ 1024 := by
  unfold productK at h
  split at h
  · split at h
    · cases h; exact ⟨rfl, by assumption⟩
    · cases h
  · cases h
theorem up_plusK {a b l : List Nat} (h : plusK a b = some l) (s : Nat) : up l s ↔ up a s ∨ up b s := by
  rw [(plusK_some h).1, up_minK, up_append]
theorem up_productK {a b l : List Nat} (h : productK a b = some l) (s : Nat) : up l s ↔ up a s ∧ up b s := by
  rw [(productK_some h).1, up_minK, up_allU, up_minK, up_minK]
theorem can_plusK {a b l : List Nat} (h : plusK a b = some l) : Can l := by rw [(plusK_some h).1]; exact can_minK _
theorem can_productK {a b l : List Nat} (h : productK a b = some l) : Can l := by rw [(productK_some h).1]; exact can_minK _
theorem foldK_cons (op : List Nat → List Nat → Option (List Nat)) (f a : List Nat) (l : List (List Nat)) : foldK op f (a :: l) = (op f a).bind fun g => foldK op g l := rfl
theorem up_foldOr (args : List (List Nat)) (s : Nat) : ∀ f l, foldK plusK f args = some l → (up l s ↔ up f s ∨ ∃ a ∈ args, up a s) := by
  induction args with
  | nil => intro f l h; cases h; simp
  | cons a args ih =>
    intro f l h
    rw [foldK_cons] at h
    cases h1 : plusK f a with
    | none => rw [h1] at h; cases h
    | some g =>
      rw [h1] at h
      rw [ih g l h, up_plusK h1]
      simp [or_assoc]
theorem up_foldAnd (args : List (List Nat)) (s : Nat) : ∀ f l, foldK productK f args = some l → (up l s ↔ up f s ∧ ∀ a ∈ args, up a s) := by
  induction args with
  | nil => intro f l h; cases h; simp
  | cons a args ih =>
    intro f l h
    rw [foldK_cons] at h
    cases h1 : productK f a with
    | none => rw [h1] at h; cases h
    | some g =>
      rw [h1] at h
      rw [ih g l h, up_productK h1]
      simp [and_assoc]
theorem can_fold (op : List Nat → List Nat → Option (List Nat)) (hop : ∀ a b l, op a b = some l → Can l) (args : List (List Nat)) : ∀ f l, Can f → foldK op f args = some l → Can l := by
  induction args with
  | nil => intro f l hf h; cases h; exact hf
  | cons a args ih =>
    intro f l hf h
    rw [foldK_cons] at h
    cases h1 : op f a with
    | none => rw [h1] at h; cases h
    | some g => rw [h1] at h; exact ih g l (hop _ _ _ h1) h
end Go.Proofs.Ytapniojbnochiaa

/-
  Plain: all families are stored sorted, no set in another one, and not too long.
-/
namespace Go.Proofs.Ytapniojbnochiaa

def Good (l : List Nat) : Prop := Can l ∧ l.length ≤ 1024
theorem good_nil : Good [] := ⟨can_nil, by simp⟩
theorem good_one (x : Nat) : Good [x] := ⟨can_one x, by simp⟩
theorem good_plusK {a b l : List Nat} (h : plusK a b = some l) : Good l := ⟨can_plusK h, (plusK_some h).2⟩
theorem good_productK {a b l : List Nat} (h : productK a b = some l) : Good l := ⟨can_productK h, (productK_some h).2⟩
theorem product_zero {l : List Nat} (h : Good l) : productK [0] l = some l := by
  have e : minK (allU (minK [0]) (minK l)) = l := by
    refine (minK_of_up (r := l) fun s => ?_).trans h.1
    rw [up_allU, up_minK, up_minK]
    exact ⟨fun h => h.2, fun h => ⟨up_zero s, h⟩⟩
  unfold productK
  rw [if_pos ⟨by simp, h.2⟩, e, if_pos h.2]
theorem plus_nil {l : List Nat} (h : Good l) : plusK [] l = some l := by
  unfold plusK
  rw [if_pos ⟨by simp, h.2⟩, List.nil_append, h.1, if_pos h.2]
theorem good_fold (op : List Nat → List Nat → Option (List Nat)) (hop : ∀ a b l, op a b = some l → Good l) (args : List (List Nat)) : ∀ f l, Good f → foldK op f args = some l → Good l := by
  induction args with
  | nil => intro f l hf h; cases h; exact hf
  | cons a args ih =>
    intro f l hf h
    rw [foldK_cons] at h
    cases h1 : op f a with
    | none => rw [h1] at h; cases h
    | some g => rw [h1] at h; exact ih g l (hop _ _ _ h1) h
theorem good_voteUp (arg : List Nat) (t : List (List Nat)) : ∀ m acc, voteUp arg t m = some acc → ∀ l ∈ acc, Good l := by
  intro m
  induction m with
  | zero => intro acc h; cases h; intro l hl; simp at hl; subst hl; exact good_one 0
  | succ m ih =>
    intro acc h
    unfold voteUp at h
    cases h1 : voteUp arg t m with
    | none => rw [h1] at h; cases h
    | some a =>
      rw [h1] at h
      simp only [Option.bind_some] at h
      cases h2 : nextAt arg t m with
      | none => rw [h2] at h; cases h
      | some x =>
        rw [h2] at h
        cases h
        intro l hl
        rcases List.mem_append.1 hl with hl | hl
        · exact ih a h1 l hl
        · simp at hl
          subst hl
          unfold nextAt at h2
          cases h3 : productK arg (t.getD m []) with
          | none => rw [h3] at h2; cases h2
          | some p => rw [h3] at h2; exact good_plusK h2
theorem good_voteDown (k : Nat) (args : List (List Nat)) : ∀ q t r, (∀ l ∈ t, Good l) → voteDown k args q t = some r → ∀ l ∈ r, Good l := by
  intro q
  induction q with
  | zero => intro t r h e; cases e; exact h
  | succ q ih =>
    intro t r _ e
    unfold voteDown at e
    cases h1 : voteUp (args.getD q []) t k with
    | none => rw [h1] at e; cases e
    | some a => rw [h1] at e; exact ih a r (good_voteUp _ _ _ _ h1) e
theorem good_getD {t : List (List Nat)} (h : ∀ l ∈ t, Good l) (i : Nat) : Good (t.getD i []) := by
  rw [List.getD_eq_getElem?_getD]
  by_cases hi : i < t.length
  · rw [List.getElem?_eq_getElem hi]; exact h _ (List.getElem_mem hi)
  · rw [List.getElem?_eq_none (by omega)]; exact good_nil
theorem good_voteK {args : List (List Nat)} {k : Nat} {l : List Nat} (h : voteK args k = some l) : Good l := by
  unfold voteK at h
  cases h1 : voteDown k args args.length ([0] :: List.replicate k []) with
  | none => rw [h1] at h; cases h
  | some r =>
    rw [h1] at h
    cases h
    refine good_getD (good_voteDown k args _ _ r ?_ h1) k
    intro l hl
    rcases List.mem_cons.1 hl with e | e
    · rw [e]; exact good_one 0
    · rw [(List.mem_replicate.1 e).2]; exact good_nil
theorem good_nodeK {kind k : Int} {fams : List (List Nat)} {l : List Nat} (h : nodeK kind k fams = some l) : Good l := by
  unfold nodeK at h
  split at h
  · split at h
    · cases h; exact good_one 0
    · cases h; exact good_nil
  · split at h
    · exact good_fold _ (fun _ _ _ h => good_plusK h) _ _ _ good_nil h
    · split at h
      · exact good_fold _ (fun _ _ _ h => good_productK h) _ _ _ (good_one 0) h
      · exact good_voteK h
theorem good_famsUp (V : Nat) (mark : List Bool) (nodes : List Nd) : ∀ k out, famsUp V mark nodes k = some out → ∀ l ∈ out, Good l := by
  intro k
  induction k with
  | zero => intro out h; cases h; intro l hl; rw [(List.mem_replicate.1 hl).2]; exact good_nil
  | succ k ih =>
    intro out h
    unfold famsUp at h
    cases h1 : famsUp V mark nodes k with
    | none => rw [h1] at h; cases h
    | some o =>
      rw [h1] at h
      simp only [Option.bind_some, famStep] at h
      split at h
      · cases h2 : nodeK (nodes.getD k noNd).kind (nodes.getD k noNd).k ((nodes.getD k noNd).args.map (famArg V o)) with
        | none => rw [h2] at h; cases h
        | some l =>
          rw [h2] at h
          cases h
          intro x hx
          rcases List.mem_or_eq_of_mem_set hx with hx | hx
          · exact ih o h1 x hx
          · rw [hx]; exact good_nodeK h2
      · cases h; exact ih _ h1
theorem good_famArg {V : Nat} {out : List (List Nat)} (h : ∀ l ∈ out, Good l) (a : Int) : Good (famArg V out a) := by
  unfold famArg
  split
  · exact good_one _
  · exact good_getD h _
theorem fold_and_head {f : List Nat} (h : Good f) (fs : List (List Nat)) : foldK productK [0] (f :: fs) = foldK productK f fs := by rw [foldK_cons, product_zero h]; rfl
theorem fold_or_head {f : List Nat} (h : Good f) (fs : List (List Nat)) : foldK plusK [] (f :: fs) = foldK plusK f fs := by rw [foldK_cons, plus_nil h]; rfl
end Go.Proofs.Ytapniojbnochiaa
