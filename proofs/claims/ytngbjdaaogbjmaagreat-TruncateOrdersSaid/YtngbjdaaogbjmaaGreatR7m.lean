import Derived.Test.YtngbjdaaogbjmaaGreatR6m
import Derived.Test.YtngbjdaaogbjmaaGreatR4m
import Derived.Test.YtngbjdaaogbjmaaGreatK4
/-
  Walks: faultlineref31.Typed; faultlineref32.of.
-/
namespace Go.Proofs.YtngbjdaaogbjmaaGreat
open Go.RowKit

theorem monoK_append (a b : List Int) : monoK (a ++ b) = (monoK a && monoK b) := by unfold monoK; exact List.all_append
theorem monoK_false (V : Nat) (mark : List Bool) (nodes : List Nd) (m : Nat) (h : monoK (kindsUp V mark nodes m) = false) : ∀ k, m ≤ k → monoK (kindsUp V mark nodes k) = false := by
  intro k hk
  induction k with
  | zero => have : m = 0 := by omega
            subst this; exact h
  | succ k ih =>
    by_cases e : m = k + 1
    · subst e; exact h
    · unfold kindsUp
      have := ih (by omega)
      split
      · rw [monoK_append, this]; rfl
      · exact this
set_option maxRecDepth 100000 in
set_option maxHeartbeats 4000000 in
theorem typed_any (v : Value) (f : Fm) (V T : Nat) (w : World) (hv : NodesAt w v f.nodes) (hok : Ok f V T) :
    Calls Tryz.prog 42 #[.agg #[.int .i64 V, v, .int .i64 T]] w fun e w' => e = .returned (.int .i64 (if synK V T f = true then 0 else 7)) ∧ Kept w w' := by
  have h2 : ∀ W, Kept w W → Calls Tryz.prog 83 #[.agg #[.int .i64 V, v, .int .i64 T]] W fun e w' => ∃ g, e = .returned (.slice (some ⟨g, 0, none⟩) (V + f.nodes.length) (V + f.nodes.length)) ∧ W.heap.size ≤ g ∧ RowAt w' g 4 ((belowK V T f.nodes).map .bool) ∧ Kept W w' := fun W hk => refBelow_any v f V T W (hv.kept hk) hok
  obtain ⟨r, hr⟩ : ∃ r : Int, r = (if synK V T f = true then 0 else 7) := ⟨_, rfl⟩
  rw [← hr]
  unfold synK at hr
  obtain ⟨mark, hmark⟩ : ∃ m, m = belowK V T f.nodes := ⟨_, rfl⟩
  have hml : mark.length = V + f.nodes.length := by rw [hmark, len_belowK]
  rw [← hmark] at hr h2
  obtain ⟨a, c, rfl, _, hl, hx⟩ := hv
  obtain ⟨n, hn⟩ : ∃ n, n = f.nodes.length := ⟨_, rfl⟩
  rw [← hn] at h2 hml hr ⊢
  have hn9 : n ≤ 128 := by rw [hn]; exact hok.n128
  have hV9 := hok.v24
  have hT9 : T < V + n := by rw [hn]; exact hok.tlt
  have H2 := Lib.hid h2
  have HX := Lib.hid hx
  have HN := Lib.hid hn
  have HR := Lib.hid hr
  have HML := Lib.hid hml
  clear h2 hx hn hok hr hml hl hmark
  go_enter Tryz.func42, Tryz.ntmps42
  go_wp2_with (go_at_call 83; refine (H2.out _ ((Kept.refl _).alloc _)).mono ?_; rintro e w2 ⟨gn, rfl, hgn, hrn, hk2⟩; have d0 := hk2.cell (p := ⟨w.heap.size, 0, none⟩) (v := .int .i64 V) (by simp); have d1 := hk2.cell (p := ⟨w.heap.size, 1, none⟩) (v := .slice a n c) (by simp); have HRN := Lib.hid hrn; clear hrn)
  have HK2 := Lib.hid hk2
  clear d0 d1 hk2
  go_loopw [4, 5, 11] (fun _ _ i wr => ∃ k : Nat, k ≤ n ∧ i = .int .i64 k ∧ Hid (monoK (kindsUp V mark f.nodes k) = true) ∧ Kept w2 wr) (fun _ _ i _ => n - (intOf i).toNat)
  case atStart => exact ⟨0, Nat.zero_le _, rfl, Lib.hid rfl, Kept.refl _⟩
  case round =>
    obtain ⟨k, hk, rfl, HM, hK⟩ := hrel
    have hkW := HK2.out.trans hK
    have q0 := hkW.cell (p := ⟨w.heap.size, 0, none⟩) (v := .int .i64 V) (by simp)
    have q1 := hkW.cell (p := ⟨w.heap.size, 1, none⟩) (v := .slice a n c) (by simp)
    by_cases hlt : k < n
    · have hkx : k < f.nodes.length := by have := HN.out; omega
      have hmc := (HRN.out.kept hK).cell (i := V + k) (by simp [HML.out]; omega)
      rw [getD_map_bool mark (V + k) (by rw [HML.out]; omega)] at hmc
      obtain ⟨b, o, rfl, u, hc1, hc2, hc3, hI⟩ := HX.out k hkx
      have hkA : Kept w wr := ((Kept.refl w).alloc (.cells #[.int .i64 V, .slice (some ⟨b, o, none⟩) n c, .int .i64 T] 24)).trans hkW
      have hrange := node_range (hkA.cell hc1) (hkA.cell hc2) (hkA.cell hc3)
      obtain ⟨ax, cx, rfl, _, hlx, hcx⟩ := hI
      have hstep : kindsUp V mark f.nodes (k + 1) = if mark.getD (V + k) false then kindsUp V mark f.nodes k ++ [f.nodes[k].kind] else kindsUp V mark f.nodes k := by
        show (if mark.getD (V + k) false then kindsUp V mark f.nodes k ++ [(f.nodes.getD k noNd).kind] else kindsUp V mark f.nodes k) = _
        rw [show f.nodes.getD k noNd = f.nodes[k] by simp [List.getD_eq_getElem?_getD, hkx]]
      obtain ⟨kd, hkd⟩ : ∃ x, x = f.nodes[k].kind := ⟨_, rfl⟩
      obtain ⟨kk, hkk⟩ : ∃ x, x = f.nodes[k].k := ⟨_, rfl⟩
      obtain ⟨na, hna⟩ : ∃ x, x = f.nodes[k].args.length := ⟨_, rfl⟩
      rw [← hkd, ← hkk, ← hna] at hrange
      rw [← hkd] at hstep
      have HRG := Lib.hid hrange
      have HST := Lib.hid hstep
      have HKA := Lib.hid hkA
      have HK := Lib.hid hK
      have hi1 : (V : Int) + (k : Int) < (V : Int) + (n : Int) := by omega
      have hi2 : (V : Int) + (k : Int) < ((V + n : Nat) : Int) := by omega
      have hgl : gn < wr.heap.size := Nat.lt_of_lt_of_le HRN.out.lt hK.size
      have hlw : w.heap.size < wr.heap.size := by have := hkW.size; simp at this; omega
      clear hc1 hc2 hc3 hrange hcx hlx hna hkA hK hkW hstep hkd hkk
      cases hmk : mark.getD (V + k) false with
      | false =>
        rw [hmk] at hmc
        have HMK := Lib.hid hmk
        clear hmk
        go_wp2_with (with_reducible refine wpList_load_mid rfl 70 _ rfl b (o + k * 3) rfl _ _ HRG.out Tryz.underlying70 rfl (by kernel_rfl) ?_)
        go_roundw
        case rel => exact ⟨k + 1, by omega, by go_num, Lib.hid (by rw [HST.out, HMK.out]; exact HM.out), HK.out.alloc _⟩
        case measure => simp [intOf]; omega
      | true =>
        rw [hmk] at hmc
        have HMK := Lib.hid hmk
        clear hmk
        by_cases k1 : kd = 1
        · subst k1
          go_wp2_with (with_reducible refine wpList_load_mid rfl 70 _ rfl b (o + k * 3) rfl _ _ HRG.out Tryz.underlying70 rfl (by kernel_rfl) ?_)
          go_ret
          have hr7 : r = 7 := by
            rw [HR.out, if_neg]
            rw [monoK_false V mark f.nodes (k + 1) (by rw [HST.out, HMK.out, if_pos rfl, monoK_append]; simp [monoK]) n (by omega)]
            simp
          exact ⟨by rw [hr7]; rfl, HKA.out.alloc _⟩
        · have e1 : (kd == 1) = false := by simpa using k1
          by_cases k5 : kd = 5
          · subst k5
            clear e1 k1
            go_wp2_with (with_reducible refine wpList_load_mid rfl 70 _ rfl b (o + k * 3) rfl _ _ HRG.out Tryz.underlying70 rfl (by kernel_rfl) ?_)
            go_ret
            have hr7 : r = 7 := by
              rw [HR.out, if_neg]
              rw [monoK_false V mark f.nodes (k + 1) (by rw [HST.out, HMK.out, if_pos rfl, monoK_append]; simp [monoK]) n (by omega)]
              simp
            exact ⟨by rw [hr7]; rfl, HKA.out.alloc _⟩
          · have e5 : (kd == 5) = false := by simpa using k5
            have E1 := Lib.hid k1
            have E5 := Lib.hid k5
            clear k1 k5
            go_wp2_with (with_reducible refine wpList_load_mid rfl 70 _ rfl b (o + k * 3) rfl _ _ HRG.out Tryz.underlying70 rfl (by kernel_rfl) ?_)
            go_roundw
            case rel => exact ⟨k + 1, by omega, by go_num, Lib.hid (by rw [HST.out, HMK.out, if_pos rfl, monoK_append, HM.out]; simp [monoK, E1.out, E5.out]), HK.out.alloc _⟩
            case measure => simp [intOf]; omega
    · have e : k = n := by omega
      have hr0 : r = 0 := by rw [HR.out, ← e, if_pos HM.out]
      have HKA := Lib.hid (((Kept.refl w).alloc _).trans hkW)
      have HR0 := Lib.hid hr0
      clear hr0 e hkW
      go_wp2
      go_ret
      exact ⟨by rw [HR0.out]; rfl, HKA.out⟩
end Go.Proofs.YtngbjdaaogbjmaaGreat
