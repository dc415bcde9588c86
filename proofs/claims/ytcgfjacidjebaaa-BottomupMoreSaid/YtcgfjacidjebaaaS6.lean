/-
  Walks: family.Restrict; faultlinelaw32.moved.
-/
import Derived.Test.YtcgfjacidjebaaaP8
import Derived.Test.YtcgfjacidjebaaaR3
namespace Go.Proofs.Ytcgfjacidjebaaa
open Go.RowKit

theorem sdiff_mk {a b : Nat} (ha : Mk a) : Mk (sdiff a b) := by
  unfold sdiff Mk at *
  exact Nat.xor_lt_two_pow (n := 24) ha (Nat.lt_of_le_of_lt Nat.and_le_left ha)
set_option maxRecDepth 100000 in
set_option maxHeartbeats 4000000 in
theorem restrict_any (va : Value) (ns : List Nat) (fl wk : Nat) (w : World) (hv : SetsAt w va ns) (hl : ns.length ≤ 1024) (hf : Mk fl) (hw : Mk wk) (hfw : fl &&& wk = 0) :
    Calls Try.prog 29 #[va, .int .i64 fl, .int .i64 wk] w fun e w' => (∃ v', e = .returned (.tuple #[v', .nilIface]) ∧ IntsAt w' v' (ofN (restrictK ns fl wk))) ∧ Kept w w' := by
  have HL : Hid (Calls Try.prog 60 #[.slice (some ⟨w.heap.size, 0, none⟩) 1 1] (w.alloc (.cells #[va] 27)) fun e w' => e = .returned .nilIface ∧ Kept w w') := Lib.hid (by
    have := lists1 ns va w hv
    rw [if_pos hl, errV_zero] at this
    exact this)
  have HF : Hid (∀ W, Calls Try.prog 61 #[.int .i64 fl] W fun e w' => e = .returned (.bool true) ∧ W = w') := Lib.hid fun W => valid_yes (by unfold Mk at hf; omega) W
  have HW : Hid (∀ W, Calls Try.prog 61 #[.int .i64 wk] W fun e w' => e = .returned (.bool true) ∧ W = w') := Lib.hid fun W => valid_yes (by unfold Mk at hw; omega) W
  have hfw2 : bits .and .i64 (fl : Int) (wk : Int) = 0 := by rw [and_i64 _ _ (by unfold Mk at hf; omega) (by unfold Mk at hw; omega), hfw]; rfl
  have HMF := Lib.hid hf
  have HMW := Lib.hid hw
  have HV := Lib.hid hv
  obtain ⟨n, hn⟩ : ∃ n, n = ns.length := ⟨_, rfl⟩
  obtain ⟨a, c, rfl, hc, _⟩ := hv.shape
  rw [← hn] at hl hc HL HV ⊢
  have HN := Lib.hid hn
  clear hv hf hw hfw hn
  go_enter Try.func29, Try.ntmps29
  go_wp2_with fail
  refine HL.out.mono ?_
  rintro e w1 ⟨rfl, hk1⟩
  have K1 := Lib.hid hk1
  clear hk1
  go_wp2_with (first
    | (go_at_call 61; (with_reducible refine (HF.out _).mono ?_); rintro e w2 ⟨rfl, rfl⟩)
    | (go_at_call 61; (with_reducible refine (HW.out _).mono ?_); rintro e w2 ⟨rfl, rfl⟩))
  go_loopw [9, 11, 36] (fun vo _ i wr => ∃ k : Nat, k ≤ n ∧ i = .int .i64 k ∧ OwnInts wr w1.heap.size vo (ofN (((ns.take k).filter fun s => s &&& wk == 0).map fun s => sdiff s fl)) ∧ Kept w1 wr) (fun _ _ i _ => n - (intOf i).toNat)
  case atStart => exact ⟨0, Nat.zero_le _, rfl, OwnInts.nil _ _, Kept.refl _⟩
  case round =>
    obtain ⟨k, hk, rfl, hO, hKr⟩ := hrel
    have HO := Lib.hid hO
    have HKr := Lib.hid hKr
    have hsz := hKr.size
    by_cases hlt : k < n
    · have hkx : k < ns.length := by have := HN.out; omega
      obtain ⟨b, o, rfl, hcell0⟩ := HV.out.cell k hkx
      have hcell := (K1.out.trans hKr).cell hcell0
      have hmk := HV.out.2 _ (List.getElem_mem hkx)
      have htk : ns.take (k + 1) = ns.take k ++ [ns[k]] := List.take_succ_eq_append_getElem hkx
      obtain ⟨s, hs⟩ : ∃ s, s = ns[k] := ⟨_, rfl⟩
      rw [← hs] at hcell hmk htk
      have h1 : bits .and .i64 (s : Int) (wk : Int) = ((s &&& wk : Nat) : Int) := and_i64 _ _ (by unfold Mk at hmk; omega) (by have := HMW.out; unfold Mk at this; omega)
      have h2 : bits .andNot .i64 (s : Int) (fl : Int) = ((sdiff s fl : Nat) : Int) := andNot_i64 _ _ (by unfold Mk at hmk; omega) (by have := HMF.out; unfold Mk at this; omega)
      obtain ⟨acc, hacc⟩ : ∃ acc, acc = ((ns.take k).filter fun s => s &&& wk == 0).map fun s => sdiff s fl := ⟨_, rfl⟩
      have hal : acc.length ≤ k := by
        rw [hacc, List.length_map]
        have := List.length_filter_le (fun s => s &&& wk == 0) (ns.take k)
        simp at this ⊢
        omega
      rw [← hacc] at HO
      have hst : (((ns.take (k + 1)).filter fun s => s &&& wk == 0).map fun s => sdiff s fl) = if (s &&& wk == 0) = true then acc ++ [sdiff s fl] else acc := by
        rw [htk, List.filter_append, List.map_append, ← hacc]
        by_cases hb : (s &&& wk == 0) = true
        · rw [if_pos hb]; simp only [List.filter_cons, hb, if_true, List.filter_nil, List.map_cons, List.map_nil]
        · rw [if_neg hb]; simp only [List.filter_cons, hb, List.filter_nil]; simp
      have HST := Lib.hid hst
      clear hcell0 hmk htk hs hacc hst hO hKr
      cases hb : (s &&& wk == 0) with
      | true =>
        have h3 : (((s &&& wk : Nat) : Int) == 0) = true := by rw [beq_iff_eq] at hb ⊢; omega
        have HB := Lib.hid hb
        clear hb
        generalize (s &&& wk : Nat) = z at h1 h3
        obtain ⟨d, hd⟩ : ∃ d, d = sdiff s fl := ⟨_, rfl⟩
        rw [← hd] at h2
        have HD := Lib.hid hd
        clear hd
        go_wp2_with (at_builtin; refine app_int rfl _ _ rfl w1.heap.size _ (ofN acc) rfl (HO.out.kept ((Kept.refl _).alloc _)) _ (d : Int) rfl (by simp) (by simp; omega) (by simp; omega) ?_; intro v7 w7 hown7 _ hb7; have O7 := Lib.hid hown7; have HB7 := Lib.hid hb7; clear hown7 hb7)
        go_roundw
        case rel => exact ⟨k + 1, by omega, by go_num, by rw [HST.out, if_pos HB.out, ← HD.out]; simpa [ofN] using O7.out, (HKr.out.alloc _).app HB7.out⟩
        case measure => simp [intOf]; omega
      | false =>
        have h3 : (((s &&& wk : Nat) : Int) == 0) = false := by
          have : ¬ (s &&& wk = 0) := fun h => by rw [h] at hb; cases hb
          simp; omega
        have HB := Lib.hid hb
        clear hb
        generalize (s &&& wk : Nat) = z at h1 h3
        go_wp2
        go_roundw
        case rel => exact ⟨k + 1, by omega, by go_num, by rw [HST.out, if_neg (by rw [HB.out]; simp)]; exact HO.out, HKr.out⟩
        case measure => simp [intOf]; omega
    · have hfull : ns.take k = ns := List.take_of_length_le (by have := HN.out; omega)
      rw [hfull] at HO
      obtain ⟨acc, hacc⟩ : ∃ acc, acc = (ns.filter fun s => s &&& wk == 0).map fun s => sdiff s fl := ⟨_, rfl⟩
      have hr : restrictK ns fl wk = minK acc := by rw [hacc]; rfl
      have hmk : ∀ n ∈ acc, Mk n := by
        rw [hacc]
        intro x hx
        obtain ⟨y, hy, rfl⟩ := List.mem_map.1 hx
        exact sdiff_mk (HV.out.2 y (List.mem_filter.1 hy).1)
      have hal : acc.length ≤ 1024 := by
        rw [hacc, List.length_map]
        have := List.length_filter_le (fun s => s &&& wk == 0) ns
        have := HN.out
        omega
      rw [← hacc] at HO
      have HR := Lib.hid hr
      have hs8 : SetsAt wr _ acc := ⟨HO.out.ints, hmk⟩
      have HM := Lib.hid (minimalS_any _ acc wr hs8 (by omega))
      obtain ⟨va, vn, vc, rfl⟩ := HO.out.ints.shape
      clear hfull hacc hr hmk hal hs8 hO hKr
      go_wp2_with (go_at_call 62; refine HM.out.mono ?_; rintro e w9 ⟨v9, rfl, ho9, hk9⟩)
      go_ret2
      exact ⟨⟨_, rfl, by rw [HR.out]; exact ho9.sets.1⟩, (K1.out.trans HKr.out).trans hk9⟩
set_option maxRecDepth 100000 in
theorem moved_any (V e : Nat) (v : Value) (T : Nat) (a : Nat) (w : World) (ha : a ≤ 1000) (hs : ∃ a n c, v = .slice a n c) :
    Calls Try.prog 28 #[.agg #[.int .i64 V, v, .int .i64 T], .int .i64 e, .int .i64 a] w fun e' w' => e' = .returned (.int .i64 (mvA V e a)) ∧ Kept w w' := by
  obtain ⟨sa, n, c, rfl⟩ := hs
  unfold mvA
  by_cases h1 : a = e
  · rw [if_pos (by omega)]
    have b1 : ((a : Int) == (e : Int)) = true := by simp; omega
    clear h1
    go_enter Try.func28, Try.ntmps28
    go_wp2
    go_ret
    exact ⟨rfl, (Kept.refl _).alloc _⟩
  · rw [if_neg (by omega)]
    have b1 : ((a : Int) == (e : Int)) = false := by simp; omega
    clear h1
    by_cases h2 : a < V
    · rw [if_pos (by omega)]
      have h2' : (a : Int) < (V : Int) := by omega
      clear h2
      go_enter Try.func28, Try.ntmps28
      go_wp2
      go_ret
      exact ⟨rfl, (Kept.refl _).alloc _⟩
    · rw [if_neg (by omega)]
      have h2' : ¬ (a : Int) < (V : Int) := by omega
      clear h2
      go_enter Try.func28, Try.ntmps28
      go_wp2
      go_ret
      exact ⟨rfl, (Kept.refl _).alloc _⟩
end Go.Proofs.Ytcgfjacidjebaaa
