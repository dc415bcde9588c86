/-
  Walks: family.lists; slices.Grow of nil, Concat; family.sized, Plus.
-/
import Derived.Test.YtcgfjacidjebaaaB6
namespace Go.Proofs.Ytcgfjacidjebaaa
open Go.RowKit

theorem rows_one {w : World} {va : Value} {xs : List Int} (ha : IntsAt w va xs) : RowsAt IntsAt (w.alloc (.cells #[va] 27)) (.slice (some ⟨w.heap.size, 0, none⟩) 1 1) [xs] :=
  ⟨_, _, rfl, ⟨by simp, fun h => by cases h⟩, by simp, fun i h => ⟨_, _, va, rfl, by match i, h with | 0, _ => simp, by match i, h with | 0, _ => exact ha.kept ((Kept.refl _).alloc _)⟩⟩
theorem rows_two {w : World} {va vb : Value} {xs ys : List Int} (ha : IntsAt w va xs) (hb : IntsAt w vb ys) : RowsAt IntsAt (w.alloc (.cells #[va, vb] 27)) (.slice (some ⟨w.heap.size, 0, none⟩) 2 2) [xs, ys] :=
  ⟨_, _, rfl, ⟨by simp, fun h => by cases h⟩, by simp, fun i h => by
    match i, h with
    | 0, _ => exact ⟨_, _, va, rfl, by simp, ha.kept ((Kept.refl _).alloc _)⟩
    | 1, _ => exact ⟨_, _, vb, rfl, by simp, hb.kept ((Kept.refl _).alloc _)⟩⟩

theorem valid_yes {s : Int} (h : 0 ≤ s ∧ s ≤ 16777215) (w : World) : Calls Try.prog 61 #[.int .i64 s] w fun e w' => e = .returned (.bool true) ∧ w = w' := by
  have := valid_any s w
  rwa [decide_eq_true h] at this
def listsC (xss : List (List Int)) : Nat := if xss.all (fun xs => decide (xs.length ≤ 1024)) then 0 else 4
set_option maxHeartbeats 1000000 in
theorem lists_any (v : Value) (xss : List (List Int)) (w : World) (hv : RowsAt IntsAt w v xss) (hx : ∀ xs ∈ xss, ∀ x ∈ xs, 0 ≤ x ∧ x ≤ 16777215) :
    Calls Try.prog 60 #[v] w fun e w' => e = .returned (errV (listsC xss)) ∧ Kept w w' := by
  obtain ⟨a, c, rfl, ⟨hc, _⟩, hl, hrow⟩ := hv
  obtain ⟨n, hn⟩ : ∃ n, n = xss.length := ⟨_, rfl⟩
  rw [← hn]
  have hn9 : n ≤ 140737488355328 := by omega
  have HX := Lib.hid hx
  have HR := Lib.hid hrow
  have HN := Lib.hid hn
  clear hx hrow hn hc hl
  go_enter Try.func60, Try.ntmps60
  go_wp2
  go_loopw [4, 6, 9, 19] (fun _ _ i _ wr => ∃ k : Nat, k ≤ n ∧ i = .int .i64 k ∧ Hid (∀ xs ∈ xss.take k, xs.length ≤ 1024) ∧ Kept w wr) (fun _ _ i _ _ => n - (intOf i).toNat)
  case atStart => exact ⟨0, Nat.zero_le _, rfl, Lib.hid (by simp), Kept.refl _⟩
  case round =>
    obtain ⟨k, hk, rfl, HF, hK⟩ := hrel
    by_cases hlt : k < n
    · have hkx : k < xss.length := by have := HN.out; omega
      obtain ⟨b, o, u, rfl, hc0, hI⟩ := HR.out k hkx
      have hcell := hK.cell hc0
      have hI2 := hI.kept hK
      obtain ⟨xs, hxs⟩ : ∃ x, x = xss[k] := ⟨_, rfl⟩
      rw [← hxs] at hI hI2
      have hval := HX.out xs (by rw [hxs]; exact List.getElem_mem _)
      obtain ⟨ax, cx, rfl, _, hlx, hcx⟩ := hI
      obtain ⟨m, hm⟩ : ∃ m, m = xs.length := ⟨_, rfl⟩
      rw [← hm] at hcell
      have hm9 : m ≤ 140737488355328 := by omega
      have HV := Lib.hid hval
      have HCX := Lib.hid hcx
      have HM := Lib.hid hm
      have HXS := Lib.hid hxs
      clear hc0 hval hcx hm hxs hI2 hlx
      by_cases hlen : m ≤ 1024
      · go_wp2
        obtain ⟨wo, hwo⟩ : ∃ wo : World, wo = wr := ⟨_, rfl⟩
        rw [← hwo] at hK
        go_loopw [6, 19] (fun _ j wi => ∃ q : Nat, q ≤ m ∧ j = .int .i64 q ∧ Kept w wi) (fun _ j _ => m - (intOf j).toNat)
        case atStart => exact ⟨0, Nat.zero_le _, rfl, by rw [← hwo]; exact hK⟩
        case round =>
          obtain ⟨q, hq, rfl, hK2⟩ := hrel
          by_cases hqm : q < m
          · have hqx : q < xs.length := by have := HM.out; omega
            obtain ⟨b2, o2, rfl, hc2⟩ := HCX.out q hqx
            have hcell2 := hK2.cell hc2
            obtain ⟨s, hs⟩ : ∃ s, s = xs[q] := ⟨_, rfl⟩
            rw [← hs] at hcell2
            have hsv : 0 ≤ s ∧ s ≤ 16777215 := HV.out s (by rw [hs]; exact List.getElem_mem _)
            have HSV := Lib.hid hsv
            clear hc2 hs hsv
            go_wp2_with (go_at_call 61; refine (valid_yes HSV.out _).mono ?_; rintro e w' ⟨rfl, rfl⟩)
            go_roundw
            case rel => exact ⟨q + 1, by omega, by go_num, hK2⟩
            case measure => simp [intOf]; omega
          · go_wp2
            go_roundw
            case rel =>
              refine ⟨k + 1, by omega, by go_num, Lib.hid ?_, hK2⟩
              intro ys hy
              rw [List.take_succ_eq_append_getElem hkx] at hy
              rcases List.mem_append.1 hy with hy | hy
              · exact HF.out ys hy
              · simp at hy; rw [hy, ← HXS.out, ← HM.out]; exact hlen
            case measure => simp [intOf]; omega
      · go_wp2
        go_ret
        refine ⟨?_, hK⟩
        have : listsC xss = 4 := by
          unfold listsC
          rw [if_neg]
          intro h
          have := List.all_eq_true.1 h xs (by rw [HXS.out]; exact List.getElem_mem _)
          simp at this; have := HM.out; omega
        rw [this]; rfl
    · go_wp2
      go_ret
      refine ⟨?_, hK⟩
      have hh := HF.out
      rw [List.take_of_length_le (by have := HN.out; omega)] at hh
      have : listsC xss = 0 := by
        unfold listsC
        rw [if_pos]
        rw [List.all_eq_true]
        intro ys hy; exact decide_eq_true (hh ys hy)
      rw [this]; rfl

set_option maxHeartbeats 1000000 in
theorem grow_zero (w : World) : Calls Try.prog 103 #[.slice none 0 0, .int .i64 0] w fun e w' => e = .returned (.slice none 0 0) ∧ w = w' := by
  go_enter Try.func103, Try.ntmps103
  go_wp2
  go_ret
  exact ⟨rfl, rfl⟩
set_option maxHeartbeats 1000000 in
theorem grow_some (n : Nat) (h0 : 0 < n) (hn : n ≤ 17592186044416) (w : World) : Calls Try.prog 103 #[.slice none 0 0, .int .i64 n] w fun e w' => ∃ v, e = .returned v ∧ OwnInts w' w.heap.size v [] ∧ Kept w w' := by
  obtain ⟨i0, hi0, hz0, hz1, hz2⟩ := info_parts info_int
  have h1 : ¬ ((n : Int) < 0) := by omega
  have h3 : wrap64 ((n : Int) - ((0 : Int) - (0 : Int))) = n := by unfold wrap64; omega
  have h4 : (n : Int) > 0 := by omega
  have hold : (Builtin.firstCells i0.size 0 (.slice none 0 0)).run Try.prog w.drew = .ok (([] : List Value).toArray) w.drew := run_firstCells_none w.drew i0.size 0 0 0
  have hrz : ∀ ty, (Builtin.append_ #[27, 3] ty #[.slice none 0 0, .int .i64 (n : Int)]).run Try.prog w =
      .ok (.slice (some ⟨w.heap.size, 0, none⟩) n (grownCap w n 0 3)) (w.drew.alloc (.cells (([] : List Value).toArray ++ Builtin.zeroCells (Value.int .i64 0).cells n ++ Builtin.zeroCells (Value.int .i64 0).cells (grownCap w n 0 3 - n)) 3)) := fun ty => by
    have h := Lib.run_append_grow_zeros (P := Try.prog) w 27 3 ty 3 i0 _ .i64 .i64 Try.underlying27 Try.underlying3 hi0 hz0 none 0 0 [] hold n h0 (by omega) (by omega) (by omega)
      (by rw [hz2]; omega) (growslice_fits (by omega) (by rw [hz2]; omega))
    simpa using h
  have hGn : n ≤ grownCap w n 0 3 := grownCap_ge w _ _ _
  obtain ⟨G, hG⟩ : ∃ G, G = grownCap w n 0 3 := ⟨_, rfl⟩
  rw [← hG] at hrz hGn
  have hG63 : G ≤ 9223372036854775807 := by
    have := grownCap_le_maxLen w n 0 3 (by unfold maxLen; omega)
    rw [← hG] at this
    unfold maxLen at this
    omega
  clear hold hG
  obtain ⟨cur, hcur⟩ : ∃ cur, cur = (([] : List Value).toArray ++ Builtin.zeroCells (Value.int .i64 0).cells n ++ Builtin.zeroCells (Value.int .i64 0).cells (G - n)) := ⟨_, rfl⟩
  rw [← hcur] at hrz
  have hsz : cur.size = G := by rw [hcur]; simp [Builtin.zeroCells, Value.cells]; omega
  have HC := Lib.hid hsz
  clear hcur hsz
  go_enter Try.func103, Try.ntmps103
  go_wp2_with (at_builtin; refine Lib.wpList_append_run _ rfl _ _ _ _ rfl _ _ rfl rfl _ _ (hrz _) ?_)
  all_goals
    go_ret
    refine ⟨_, rfl, ⟨?_, by simp⟩, ((Kept.refl _).drew).alloc _⟩
    exact World.ownsRow_made w.drew cur G (base := w.heap.size) (e := 3) (size := 1) (Nat.le_refl _) hG63 (by rw [HC.out]; omega)
set_option maxHeartbeats 1000000 in
theorem concat_any (v : Value) (xss : List (List Int)) (w : World) (hv : RowsAt IntsAt w v xss) (hlen : xss.flatten.length ≤ 17592186044416) :
    Calls Try.prog 78 #[v] w fun e w' => ∃ v', e = .returned v' ∧ OwnInts w' w.heap.size v' xss.flatten ∧ Kept w w' := by
  obtain ⟨a, c, rfl, ⟨hc, _⟩, hl, hrow⟩ := hv
  obtain ⟨n, hn⟩ : ∃ n, n = xss.length := ⟨_, rfl⟩
  rw [← hn]
  have hn9 : n ≤ 140737488355328 := by omega
  have hsum : ∀ k, (xss.take k).flatten.length ≤ xss.flatten.length := fun k => by
    have h1 := List.take_append_drop k xss
    have h2 : xss.flatten.length = (xss.take k).flatten.length + (xss.drop k).flatten.length := by rw [← List.length_append, ← List.flatten_append, h1]
    omega
  have hstep : ∀ k (h : k < xss.length), (xss.take (k + 1)).flatten = (xss.take k).flatten ++ xss[k] := fun k h => by
    rw [List.take_succ_eq_append_getElem h, List.flatten_append]; simp
  have HR := Lib.hid hrow
  have HN := Lib.hid hn
  have HS := Lib.hid hsum
  have HT := Lib.hid hstep
  have HL := Lib.hid hlen
  clear hrow hn hc hl hsum hstep hlen
  go_enter Try.func78, Try.ntmps78
  go_wp2
  go_loopw [3, 5, 11] (fun s _ i wr => ∃ k : Nat, k ≤ n ∧ i = .int .i64 k ∧ s = .int .i64 ((xss.take k).flatten.length : Nat) ∧ Kept w wr) (fun _ _ i _ => n - (intOf i).toNat)
  case atStart => exact ⟨0, Nat.zero_le _, rfl, rfl, Kept.refl _⟩
  case round =>
    obtain ⟨k, hk, rfl, rfl, hK⟩ := hrel
    have hb := HS.out k
    have hb2 := HL.out
    obtain ⟨t, ht⟩ : ∃ t, t = (xss.take k).flatten.length := ⟨_, rfl⟩
    have ht9 : t ≤ 17592186044416 := by omega
    rw [← ht]
    by_cases hlt : k < n
    · have hkx : k < xss.length := by have := HN.out; omega
      obtain ⟨b, o, u, rfl, hc0, hI⟩ := HR.out k hkx
      have hcell := hK.cell hc0
      have hst := HT.out k hkx
      have hb3 := HS.out (k + 1)
      obtain ⟨xs, hxs⟩ : ∃ x, x = xss[k] := ⟨_, rfl⟩
      rw [← hxs] at hI hst
      obtain ⟨ax, cx, rfl, _, hlx, _⟩ := hI
      obtain ⟨m, hm⟩ : ∃ m, m = xs.length := ⟨_, rfl⟩
      rw [← hm] at hcell
      have hnew : t + m = (xss.take (k + 1)).flatten.length := by rw [hst, List.length_append]; omega
      have htm : t + m ≤ 17592186044416 := by omega
      have HNew := Lib.hid hnew
      clear hc0 hlx hm hxs hst hb3 hb hb2 ht hnew
      go_wp2
      go_roundw
      case rel => exact ⟨k + 1, by omega, by go_num, by rw [← HNew.out]; go_num, hK⟩
      case measure => simp [intOf]; omega
    · have e : k = n := by omega
      have htx : t = xss.flatten.length := by rw [ht, e, List.take_of_length_le (by have := HN.out; omega)]
      have HTX := Lib.hid htx
      clear htx ht hb hb2
      have hgrow : Calls Try.prog 103 #[.slice none 0 0, .int .i64 t] wr fun e w' => ∃ v, e = .returned v ∧ OwnInts w' wr.heap.size v [] ∧ Kept wr w' := by
        by_cases h0 : t = 0
        · subst h0
          exact (grow_zero wr).mono fun e w' ⟨h1, h2⟩ => ⟨_, h1, OwnInts.nil _ _, by subst h2; exact Kept.refl _⟩
        · exact grow_some t (by omega) ht9 wr
      have HG := Lib.hid hgrow
      clear hgrow
      go_wp2_with (go_at_call 103; refine HG.out.mono ?_; rintro e w1 ⟨v1, rfl, ho1, hk1⟩; have O1 := Lib.hid ho1; clear ho1)
      have hz := hK.size
      have K1 : Kept w w1 := hK.trans hk1
      go_loopw [6, 8, 27] (fun v _ i wr => ∃ k : Nat, k ≤ n ∧ i = .int .i64 k ∧ OwnInts wr w.heap.size v (xss.take k).flatten ∧ Kept w wr) (fun _ _ i _ => n - (intOf i).toNat)
      case atStart => exact ⟨0, Nat.zero_le _, rfl, O1.out.mono hz, K1⟩
      case round =>
        obtain ⟨q, hq, rfl, hown, hK2⟩ := hrel
        have hz2 := hK2.size
        by_cases hlt2 : q < n
        · have hkx : q < xss.length := by have := HN.out; omega
          obtain ⟨b, o, u, rfl, hc0, hI⟩ := HR.out q hkx
          have hcell := hK2.cell hc0
          have hI2 := hI.kept hK2
          have hst := HT.out q hkx
          have hb3 := HS.out (q + 1)
          have hb4 := HL.out
          obtain ⟨xs, hxs⟩ : ∃ x, x = xss[q] := ⟨_, rfl⟩
          rw [← hxs] at hst hI2
          obtain ⟨acc, hacc⟩ : ∃ x, x = (xss.take q).flatten := ⟨_, rfl⟩
          rw [← hacc] at hst hown
          have hsz : acc.length + xs.length ≤ 17592186044416 := by rw [hst, List.length_append] at hb3; omega
          have HO := Lib.hid hown
          have HST := Lib.hid hst
          have HI := Lib.hid hI2
          clear hc0 hI hown hst hI2 hxs hacc hb3 hb4
          go_wp2_with (at_builtin; refine app_ints rfl _ _ rfl w.heap.size _ acc rfl HO.out _ xs rfl HI.out hsz hz2 ?_; intro v' w3 hown3 _ hb3)
          go_roundw
          case rel => exact ⟨q + 1, by omega, by go_num, by rw [HST.out]; exact hown3, hK2.app hb3⟩
          case measure => simp [intOf]; omega
        · go_wp2
          go_ret
          have e : q = n := by omega
          subst e
          rw [List.take_of_length_le (by have := HN.out; omega)] at hown
          exact ⟨_, rfl, hown, hK2⟩
end Go.Proofs.Ytcgfjacidjebaaa
