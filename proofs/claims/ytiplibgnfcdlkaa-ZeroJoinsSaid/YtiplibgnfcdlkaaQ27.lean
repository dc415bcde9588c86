import Derived.Test.YtiplibgnfcdlkaaQ25
import Derived.Test.YtiplibgnfcdlkaaQ06
/-
  Walk: the reference's Count.
-/
namespace Go.Proofs.Ytiplibgnfcdlkaa
open Go.RowKit

theorem own_at {w : World} {g n cp : Nat} {l : List Nat} (h : OwnInts w 0 (.slice (some ⟨g, 0, none⟩) n cp) (natI l)) {i : Nat} (hi : i < l.length) : w.cell? ⟨g, i, none⟩ = some (.int .i64 ((l[i] : Nat) : Int)) := by
  have h1 := h.1
  have hn : (natI l).length = n := by
    rcases h1.2 with ⟨e, _⟩ | ⟨_, _, _, e, _⟩
    · cases e
    · cases e; rfl
  rw [hn] at h1
  exact own_cells h1 hi
/-- The counts of the references below k. -/
def zcs (N : List ZNode) (k : Nat) : List Nat := (List.range k).map (zct N)
theorem zcs_len (N : List ZNode) (k : Nat) : (zcs N k).length = k := by unfold zcs; simp
theorem zcs_at {N : List ZNode} {k i : Nat} (h : i < (zcs N k).length) : (zcs N k)[i] = zct N i := by simp only [zcs, List.getElem_map, List.getElem_range]
theorem zcs_step {N : List ZNode} (hg : ZGood N) {i : Nat} (hi : i < N.length) : zcs N (i + 2 + 1) = zcs N (i + 2) ++ [zct N N[i].lo + zct N N[i].hi] := by
  unfold zcs
  rw [List.range_succ, List.map_append, ← zct_node hg hi]
  rfl
/-- One number more. -/
theorem cnt_step {W wi w5 : World} {g gg m cp cap : Nat} {O : Obj} {x y : Value} {l : List Nat} {z : Nat} (hK : Kept W wi) (hG : W.heap.size + 1 ≤ g ∧ g < wi.heap.size)
    (hc : wi.cell? ⟨W.heap.size, 0, none⟩ = some x ∧ wi.cell? ⟨W.heap.size, 1, none⟩ = some y) (hl : l.length = m) (hm : m ≤ 5000)
    (hown5 : w5.ownsRow 0 3 1 (.slice (some ⟨gg, 0, none⟩) (m + 1) cap) (m + 1) ((natI l).map (.int .i64) ++ [.int .i64 (z : Nat)]))
    (hgrow : ((wi.alloc O).drew).grownBy w5 (Value.slice (some ⟨g, 0, none⟩) m cp).ownBlock) (hat : (Value.slice (some ⟨g, 0, none⟩) m cp).ownBlock = some gg ∨ gg = wi.heap.size + 1) (hlt : gg < w5.heap.size) :
    m + 1 ≤ cap ∧ Hid (OwnInts w5 0 (.slice (some ⟨gg, 0, none⟩) (m + 1) cap) (natI (l ++ [z]))) ∧ Hid (Kept W w5) ∧ Hid (W.heap.size + 1 ≤ gg ∧ gg < w5.heap.size) ∧ Hid (w5.cell? ⟨W.heap.size, 0, none⟩ = some x ∧ w5.cell? ⟨W.heap.size, 1, none⟩ = some y) := by
  have hk := ((Kept.refl wi).alloc O).drew
  have hsz := hk.size
  have e : (natI (l ++ [z])).map (Value.int .i64) = (natI l).map (Value.int .i64) ++ [.int .i64 (z : Int)] := by unfold natI; rw [List.map_append, List.map_append]; rfl
  have hne : some W.heap.size ≠ (Value.slice (some ⟨g, 0, none⟩) m cp).ownBlock := fun e => by
    have : W.heap.size = g := by simpa [Value.ownBlock] using e
    omega
  refine ⟨?_, Lib.hid ⟨?_, by rw [natI_len, List.length_append, hl]; simp; omega⟩, Lib.hid ⟨hgrow.os.trans (hk.os.trans hK.os), hgrow.tape.trans (hk.tape.trans hK.tape), hgrow.output.trans (hk.output.trans hK.output), by have := hgrow.size; have := hK.size; omega, fun k hlt => ?_⟩, Lib.hid ⟨?_, hlt⟩, Lib.hid ⟨?_, ?_⟩⟩
  · rcases hown5.2 with ⟨e, _⟩ | ⟨_, _, _, e, _, _, h, _⟩
    · cases e
    · cases e; exact h
  · rw [e, natI_len, List.length_append, hl, List.length_singleton]; exact hown5
  · have h1 := hK.size
    refine (hgrow.block k (by omega) (fun e => ?_)).trans ((hk.block k (by omega)).trans (hK.block k hlt))
    have : k = g := by simpa [Value.ownBlock] using e
    omega
  · rcases hat with h | h
    · have : g = gg := by simpa [Value.ownBlock] using h
      omega
    · have := hK.size; omega
  · exact hgrow.cell (hk.cell hc.1) hne
  · exact hgrow.cell (hk.cell hc.2) hne
set_option maxRecDepth 100000 in
set_option maxHeartbeats 4000000 in
theorem zrcount_any {N : List ZNode} (hg : ZGood N) (v : Value) (root : Nat) (W : World) (h : ZeroAt W v (N.map zi) root) (hN : N.length ≤ 4096) (hr : root ≤ 1 + N.length) :
    Calls Try.prog 29 #[v] W fun e w' => e = .returned (.int .i64 (zct N root : Nat)) ∧ Kept W w' := by
  obtain ⟨i0, hi0, hz0, hz1, hz2⟩ := info_parts info_int
  have I0 := Lib.hid hi0
  have I1 := Lib.hid hz0
  have I2 := Lib.hid hz1
  have I3 := Lib.hid hz2
  clear hi0 hz0 hz1 hz2
  obtain ⟨s, rfl, hL⟩ := h
  obtain ⟨a, c, rfl⟩ := hL.shape
  obtain ⟨n, hn⟩ : ∃ n, n = (N.map zi).length := ⟨_, rfl⟩
  have hcap := hL.cap.1
  rw [← hn] at hL hcap ⊢
  have hnl : n = N.length := by rw [hn, List.length_map]
  obtain ⟨Q, hQ⟩ : ∃ q, q = zct N root := ⟨_, rfl⟩
  rw [← hQ]
  obtain ⟨w1, hw1⟩ : ∃ w1, w1 = W.alloc (.cells #[.slice a n c, .int .i64 root] 24) := ⟨_, rfl⟩
  have hk1 : Kept W w1 := by rw [hw1]; exact (Kept.refl _).alloc _
  have hx1 : RowAt w1 W.heap.size 24 [.slice a n c, .int .i64 root] := by rw [hw1]; exact RowAt.made W #[.slice a n c, .int .i64 root] 24
  have z0 := hx1.cell (i := 0) (by simp)
  have z1 := hx1.cell (i := 1) (by simp)
  simp only [List.getElem_cons_succ, List.getElem_cons_zero] at z0 z1
  obtain ⟨w2, hw2⟩ : ∃ w2, w2 = w1.alloc (.cells #[.int .i64 0, .int .i64 1] 3) := ⟨_, rfl⟩
  have hk2 : Kept w1 w2 := by rw [hw2]; exact (Kept.refl _).alloc _
  have ho2 : OwnInts w2 0 (.slice (some ⟨w1.heap.size, 0, none⟩) 2 2) (natI (zcs N 2)) := by
    have e : natI (zcs N 2) = [0, 1] := by
      have : zcs N 2 = [0, 1] := by
        show [zct N 0, zct N 1] = [0, 1]
        rw [zct_zero, zct_one]
      rw [this]; rfl
    rw [e]
    refine ⟨⟨rfl, .inr ⟨w1.heap.size, 2, #[.int .i64 0, .int .i64 1], rfl, Nat.zero_le _, ?_, by simp, by decide, by simp, by simp⟩⟩, by simp⟩
    rw [hw2]; exact heap_alloc_new w1 _
  have HL := Lib.hid hL
  have HN := Lib.hid hnl
  have HQ := Lib.hid hQ
  have HG := Lib.hid hg
  have HW1 := Lib.hid hw1
  have HW2 := Lib.hid hw2
  have HZ := Lib.hid (And.intro (hk2.cell z0) (hk2.cell z1))
  have HK2 := Lib.hid (hk1.trans hk2)
  have HO2 := Lib.hid ho2
  have HROOT := Lib.hid hr
  have HNB : Hid (w1.heap.size ≥ W.heap.size ∧ w1.heap.size < w2.heap.size ∧ W.heap.size < w1.heap.size) := Lib.hid ⟨by rw [hw1]; simp, by rw [hw2]; simp, by rw [hw1]; simp⟩
  have hn4 : n ≤ 4096 := by omega
  clear hL hnl hQ hg hw1 hw2 hk1 hk2 hx1 ho2 hr hn
  go_enter Try.func29, Try.ntmps29
  go_upto_region 1 with fail
  rw [← HW1.out]
  go_upto_region 2 with fail
  rw [← HW2.out]
  clear z0 z1
  go_wp2_with fail
  go_loopg [3, 4] n (fun kx s3 s4 wr => ∃ k g m cp : Nat, s3 = .slice (some ⟨g, 0, none⟩) m cp ∧ s4 = .int .i64 k ∧ m = k + 2 ∧ k ≤ n ∧ n - k ≤ kx ∧ m ≤ cp ∧ Hid (OwnInts wr 0 (.slice (some ⟨g, 0, none⟩) m cp) (natI (zcs N m))) ∧ Hid (Kept W wr) ∧ Hid (W.heap.size + 1 ≤ g ∧ g < wr.heap.size) ∧ Hid (wr.cell? ⟨W.heap.size, 0, none⟩ = some (.slice a n c) ∧ wr.cell? ⟨W.heap.size, 1, none⟩ = some (.int .i64 root)))
  case atStart => exact ⟨0, w1.heap.size, 2, 2, rfl, by first | rfl | go_num, rfl, Nat.zero_le _, by omega, Nat.le_refl _, HO2, HK2, Lib.hid (by have := HNB.out; omega), HZ⟩
  case round =>
    obtain ⟨k, g, m, cp, rfl, rfl, hmk, hk, hkx, hmc, HO, HKr, HGB, HZr⟩ := hrel
    obtain ⟨wi, rfl⟩ : ∃ wi : World, wi = wr := ⟨_, rfl⟩
    have hmb : m ≤ 5000 := by omega
    have HMK := Lib.hid hmk
    obtain ⟨y0, y1⟩ := HZr.out
    by_cases hlt : k < n
    · have hlti : (k : Int) < (n : Int) := by omega
      have hk0 : (0 : Int) ≤ (k : Int) := by omega
      have hkN : k < N.length := by rw [← HN.out]; exact hlt
      obtain ⟨b1, o1, rfl, p0, p1, p2⟩ := (HL.out.kept (HKr.out.drew)).read k (by rw [List.length_map]; exact hkN)
      rw [List.getElem_map] at p0 p1 p2
      obtain ⟨lo, hlo⟩ : ∃ l, l = N[k].lo := ⟨_, rfl⟩
      obtain ⟨hi, hhi⟩ : ∃ l, l = N[k].hi := ⟨_, rfl⟩
      rw [show (zi N[k]).lo = (lo : Int) by rw [hlo]; rfl] at p1
      rw [show (zi N[k]).hi = (hi : Int) by rw [hhi]; rfl] at p2
      have hl1 := (HG.out.lo k hkN).1
      have hh1 := (HG.out.hi k hkN).1
      have hst := zcs_step HG.out hkN
      rw [← hlo, ← hhi] at hst
      rw [← hlo] at hl1
      rw [← hhi] at hh1
      have hol := HO.out.kept (Kept.refl wi).drew
      have q1 := own_at hol (i := lo) (by rw [zcs_len]; omega)
      have q2 := own_at hol (i := hi) (by rw [zcs_len]; omega)
      rw [zcs_at] at q1 q2
      have hm1 := zct_max HG.out (r := lo) (by omega)
      have hm2 := zct_max HG.out (r := hi) (by omega)
      obtain ⟨ca, hca⟩ : ∃ x, x = zct N lo := ⟨_, rfl⟩
      obtain ⟨cb, hcb⟩ : ∃ x, x = zct N hi := ⟨_, rfl⟩
      rw [← hca] at q1 hm1 hst
      rw [← hcb] at q2 hm2 hst
      have eab : (ca : Int) + (cb : Int) = ((ca + cb : Nat) : Int) := by omega
      obtain ⟨y, hy⟩ : ∃ y, y = ca + cb := ⟨_, rfl⟩
      rw [← hy] at eab hst
      have hyb : y ≤ 33554432 := by omega
      have hyw : IntKind.i64.wrap (y : Int) = (y : Int) := by rw [IntKind.wrap_i64]; omega
      have hlom : (lo : Int) < (m : Int) := by omega
      have hhim : (hi : Int) < (m : Int) := by omega
      have hlo0 : (0 : Int) ≤ (lo : Int) := by omega
      have hhi0 : (0 : Int) ≤ (hi : Int) := by omega
      have HST : Hid (zcs N (m + 1) = zcs N m ++ [y]) := Lib.hid (by rw [HMK.out]; exact hst)
      have d0 := (Kept.refl wi).drew.cell y0
      have HOD : Hid (∀ O, ((wi.alloc O).drew).ownsRow 0 3 1 (.slice (some ⟨g, 0, none⟩) m cp) m ((natI (zcs N m)).map (.int .i64))) := Lib.hid fun O => by
        have := (HO.out.kept (((Kept.refl wi).alloc O).drew)).1
        rw [natI_len, zcs_len] at this
        exact this
      clear p0 hlo hhi hl1 hh1 hst hol hm1 hm2 hca hcb hy hkN hmk
      go_upto_region 5 with fail
      go_region_law ((refine step_append_lies _ (by rfl) _ _ _ (by rfl) 0 3 i0 _ 1 8 Try.underlying25 I0.out I1.out I2.out I3.out rfl (by omega) (.slice (some ⟨g, 0, none⟩) m cp) m _ (by rfl) (HOD.out _) ⟨wi.heap.size, 0, none⟩ 1 1 [.int .i64 y] (by rfl) (by rfl) (World.news_of_block (cs := #[.int .i64 y]) (t := 3) (fr := (0, 0)) (zheap_new wi _)) (by simp [Value.oneCell']) (by omega) (by unfold maxLen; omega) (by omega) (Nat.zero_le _) (wi.heap.size + 1) (by simp) ?_; intro gg cap w5 hown5 hgrow hat hlt5))
      all_goals
        obtain ⟨hcap5, HO5, HK5, HG5, HZ5⟩ := cnt_step HKr.out HGB.out HZr.out (zcs_len N m) hmb hown5 hgrow hat hlt5
        rw [← HST.out] at HO5
        clear hown5 hgrow hat hlt5
        go_wp2_with fail
        go_roundg (n - (k + 1))
        case measure => omega
        case rel => exact ⟨k + 1, gg, m + 1, cap, rfl, by go_num, by have := HMK.out; omega, by omega, Nat.le_refl _, hcap5, HO5, HK5, HG5, HZ5⟩
    · have hlti : ¬ (k : Int) < (n : Int) := by omega
      have hrm : (root : Int) < (m : Int) := by have := HROOT.out; have := HN.out; omega
      have hr0 : (0 : Int) ≤ (root : Int) := by omega
      have hrl : root < (zcs N m).length := by rw [zcs_len]; omega
      have q1 := own_at HO.out hrl
      rw [zcs_at, ← HQ.out] at q1
      go_wp2_with fail
      go_ret
      exact ⟨rfl, HKr.out⟩
end Go.Proofs.Ytiplibgnfcdlkaa
