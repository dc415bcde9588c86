import Derived.Test.YtiplibgnfcdlkaaQZE6
/-
  Walks: the reference's sets, List.
-/
namespace Go.Proofs.Ytiplibgnfcdlkaa
open Go.RowKit

theorem step_sf {ops : Array Oper} {o : Oper} {a : Act} {K : Act → World → Prop} {Q : Exit → Act → World → Prop} {E : Prop} {w : World} (hgd : o.guard = none) (s x : Operand)
    (ho : o.op = .call { callee := .builtin .append, args := #[s, x], argTypes := #[25, 25] }) (v : Value) (xs : List Int) (n : Nat) (hn : xs.length = n) (hs : a.eval s = v) (hown : OwnInts w 0 v xs)
    (ad : Addr) (y : Int) (hx : a.eval x = .slice (some ad) 1 1) (hc : w.cell? ad = some (.int .i64 y)) (hl : n < 17592186044416)
    (h : ∀ g c w', OwnInts w' 0 (.slice (some ⟨g, 0, none⟩) (n + 1) c) (xs ++ [y]) → SFrm v (.slice (some ⟨g, 0, none⟩) (n + 1) c) w w' → K (a.put o.dst (.slice (some ⟨g, 0, none⟩) (n + 1) c)) w') :
    if Region.wanted o (yielded ops a.tmps) = true then Oper.wp Try.prog o a w K Q else E := by
  obtain ⟨i0, hi0, hz0, hz1, hz2⟩ := info_parts info_int
  subst hn
  refine step_append_lies w hgd s x 25 ho 0 3 i0 _ 1 8 Try.underlying25 hi0 hz0 hz1 hz2 rfl (by omega) v xs.length _ hs hown.1 ad 1 1 [.int .i64 y] hx rfl ?_ (by simp [Value.oneCell']) (by omega) (by unfold maxLen; omega) (by omega) (Nat.zero_le _) w.heap.size rfl ?_
  · intro j u hj
    match j, hj with
    | 0, hj => simp at hj; subst hj; simpa [Addr.add] using hc
  · intro g cap w' h2 h3 h4 h5
    refine h _ _ w' ⟨by simpa using h2, by simp; omega⟩ ⟨h3.os, h3.tape, h3.output, h3.size, fun k hk hn => h3.block k hk (fun e => hn e.symm), fun k hk => ?_⟩
    obtain rfl : g = k := by simpa [Value.ownBlock] using hk
    exact h4.imp id (fun e => by omega)
theorem own_shape {w : World} {B n : Nat} {v : Value} {xs : List Int} (h : OwnInts w B v xs) (hn : xs.length = n) : ∃ b c, v = .slice b n c ∧ n ≤ c := by
  rcases h.1.2 with ⟨e1, e2⟩ | ⟨g, cap, cur, e1, _, _, h6, _⟩
  · exact ⟨none, 0, by rw [e1, ← hn, e2], by omega⟩
  · exact ⟨_, cap, by rw [e1, hn], by omega⟩
theorem own_base {w : World} {B : Nat} {v : Value} {xs : List Int} (h : OwnInts w B v xs) {k : Nat} (hk : v.ownBlock = some k) : B ≤ k := by
  rcases h.1.2 with ⟨e1, _⟩ | ⟨g, cap, cur, e1, h4, _⟩
  · rw [e1] at hk; cases hk
  · rw [e1] at hk
    obtain rfl : g = k := by simpa [Value.ownBlock] using hk
    exact h4
theorem own_up {w : World} {B : Nat} {v : Value} {xs : List Int} (h : OwnInts w 0 v xs) (hb : ∀ k, v.ownBlock = some k → B ≤ k) : OwnInts w B v xs := by
  refine ⟨⟨h.1.1, ?_⟩, h.2⟩
  rcases h.1.2 with h1 | ⟨g, cap, cur, e1, h4, h5⟩
  · exact .inl h1
  · exact .inr ⟨g, cap, cur, e1, hb g (by rw [e1]; rfl), h5⟩
set_option maxRecDepth 100000 in
set_option maxHeartbeats 8000000 in
theorem rsets_any {N : List ZNode} (hg : ZGood N) (hN : N.length ≤ 4096) : ∀ r, r ≤ 1 + N.length → zct N r ≤ 100000 → ∀ (W : World) (zv : Value) (root : Int), ZeroAt W zv (N.map zi) root →
    Calls Try.prog 69 #[zv, .int .i64 r] W fun e w' => (∃ v', e = .returned v' ∧ OwnInts w' W.heap.size v' (natI (zsets N r))) ∧ Kept W w' := by
  intro r
  induction r using Nat.strongRecOn with
  | ind r ih =>
    intro hr hcz W zv root hz
    obtain ⟨sv, rfl, hd⟩ := id hz
    obtain ⟨ad, cp, rfl⟩ := hd.shape
    obtain ⟨n, hn⟩ : ∃ n, n = (N.map zi).length := ⟨_, rfl⟩
    have hcap := hd.cap
    rw [← hn] at hz hd hcap ⊢
    obtain ⟨w1, hw1⟩ : ∃ w1, w1 = W.alloc (.cells #[.slice ad n cp, .int .i64 root] 24) := ⟨_, rfl⟩
    have hk1 : Kept W w1 := by rw [hw1]; exact (Kept.refl _).alloc _
    have HW1 := Lib.hid hw1
    have HK1 := Lib.hid hk1
    by_cases h0 : r = 0
    · subst h0
      rw [zsets_zero]
      clear hw1 hk1 hz hd hr ih hcz hn hcap
      go_enter Try.func69, Try.ntmps69
      go_upto_region 1 with fail
      rw [← HW1.out]
      go_wp2_with fail
      go_ret
      exact ⟨⟨_, rfl, OwnInts.nil _ _⟩, HK1.out⟩
    by_cases h1 : r = 1
    · subst h1
      rw [zsets_one]
      have hx := RowAt.made w1 #[.int .i64 0] 3
      have HFIN : Hid (OwnInts (w1.alloc (.cells #[.int .i64 0] 3)) W.heap.size (.slice (some ⟨w1.heap.size, 0, none⟩) 1 1) (natI [0])) := Lib.hid (by
        refine ⟨⟨rfl, .inr ⟨w1.heap.size, 1, #[.int .i64 0], rfl, hk1.size, heap_alloc_new w1 _, by decide, by decide, rfl, rfl⟩⟩, by decide⟩)
      clear hw1 hk1 hz hd hr ih hcz hn hcap h0 hx
      go_enter Try.func69, Try.ntmps69
      go_upto_region 1 with fail
      rw [← HW1.out]
      go_wp2_with fail
      go_ret
      exact ⟨⟨_, rfl, HFIN.out⟩, HK1.out.alloc _⟩
    obtain ⟨i, hi⟩ : ∃ i, r = i + 2 := ⟨r - 2, by omega⟩
    have hiN : i < N.length := by omega
    have hlo := hg.lo i hiN
    have hhi := hg.hi i hiN
    have hev := hg.ev i hiN
    obtain ⟨bb, oo, rfl, y0, y1, y2⟩ := hd.read i (by rw [List.length_map]; exact hiN)
    have hin : i < n := by rw [hn, List.length_map]; exact hiN
    rw [List.getElem_map] at y0 y1 y2
    have hstep := zsets_node hg hiN
    have hcn := zct_node hg hiN
    rw [← hi] at hstep hcn
    have hll := zsets_len hg N[i].lo (by omega)
    have hlh := zsets_len hg N[i].hi (by omega)
    have hhlt : ∀ s ∈ zsets N N[i].hi, s < 16777216 := fun s hs => zsets_lt hg (by omega) hs
    obtain ⟨nv, hnv⟩ : ∃ l, l = N[i].v := ⟨_, rfl⟩
    obtain ⟨l0, hl0⟩ : ∃ l, l = N[i].lo := ⟨_, rfl⟩
    obtain ⟨l1, hl1⟩ : ∃ l, l = N[i].hi := ⟨_, rfl⟩
    rw [show (zi N[i]).v = (nv : Int) by rw [hnv]; rfl] at y0
    rw [show (zi N[i]).lo = (l0 : Int) by rw [hl0]; rfl] at y1
    rw [show (zi N[i]).hi = (l1 : Int) by rw [hl1]; rfl] at y2
    rw [← hnv, ← hl0, ← hl1] at hstep
    rw [← hl0] at hlo hll
    rw [← hl1] at hhi hlh hhlt
    rw [← hl0, ← hl1] at hcn
    rw [← hnv] at hev
    obtain ⟨S0, hS0⟩ : ∃ S, S = zsets N l0 := ⟨_, rfl⟩
    obtain ⟨S1, hS1⟩ : ∃ S, S = zsets N l1 := ⟨_, rfl⟩
    have hi0 := ih l0 (by omega) (by omega) (by omega)
    have hi1 := ih l1 (by omega) (by omega) (by omega)
    rw [← hS0] at hi0 hll hstep
    rw [← hS1] at hi1 hlh hstep hhlt
    obtain ⟨pw, hpw⟩ : ∃ p, p = 2 ^ nv := ⟨_, rfl⟩
    have hp24 : pw < 16777216 := by rw [hpw]; exact show 2 ^ nv < 2 ^ 24 from Nat.pow_lt_pow_right (by decide) hev
    have epw : IntKind.i64.wrap (2 ^ nv) = (pw : Int) := by
      have e : (2 : Int) ^ nv = (pw : Int) := by rw [hpw]; simp
      rw [e, IntKind.wrap_i64]
      omega
    rw [← hpw] at hstep
    have hrb0 : ((r : Int) == 0) = false := beq_eq_false_iff_ne.2 (by omega)
    have hrb1 : ((r : Int) == 1) = false := beq_eq_false_iff_ne.2 (by omega)
    have hri : (r : Int) - 2 = (i : Int) := by omega
    have hii : (i : Int) < (n : Int) := by omega
    have hi00 : (0 : Int) ≤ (i : Int) := by omega
    have hib : i ≤ 4096 := by omega
    have hx1 : RowAt w1 W.heap.size 24 [.slice (some ⟨bb, oo, none⟩) n cp, .int .i64 root] := by rw [hw1]; exact RowAt.made W #[.slice (some ⟨bb, oo, none⟩) n cp, .int .i64 root] 24
    have x0 := hx1.cell (i := 0) (by simp)
    have x1 := hx1.cell (i := 1) (by simp)
    simp only [List.getElem_cons_succ, List.getElem_cons_zero] at x0 x1
    have z0 := hk1.cell y0
    have z1 := hk1.cell y1
    have z2 := hk1.cell y2
    obtain ⟨w2, hw2⟩ : ∃ w2, w2 = w1.alloc (.cells #[.int .i64 nv, .int .i64 l0, .int .i64 l1] 63) := ⟨_, rfl⟩
    have hk2 : Kept w1 w2 := by rw [hw2]; exact (Kept.refl _).alloc _
    have hx2 : RowAt w2 w1.heap.size 63 [.int .i64 nv, .int .i64 l0, .int .i64 l1] := by rw [hw2]; exact RowAt.made w1 #[.int .i64 nv, .int .i64 l0, .int .i64 l1] 63
    have u0 := hx2.cell (i := 0) (by simp)
    have u1 := hx2.cell (i := 1) (by simp)
    have u2 := hx2.cell (i := 2) (by simp)
    simp only [List.getElem_cons_succ, List.getElem_cons_zero] at u0 u1 u2
    have t0 := hk2.cell x0
    have t1 := hk2.cell x1
    have HA : Hid (Calls Try.prog 69 #[.agg #[.slice (some ⟨bb, oo, none⟩) n cp, .int .i64 root], .int .i64 (l0 : Nat)] w2 fun e w' => (∃ v', e = .returned v' ∧ OwnInts w' w2.heap.size v' (natI S0)) ∧ Kept w2 w') := Lib.hid (hi0 w2 _ root (hz.kept (hk1.trans hk2)))
    have HB : Hid (∀ w, Kept w2 w → Calls Try.prog 69 #[.agg #[.slice (some ⟨bb, oo, none⟩) n cp, .int .i64 root], .int .i64 (l1 : Nat)] w fun e w' => (∃ v', e = .returned v' ∧ OwnInts w' w.heap.size v' (natI S1)) ∧ Kept w w') := Lib.hid fun w hk => hi1 w _ root (hz.kept ((hk1.trans hk2).trans hk))
    have HK2 := Lib.hid (hk1.trans hk2)
    have HT := Lib.hid (And.intro t0 (And.intro t1 (And.intro u0 u2)))
    have HW2 := Lib.hid hw2
    have HLT : Hid (w1.heap.size < w2.heap.size) := Lib.hid hx2.lt
    have HST := Lib.hid hstep
    have HHL := Lib.hid hhlt
    have HPW := Lib.hid epw
    have HLN : Hid (S0.length + S1.length ≤ 100000) := Lib.hid (by rw [hll, hlh]; omega)
    clear h0 h1 hlo hhi y0 y1 y2 hstep hnv hl0 hl1 hS0 hS1 hll hlh hcn hw1 hk1 hz hd ih hr hi0 hi1 hx1 hk2 hx2 hw2 hi hiN hn hhlt hpw epw hcz
    go_enter Try.func69, Try.ntmps69
    go_upto_region 1 with fail
    rw [← HW1.out]
    go_upto_region 6 with fail
    rw [← HW2.out]
    clear x0 x1 z0 z1 z2
    go_wp2_with fail
    refine HA.out.mono ?_
    rintro e w4 ⟨⟨v4, rfl, ho4⟩, hk4⟩
    have q0 := hk4.cell HT.out.1
    have q1 := hk4.cell HT.out.2.1
    have q2 := hk4.cell HT.out.2.2.2
    have HO4 := Lib.hid ho4
    have HK4 := Lib.hid hk4
    have HB4 := Lib.hid (HB.out w4 hk4)
    clear ho4 hk4 t0 t1 u0 u1 u2
    go_wp2_with fail
    refine HB4.out.mono ?_
    rintro e w5 ⟨⟨v5, rfl, ho5⟩, hk5⟩
    obtain ⟨b5, c5, rfl, hc5⟩ := own_shape ho5 (natI_len S1)
    obtain ⟨b4, c4, rfl, hc4⟩ := own_shape HO4.out (natI_len S0)
    have HO5 := Lib.hid ho5
    have HK5 := Lib.hid hk5
    have HO45 := Lib.hid (HO4.out.kept hk5)
    have HN5 : Hid (w5.cell? ⟨w1.heap.size, 0, none⟩ = some (.int .i64 nv)) := Lib.hid ((HK4.out.trans hk5).cell HT.out.2.2.1)
    obtain ⟨m0, hm0⟩ : ∃ m, m = S0.length := ⟨_, rfl⟩
    obtain ⟨m1, hm1⟩ : ∃ m, m = S1.length := ⟨_, rfl⟩
    have HM0 := Lib.hid hm0
    have HM1 := Lib.hid hm1
    rw [← hm1] at HO5 HLN hc5 ⊢
    rw [← hm0] at HO45 HLN hc4 ⊢
    have hmb := HLN.out
    have HABV : Hid (∀ k, (Value.slice b4 m0 c4).ownBlock = some k → w2.heap.size ≤ k ∧ k < w4.heap.size) := Lib.hid fun k hk => ⟨own_base HO45.out hk, by have h4 := HO4.out; rw [← hm0] at h4; exact h4.blt hk⟩
    clear ho5 hk5 hm0 hm1 q0 q1 q2
    go_wp2_with fail
    go_loopg [6, 8] m1 (fun kx s6 s8 wr => ∃ (k m c : Nat) (b : Option Addr), s6 = .slice b m c ∧ s8 = .int .i64 k ∧ k ≤ m1 ∧ m1 - k ≤ kx ∧ m = m0 + k ∧ m ≤ c ∧ Hid (OwnInts wr 0 (.slice b m c) (natI (S0 ++ (S1.take k).map (fun s => s ||| pw)))) ∧ Hid (SFrm (.slice b4 m0 c4) (.slice b m c) w5 wr))
    case atStart => exact ⟨0, m0, c4, b4, rfl, by first | rfl | go_num, Nat.zero_le _, by omega, rfl, hc4, Lib.hid (by simpa using HO45.out.mono (Nat.zero_le _)), Lib.hid (SFrm.refl _ _)⟩
    case round =>
      obtain ⟨k, m, c, b, rfl, rfl, hk, hkx, hmk, hmc, HO, HS⟩ := hrel
      obtain ⟨wi, rfl⟩ : ∃ wi : World, wi = wr := ⟨_, rfl⟩
      by_cases hlt : k < m1
      · have hlti : (k : Int) < (m1 : Int) := by omega
        have hk0 : (0 : Int) ≤ (k : Int) := by omega
        have hkL : k < S1.length := by rw [← HM1.out]; exact hlt
        obtain ⟨g5, cx, e5, _, hg5⟩ := own_some HO5.out ((natI_len S1).trans HM1.out.symm) (by omega)
        cases e5
        have r5 := own_at (HO5.out.mono (Nat.zero_le _)) hkL
        obtain ⟨s, hs⟩ : ∃ s, s = S1[k] := ⟨_, rfl⟩
        rw [← hs] at r5
        have hs24 : s < 16777216 := HHL.out s (by rw [hs]; exact List.getElem_mem _)
        have r6 := (HS.out.cell r5 (fun e => by have := (HABV.out _ e).2; omega))
        have r7 := (Kept.refl wi).drew.cell r6
        have n6 := HS.out.cell HN5.out (fun e => by have := (HABV.out _ e).1; have := HLT.out; omega)
        have n7 := (Kept.refl wi).drew.cell n6
        obtain ⟨x, hx⟩ : ∃ x, x = s ||| pw := ⟨_, rfl⟩
        have hor : bits .or .i64 (s : Int) (IntKind.i64.wrap (2 ^ nv)) = (x : Int) := by
          rw [HPW.out, or_i64 s pw (by omega) (by omega), hx]
        have hor2 : bits .or .i64 (s : Int) (pw : Int) = (x : Int) := by rw [or_i64 s pw (by omega) (by omega), hx]
        have epw := HPW.out
        have hnv64 : (nv : Int) < 64 := by omega
        have hnv0 : (0 : Int) ≤ (nv : Int) := by omega
        have HTK : Hid (natI (S0 ++ (S1.take (k + 1)).map (fun s => s ||| pw)) = natI (S0 ++ (S1.take k).map (fun s => s ||| pw)) ++ [(x : Int)]) := Lib.hid (by
          rw [List.take_succ_eq_append_getElem hkL, List.map_append, ← List.append_assoc, natI_app, ← hs, hx]; rfl)
        have HLX : Hid ((natI (S0 ++ (S1.take k).map (fun s => s ||| pw))).length = m) := Lib.hid (by rw [natI_len, List.length_append, List.length_map, List.length_take, ← HM0.out]; omega)
        have HMM := Lib.hid hmk
        have hmb2 : m ≤ 100000 := by omega
        have HOD : Hid (∀ O, OwnInts ((wi.alloc O).drew) 0 (.slice b m c) (natI (S0 ++ (S1.take k).map (fun s => s ||| pw)))) := Lib.hid fun O => HO.out.kept (((Kept.refl wi).alloc O).drew)
        have HCA : Hid (((wi.alloc (.cells #[.int .i64 (x : Nat)] 3)).drew).cell? ⟨wi.heap.size, 0, none⟩ = some (.int .i64 (x : Nat))) := Lib.hid (by simp)
        clear hs hx hkL hg5 hmk r5
        go_upto_region 11 with fail
        go_region_law (refine step_sf (by rfl) _ _ (by rfl) (.slice b m c) _ m HLX.out (by rfl) (HOD.out _) ⟨wi.heap.size, 0, none⟩ (x : Int) (by rfl) HCA.out (by omega) ?_; intro g7 c7 w7 hown7 hf7)
        all_goals
          obtain ⟨_, _, e8, hc8⟩ := own_shape hown7 (n := m + 1) (by rw [List.length_append, HLX.out]; rfl)
          cases e8
          have HO7 : Hid (OwnInts w7 0 (.slice (some ⟨g7, 0, none⟩) (m + 1) c7) (natI (S0 ++ (S1.take (k + 1)).map (fun s => s ||| pw)))) := Lib.hid (by rw [HTK.out]; exact hown7)
          have HS7 := Lib.hid (HS.out.trans ((SFrm.kept (((Kept.refl wi).alloc _).drew) _).trans hf7))
          clear hown7 hf7
          go_wp2_with fail
          go_roundg (m1 - (k + 1))
          case measure => omega
          case rel => exact ⟨k + 1, m + 1, c7, some ⟨g7, 0, none⟩, rfl, by go_num, by omega, Nat.le_refl _, by have := HMM.out; omega, hc8, HO7, HS7⟩
      · obtain rfl := hmk
        have hlti : ¬ (k : Int) < (m1 : Int) := by omega
        have HKE := Lib.hid ((HK2.out.trans HK4.out).trans HK5.out)
        have hab : ∀ j, (Value.slice b4 m0 c4).ownBlock = some j → W.heap.size ≤ j := fun j hj => by have := (HABV.out j hj).1; have := HK2.out.size; omega
        have HFIN : Hid (OwnInts wi W.heap.size (.slice b (m0 + k) c) (natI (zsets N r)) ∧ Kept W wi) := Lib.hid (by
          refine ⟨?_, HS.out.toKept HKE.out hab⟩
          have e : zsets N r = S0 ++ (S1.take k).map (fun s => s ||| pw) := by rw [HST.out, show k = S1.length by rw [← HM1.out]; omega, List.take_length]
          rw [e]
          exact own_up HO.out (HS.out.above HKE.out.size hab))
        clear hab
        go_wp2_with fail
        go_ret
        exact ⟨⟨_, rfl, HFIN.out.1⟩, HFIN.out.2⟩
set_option maxRecDepth 100000 in
theorem rlist_any (v : Value) (F : Nat → Bool) (W : World) (h : ZDia W v F) (hF : ZFrom 0 F) (hN : (zcan F).1.length ≤ 4096) (hc : zcard F ≤ 100000) :
    Calls Try.prog 34 #[v] W fun e w' => (∃ v' L, e = .returned v' ∧ IntsAt w' v' (natI L) ∧ ZSorted F L) ∧ Kept W w' := by
  have hp := zcan_put hF
  have hct : zct (zcan F).1 (zcan F).2 = zcard F := zct_card hp.good hp.ref hF hp.mem
  have hst := rsets_any hp.good hN (zcan F).2 hp.ref (by omega)
  have hz : ZeroAt W v ((zcan F).1.map zi) (zcan F).2 := h
  obtain ⟨N, hNN⟩ : ∃ N, N = (zcan F).1 := ⟨_, rfl⟩
  obtain ⟨r, hr⟩ : ∃ r, r = (zcan F).2 := ⟨_, rfl⟩
  rw [← hNN] at hz hp hct hst
  rw [← hr] at hz hp hct hst
  have hsl := zsets_len hp.good r hp.ref
  have hs24 : ∀ s ∈ zsets N r, s < 16777216 := fun s hs => zsets_lt hp.good hp.ref hs
  have hsz : ∀ L, ZSorted (zin (zsets N r)) L → ZSorted F L := fun L hL => zsorted_same hL fun s => by
    unfold zin
    rw [Bool.eq_iff_iff, decide_eq_true_iff, zsets_mem hp.good r hp.ref, hp.mem]
  obtain ⟨S, hS⟩ : ∃ S, S = zsets N r := ⟨_, rfl⟩
  rw [← hS] at hst hsl hs24 hsz
  obtain ⟨sv, rfl, hd⟩ := id hz
  obtain ⟨ad, cp, rfl⟩ := hd.shape
  obtain ⟨n, hn⟩ : ∃ n, n = (N.map zi).length := ⟨_, rfl⟩
  rw [← hn] at hz ⊢
  obtain ⟨w1, hw1⟩ : ∃ w1, w1 = W.alloc (.cells #[.slice ad n cp, .int .i64 r] 24) := ⟨_, rfl⟩
  have hk1 : Kept W w1 := by rw [hw1]; exact (Kept.refl _).alloc _
  have hx1 : RowAt w1 W.heap.size 24 [.slice ad n cp, .int .i64 r] := by rw [hw1]; exact RowAt.made W #[.slice ad n cp, .int .i64 r] 24
  have x0 := hx1.cell (i := 0) (by simp)
  have x1 := hx1.cell (i := 1) (by simp)
  simp only [List.getElem_cons_succ, List.getElem_cons_zero] at x0 x1
  have HST := Lib.hid (hst w1 _ r (hz.kept hk1))
  have HSO : Hid (∀ w u, IntsAt w u (natI S) → Calls Try.prog 28 #[u] w fun e w' => (∃ v' L, e = .returned v' ∧ IntsAt w' v' (natI L) ∧ ZSorted F L) ∧ Kept w w') := Lib.hid fun w u hu => by
    refine (rsort_any u S w hu hs24 (by omega)).mono ?_
    rintro e w' ⟨⟨v', L, rfl, h1, h2⟩, h3⟩
    exact ⟨⟨v', L, rfl, h1, hsz L h2⟩, h3⟩
  have HW1 := Lib.hid hw1
  have HK1 := Lib.hid hk1
  clear hst hsl hs24 hsz hd hz hp hct h hN hc hF hNN hr hS hn hw1 hk1 hx1
  obtain ⟨P, hP⟩ : ∃ P : Ending → World → Prop, P = fun e w' => (∃ v' L, e = .returned v' ∧ IntsAt w' v' (natI L) ∧ ZSorted F L) ∧ Kept W w' := ⟨_, rfl⟩
  rw [← hP]
  have HP := Lib.hid hP
  clear hP
  go_enter Try.func34, Try.ntmps34
  go_upto_region 1 with fail
  rw [← HW1.out]
  go_wp2_with fail
  refine HST.out.mono ?_
  rintro e w2 ⟨⟨v2, rfl, ho2⟩, hk2⟩
  have HS2 := Lib.hid (HSO.out w2 v2 ho2.ints)
  have HK2 := Lib.hid (HK1.out.trans hk2)
  clear ho2 hk2
  go_wp2_with fail
  refine HS2.out.mono ?_
  rintro e w3 ⟨⟨v3, L, rfl, hi3, hs3⟩, hk3⟩
  have HFIN : Hid (P (.returned v3) w3) := Lib.hid (by rw [HP.out]; exact ⟨⟨v3, L, rfl, hi3, hs3⟩, HK2.out.trans hk3⟩)
  clear hi3 hs3 hk3
  go_wp2_with fail
  exact HFIN.out
end Go.Proofs.Ytiplibgnfcdlkaa
