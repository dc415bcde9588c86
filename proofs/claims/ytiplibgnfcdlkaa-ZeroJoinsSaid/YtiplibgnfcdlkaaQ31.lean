import Derived.Test.YtiplibgnfcdlkaaQ29
import Derived.Test.YtiplibgnfcdlkaaQ19
/-
  Walks: zero.mask, zero.Has.
-/
namespace Go.Proofs.Ytiplibgnfcdlkaa
open Go.RowKit

def zok (n : Int) : Bool := decide (0 ≤ n ∧ n < 16777216)
theorem zmask_any (n : Int) (W : World) : Calls Try.prog 43 #[.int .i64 n] W fun e w' => e = .returned (.bool (zok n)) ∧ w' = W := by
  unfold zok
  by_cases h1 : 0 ≤ n
  · by_cases h2 : n < 16777216
    · rw [decide_eq_true ⟨h1, h2⟩]
      go_enter Try.func43, Try.ntmps43
      go_wp2_with fail
      go_ret
      exact ⟨rfl, rfl⟩
    · rw [decide_eq_false (fun h => h2 h.2)]
      go_enter Try.func43, Try.ntmps43
      go_wp2_with fail
      go_ret
      exact ⟨rfl, rfl⟩
  · rw [decide_eq_false (fun h => h1 h.1)]
    go_enter Try.func43, Try.ntmps43
    go_wp2_with fail
    go_ret
    exact ⟨rfl, rfl⟩
theorem zmeet_zero {N : List ZNode} {u y : Nat} {M : List ZNode} {F : Nat → Bool} {k : Nat} (h : ZPut N u (fun s => F s && (s == k)) M y) : ((y : Int) == 0) = !F k := by
  cases hf : F k with
  | true =>
    have : y ≠ 0 := fun e => by
      have h1 := h.mem k
      rw [e, zm_zero, hf] at h1
      simp at h1
    simp; omega
  | false =>
    have : y = 0 := Classical.byContradiction fun e => by
      obtain ⟨s, hs⟩ := zm_some h.good y h.ref e
      rw [h.mem, Bool.and_eq_true, beq_iff_eq] at hs
      rw [hs.2, hf] at hs
      simp at hs
    simp [this]
set_option maxRecDepth 100000 in
set_option maxHeartbeats 4000000 in
theorem zHas_any (v : Value) (c : Nat) (F : Nat → Bool) (k : Int) (W : World) (h : ZIn W v c F) :
    Calls Try.prog 26 #[v, .int .i64 k] W fun e w' => e = .returned (.tuple #[.bool (decide (c = 0) && zok k && F k.toNat), errV (if c = 0 then (if zok k then 0 else 3) else c)]) ∧ Kept W w' := by
  obtain ⟨a, n, cp, r, rfl⟩ := h.shape
  obtain ⟨w1, hw1⟩ : ∃ w1, w1 = W.alloc (.cells #[.slice a n cp, .int .i64 r] 24) := ⟨_, rfl⟩
  have hk1 : Kept W w1 := by rw [hw1]; exact (Kept.refl _).alloc _
  have HK1 := Lib.hid hk1
  have HW1 := Lib.hid hw1
  have hx : RowAt w1 W.heap.size 24 [.slice a n cp, .int .i64 r] := by rw [hw1]; exact RowAt.made W #[.slice a n cp, .int .i64 r] 24
  have x0 := hx.cell (i := 0) (by simp)
  have x1 := hx.cell (i := 1) (by simp)
  simp only [List.getElem_cons_succ, List.getElem_cons_zero] at x0 x1
  by_cases hc : c = 0
  · subst hc
    have HOP : Hid (Calls Try.prog 53 #[.slice (some ⟨w1.heap.size, 0, none⟩) 1 1] (w1.alloc (.cells #[.slice a n cp, .int .i64 r] 24)) _) := Lib.hid (open1_ok h w1 _ hk1 rfl)
    clear h hw1 hk1 hx
    obtain ⟨b, hb⟩ : ∃ b, b = zok k := ⟨_, rfl⟩
    have HMS : Hid (∀ w, Calls Try.prog 43 #[.int .i64 k] w fun e w' => e = .returned (.bool b) ∧ w = w') := Lib.hid fun w => by rw [hb]; exact (zmask_any k w).mono fun _ _ ⟨h1, h2⟩ => ⟨h1, h2.symm⟩
    rw [if_pos rfl, ← hb, decide_eq_true rfl, Bool.true_and]
    cases b with
    | false =>
      rw [if_neg (by decide), Bool.false_and]
      clear hb
      go_enter Try.func26, Try.ntmps26
      go_upto_region 1 with fail
      rw [← HW1.out]
      go_wp2_with fail
      refine HOP.out.mono ?_
      rintro e w3 ⟨t, N, gr, cr, x, rfl, hcr, h3⟩
      have HK3 := Lib.hid (HK1.out.trans (((Kept.refl _).alloc _).trans h3.kept))
      clear h3 x0 x1
      go_wp2_with fail
      refine (HMS.out _).mono ?_
      rintro e w4 ⟨rfl, rfl⟩
      go_wp2_with fail
      refine bodyPost_ret (v := .tuple #[.bool false, .iface 56 (.int .i64 3)]) (by simp [results, Try.results26, go_sem]) rfl ?_
      exact ⟨rfl, HK3.out⟩
    | true =>
      rw [if_pos rfl, Bool.true_and, errV_zero]
      obtain ⟨j, rfl⟩ : ∃ j : Nat, k = (j : Int) := ⟨k.toNat, by have := of_decide_eq_true hb.symm; omega⟩
      have HJ : Hid (j < 16777216) := Lib.hid (by have := of_decide_eq_true hb.symm; omega)
      rw [Int.toNat_natCast]
      clear hb
      go_enter Try.func26, Try.ntmps26
      go_upto_region 1 with fail
      rw [← HW1.out]
      go_wp2_with fail
      refine HOP.out.mono ?_
      rintro e w3 ⟨t, N, gr, cr, x, rfl, hcr, h3⟩
      have y0 := h3.cell
      have HK3 := Lib.hid (HK1.out.trans (((Kept.refl _).alloc _).trans h3.kept))
      have HOW : Hid (∀ k, t.own w3 k → W.heap.size ≤ k) := Lib.hid fun k hk => by have h1 := h3.own k hk; simp only [World.size_alloc] at h1; have := HK1.out.size; omega
      have HBX : Hid (Box t w3.drew gr 0 (.int .i64 (x : Nat))) := Lib.hid ⟨((Kept.refl _).drew).cell y0, fun ho => h3.off (ZT.own_same (show w3.drew.heap[t.tb]? = w3.heap[t.tb]? from rfl) ho)⟩
      have HST : Hid (Calls Try.prog 45 #[t.val, .int .i64 (j : Nat)] w3.drew (GenPost t w3.drew fun N' z => (ZPut N 0 (fun s => s == j) N' z ∧ N'.length ≤ N.length + 24))) := Lib.hid (zset_any t N j w3.drew (h3.tbl.kept (Kept.refl _).drew) HJ.out (by have := h3.len; omega))
      have HREF : Hid (x ≤ 1 + N.length ∧ zm N x = F ∧ ZGood N ∧ N.length ≤ 8192) := Lib.hid ⟨h3.ref, h3.fam, h3.tbl.good, h3.len⟩
      clear h3 x0 x1
      go_upto_region 4 with fail
      go_upto_region 6 with ((refine (HMS.out _).mono ?_); rintro e w4 ⟨rfl, rfl⟩)
      go_region_with (first
        | (go_at_call 45; (with_reducible refine HST.out.mono ?_); rintro e w4 ⟨z, N', rfl, ⟨hp, hl⟩, h4, hf⟩; have HOD : Hid (∀ k, t.own w3.drew k → W.heap.size ≤ k) := Lib.hid fun k hk => HOW.out k (ZT.own_same (show w3.drew.heap[t.tb]? = w3.heap[t.tb]? from rfl) hk); have HK4 := Lib.hid (hf.toKept HK3.out.drew HOD.out); have HO4 := Lib.hid (hf.above HK3.out.size HOD.out); have y4 := (HBX.out.frm hf).1; have HMT : Hid (Calls Try.prog 66 #[t.val, .int .i64 (x : Nat), .int .i64 (z : Nat)] w4 (GenPost t w4 fun N'' y => ∃ u, ZPut N' u (fun s => F s && (s == j)) N'' y)) := Lib.hid (by
              obtain ⟨h1, h2, h5, h6⟩ := HREF.out
              refine (zmeet_any 24 t N' x z w4 h4 (by have := hp.le; omega) hp.ref (by omega) (by omega)).mono ?_
              rintro e w' ⟨y, N'', rfl, ⟨h7, _⟩, h8, h9⟩
              refine ⟨y, N'', rfl, ⟨_, h7.ext, h7.good, h7.ref, h7.ev, fun s => ?_⟩, h8, h9⟩
              rw [h7.mem, hp.mem, hp.zm h5 h1, h2]); clear hp hl h4 hf)
        | (go_at_call 66; (with_reducible refine HMT.out.mono ?_); rintro e w5 ⟨y, N'', rfl, ⟨u, hp⟩, h4, hf⟩; have HK5 := Lib.hid (hf.toKept HK4.out HO4.out); have hz := zmeet_zero hp; have hz2 : ((y : Int) != 0) = F j := (by rw [bne, hz, Bool.not_not]); clear hp h4 hf))
      all_goals
        go_wp2_with fail
        refine bodyPost_ret (v := .tuple #[.bool (F j), .nilIface]) (by simp [results, Try.results26, go_sem]) rfl ?_
        exact ⟨rfl, HK5.out⟩
  · have HOP : Hid (Calls Try.prog 53 #[.slice (some ⟨w1.heap.size, 0, none⟩) 1 1] (w1.alloc (.cells #[.slice a n cp, .int .i64 r] 24)) _) := Lib.hid (open1_err h hc w1 _ hk1 rfl)
    rw [if_neg hc, errV_pos hc, decide_eq_false hc, Bool.false_and, Bool.false_and]
    clear h hw1 hk1 hx hc
    go_enter Try.func26, Try.ntmps26
    go_upto_region 1 with fail
    rw [← HW1.out]
    go_wp2_with fail
    refine HOP.out.mono ?_
    rintro e w3 ⟨rfl, hk3⟩
    have HK3 := Lib.hid (HK1.out.trans (((Kept.refl _).alloc _).trans hk3))
    clear hk3
    go_wp2_with fail
    refine bodyPost_ret (v := .tuple #[.bool false, .iface 56 (.int .i64 (c : Nat))]) (by simp [results, Try.results26, go_sem]) rfl ?_
    exact ⟨rfl, HK3.out⟩
end Go.Proofs.Ytiplibgnfcdlkaa

/-
  Walk: zero.Make.
-/
namespace Go.Proofs.Ytiplibgnfcdlkaa
open Go.RowKit

/-- The error of a list of sets. -/
def zlc (xs : List Int) : Nat := if 1024 < xs.length then 4 else if xs.all zok then 0 else 3
/-- The family of a list. -/
def zfl (xs : List Int) (s : Nat) : Bool := decide ((s : Int) ∈ xs)
theorem zfl_step {xs : List Int} {k j : Nat} (hk : k < xs.length) (hj : xs[k] = (j : Int)) (s : Nat) : zfl (xs.take (k + 1)) s = or (zfl (xs.take k) s) (s == j) := by
  unfold zfl
  have e : ((s : Int) = (j : Int)) ↔ s = j := by omega
  rw [List.take_succ_eq_append_getElem hk, hj, Bool.eq_iff_iff]
  simp [e]
theorem zfl_from {xs : List Int} (h : xs.all zok = true) : ZFrom 0 (zfl xs) := fun s hs j hj => by
  refine ⟨Nat.zero_le _, ?_⟩
  have h1 := List.all_eq_true.1 h _ (of_decide_eq_true hs)
  have h2 := of_decide_eq_true h1
  apply Classical.byContradiction
  intro hn
  have := Nat.ge_two_pow_of_testBit hj
  have h3 : 2 ^ 24 ≤ 2 ^ j := Nat.pow_le_pow_right (by decide) (by omega)
  omega
theorem zlc_bad {xs : List Int} (hl : xs.length ≤ 1024) {k : Nat} (hk : k < xs.length) (h : zok xs[k] = false) : zlc xs = 3 := by
  unfold zlc
  rw [if_neg (by omega), if_neg]
  intro ha
  have := List.all_eq_true.1 ha _ (List.getElem_mem hk)
  rw [h] at this
  cases this
theorem take_ok {xs : List Int} {k : Nat} (hk : k < xs.length) (h : (xs.take k).all zok = true) (h2 : zok xs[k] = true) : (xs.take (k + 1)).all zok = true := by
  rw [List.take_succ_eq_append_getElem hk, List.all_append, h]
  simp [h2]
set_option maxRecDepth 100000 in
set_option maxHeartbeats 4000000 in
theorem zMake_any (v : Value) (xs : List Int) (W : World) (h : IntsAt W v xs) (hm : zlc xs = 0 → (zcan (zfl xs)).1.length ≤ 4096) :
    Calls Try.prog 12 #[v] W fun e w' => ZOut w' e (zlc xs) (zfl xs) ∧ Kept W w' := by
  obtain ⟨a, cp, rfl, ⟨hc, hcn⟩, hl2, hx⟩ := h
  obtain ⟨n, hn⟩ : ∃ n, n = xs.length := ⟨_, rfl⟩
  obtain ⟨w1, hw1⟩ : ∃ w1, w1 = W.alloc (.cells #[.slice none 0 0, .int .i64 0] 24) := ⟨_, rfl⟩
  have hk1 : Kept W w1 := by rw [hw1]; exact (Kept.refl _).alloc _
  have hr1 : ResCell w1 W.heap.size := by rw [hw1]; exact ResCell.made W
  have HK1 := Lib.hid hk1
  have HW1 := Lib.hid hw1
  have HR1 := Lib.hid hr1
  have HN := Lib.hid hn
  have HX := Lib.hid hx
  have HM := Lib.hid hm
  have HLT : Hid (W.heap.size < w1.heap.size) := Lib.hid hr1.row.lt
  rw [← hn] at hc hl2 ⊢
  unfold ZOut
  obtain ⟨q, hq⟩ : ∃ q, q = zlc xs := ⟨_, rfl⟩
  rw [← hq]
  by_cases hbig : 1024 < n
  · have HE : Hid (q = 4) := Lib.hid (by rw [hq]; unfold zlc; rw [if_pos (by omega)])
    rw [HE.out, if_neg (by decide)]
    have hbi : (1024 : Int) < (n : Int) := by omega
    obtain ⟨c0, c1, f0, f1⟩ := HR1.out.cells
    clear hx hm hk1 hr1 hw1 hn hq
    go_enter Try.func12, Try.ntmps12
    go_upto_region 1 with fail
    rw [← HW1.out]
    go_wp2_with fail
    obtain ⟨y0, y1⟩ := HR1.out.after (.slice none 0 0) (.int .i64 0)
    refine bodyPost_ret (v := .tuple #[.agg #[.slice none 0 0, .int .i64 0], .iface 56 (.int .i64 4)]) (by simp [results, Try.results12, go_sem, y0, y1]) rfl ⟨⟨_, rfl, zdia_no _⟩, ?_⟩
    exact res_two HK1.out (by omega) _ _
  have hbi : ¬ (1024 : Int) < (n : Int) := by omega
  have hn4 : n ≤ 1024 := by omega
  have HQ := Lib.hid hq
  obtain ⟨FF, hff⟩ : ∃ FF, FF = (if q = 0 then zfl xs else zno) := ⟨_, rfl⟩
  rw [← hff]
  have HFF := Lib.hid hff
  clear hx hm hk1 hr1 hw1 hn hq hbig hff
  go_enter Try.func12, Try.ntmps12
  go_upto_region 1 with fail
  rw [← HW1.out]
  go_wp2_with fail
  refine (znew_any _).mono ?_
  rintro e w2 ⟨t, rfl, ht2, hk2, ho2⟩
  have HT2 := Lib.hid ht2
  have HK2 := Lib.hid hk2
  have HO2 := Lib.hid ho2
  clear ht2 hk2 ho2
  go_wp2_with fail
  go_loopg [5, 16] n (fun kx s5 s16 wr => ∃ (k r : Nat) (N : List ZNode), s5 = .int .i64 r ∧ s16 = .int .i64 k ∧ k ≤ n ∧ n - k ≤ kx ∧ Hid (TblAt wr t N) ∧ Hid (r ≤ 1 + N.length ∧ zm N r = zfl (xs.take k)) ∧ Hid (Kept w1 wr) ∧ Hid (∀ b, t.own wr b → w1.heap.size ≤ b) ∧ Hid (N.length ≤ k * 16777240) ∧ Hid ((xs.take k).all zok = true))
  case atStart => exact ⟨0, 0, [], by first | rfl | go_num, by first | rfl | go_num, Nat.zero_le _, by omega, HT2, Lib.hid ⟨by simp, by funext s; rw [zm_zero]; simp [zfl]⟩, HK2, HO2, Lib.hid (by simp), Lib.hid (by simp)⟩
  case round =>
    obtain ⟨k, r, N, rfl, rfl, hk, hkx, HT, HRF, HKr, HOW, HNL, HOK⟩ := hrel
    obtain ⟨wi, rfl⟩ : ∃ wi : World, wi = wr := ⟨_, rfl⟩
    by_cases hlt : k < n
    · have hlti : (k : Int) < (n : Int) := by omega
      have hk0 : (0 : Int) ≤ (k : Int) := by omega
      have hkx2 : k < xs.length := by rw [← HN.out]; exact hlt
      obtain ⟨b, o, rfl, p0⟩ := HX.out k hkx2
      have q0 := (HK1.out.trans HKr.out).cell p0
      obtain ⟨x, hx⟩ : ∃ x, x = xs[k] := ⟨_, rfl⟩
      rw [← hx] at q0
      have HXE : Hid (∀ h : k < xs.length, xs[k] = x) := Lib.hid fun _ => hx.symm
      obtain ⟨bo, hbo⟩ : ∃ b, b = zok x := ⟨_, rfl⟩
      have HMS : Hid (∀ w, Calls Try.prog 43 #[.int .i64 x] w fun e w' => e = .returned (.bool bo) ∧ w = w') := Lib.hid fun w => by rw [hbo]; exact (zmask_any x w).mono fun _ _ ⟨h1, h2⟩ => ⟨h1, h2.symm⟩
      have HBO := Lib.hid hbo
      clear p0 hx hbo
      cases bo with
      | false =>
        have HE : Hid (q = 3) := Lib.hid (by rw [HQ.out]; exact zlc_bad (by rw [← HN.out]; omega) hkx2 (by rw [HXE.out hkx2]; exact HBO.out.symm))
        have HFIN : Hid (∀ w v, ZDia w v zno → ∃ u, Ending.returned (.tuple #[v, .iface 56 (.int .i64 3)]) = .returned (.tuple #[u, errV q]) ∧ ZDia w u FF) := Lib.hid (fun w v h => by rw [HFF.out, HE.out, if_neg (by decide)]; exact ⟨v, rfl, h⟩)
        have HR2 := Lib.hid (HR1.out.kept HKr.out)
        obtain ⟨c0, c1, f0, f1⟩ := HR2.out.cells
        clear hkx2
        go_wp2_with ((refine (HMS.out _).mono ?_); rintro e w4 ⟨rfl, rfl⟩)
        obtain ⟨y0, y1⟩ := HR2.out.after (.slice none 0 0) (.int .i64 0)
        refine bodyPost_ret (v := .tuple #[.agg #[.slice none 0 0, .int .i64 0], .iface 56 (.int .i64 3)]) (by simp [results, Try.results12, go_sem, y0, y1]) rfl ?_
        exact ⟨HFIN.out _ _ (zdia_no _), res_two (HK1.out.trans HKr.out) (by omega) _ _⟩
      | true =>
        obtain ⟨j, rfl⟩ : ∃ j : Nat, x = (j : Int) := ⟨x.toNat, by have := of_decide_eq_true HBO.out.symm; omega⟩
        have HST : Hid (Calls Try.prog 45 #[t.val, .int .i64 (j : Nat)] wi (GenPost t wi fun N' z => ZPut N 0 (fun x => x == j) N' z ∧ N'.length ≤ N.length + 24)) := Lib.hid (zset_any t N j wi HT.out (by have := of_decide_eq_true HBO.out.symm; omega) (by have := HNL.out; omega))
        have HK2X := Lib.hid hkx2
        clear hkx2
        go_upto_region 9 with ((refine (HMS.out _).mono ?_); rintro e w4 ⟨rfl, rfl⟩)
        go_wp2_with fail
        refine HST.out.mono ?_
        rintro e w4 ⟨z, N1, rfl, ⟨hp, hl⟩, h4, hf⟩
        have HUN : Hid (Calls Try.prog 44 #[t.val, .int .i64 (r : Nat), .int .i64 (z : Nat)] w4 (GenPost t w4 fun N' y => (y ≤ 1 + N'.length ∧ zm N' y = zfl (xs.take (k + 1))) ∧ N'.length ≤ (k + 1) * 16777240)) := Lib.hid (by
          obtain ⟨h1, h2⟩ := HRF.out
          have hnl := HNL.out
          refine (zunion_any 24 t N1 r z w4 h4 (by have := hp.le; omega) hp.ref (by omega) (by omega)).mono ?_
          rintro e w' ⟨y, N', rfl, ⟨h7, h10⟩, h8, h9⟩
          refine ⟨y, N', rfl, ⟨⟨h7.ref, funext fun s => ?_⟩, by omega⟩, h8, h9⟩
          rw [h7.mem, hp.mem, hp.zm HT.out.good h1, h2, zfl_step HK2X.out (HXE.out HK2X.out)])
        have HK4 := Lib.hid (hf.toKept HKr.out HOW.out)
        have HO4 := Lib.hid (hf.above HKr.out.size HOW.out)
        clear hp hl h4 hf
        go_wp2_with fail
        refine HUN.out.mono ?_
        rintro e w5 ⟨y, N2, rfl, ⟨hrf, hl⟩, h5, hf⟩
        have HRF2 := Lib.hid hrf
        have HL2 := Lib.hid hl
        have HT5 := Lib.hid h5
        have HK5 := Lib.hid (hf.toKept HK4.out HO4.out)
        have HO5 := Lib.hid (hf.above HK4.out.size HO4.out)
        clear hrf hl h5 hf
        go_wp2_with fail
        go_roundg (n - (k + 1))
        case measure => omega
        case rel => exact ⟨k + 1, y, N2, rfl, by first | rfl | go_num, by omega, Nat.le_refl _, HT5, HRF2, HK5, HO5, HL2, Lib.hid (take_ok HK2X.out HOK.out (by rw [HXE.out HK2X.out]; exact HBO.out.symm))⟩
    · have hlti : ¬ (k : Int) < (n : Int) := by omega
      obtain rfl : k = n := by omega
      have HTK : Hid (xs.take k = xs) := Lib.hid (by rw [HN.out, List.take_length])
      have HE : Hid (q = 0) := Lib.hid (by
        have := HOK.out
        rw [HTK.out] at this
        rw [HQ.out]; unfold zlc; rw [if_neg (by have := HN.out; omega), if_pos this])
      have HFIN : Hid (∀ w v, ZDia w v (zfl xs) → ∃ u, Ending.returned (.tuple #[v, .nilIface]) = .returned (.tuple #[u, errV q]) ∧ ZDia w u FF) := Lib.hid (fun w v h => by rw [HFF.out, HE.out, if_pos rfl]; exact ⟨v, rfl, h⟩)
      have HRS : Hid (Calls Try.prog 46 #[t.val, .int .i64 (r : Nat)] wi fun e w' => (∃ a n c x, e = .returned (.tuple #[.agg #[.slice a n c, .int .i64 x], .nilIface]) ∧ ZDia w' (.agg #[.slice a n c, .int .i64 x]) (zfl xs)) ∧ Kept wi w') := Lib.hid (zresD_any t N r (zfl xs) wi HT.out HRF.out.1 (fun s => by rw [HRF.out.2, HTK.out]) (HM.out (by rw [← HQ.out, HE.out])))
      go_wp2_with fail
      refine HRS.out.mono ?_
      rintro e w5 ⟨⟨ra, rn, rc, rx, rfl, hd⟩, hk5⟩
      have HK5 := Lib.hid (HKr.out.trans hk5)
      have HR5 := Lib.hid (HR1.out.kept HK5.out)
      have HD5 := Lib.hid hd
      obtain ⟨c0, c1, f0, f1⟩ := HR5.out.cells
      clear hk5 hd
      go_wp2_with fail
      obtain ⟨y0, y1⟩ := HR5.out.after (.slice ra rn rc) (.int .i64 rx)
      refine bodyPost_ret (v := .tuple #[.agg #[.slice ra rn rc, .int .i64 rx], .nilIface]) (by simp [results, Try.results12, go_sem, y0, y1]) rfl ?_
      exact ⟨HFIN.out _ _ (HD5.out.past HR5.out.raw), res_two (HK1.out.trans HK5.out) (by omega) _ _⟩
end Go.Proofs.Ytiplibgnfcdlkaa

/-
  Plain: the family of the chapter's example, its diagram, its minimal sets.
-/
namespace Go.Proofs.Ytiplibgnfcdlkaa

def exN : List ZNode := [⟨1, 0, 1⟩, ⟨1, 1, 1⟩, ⟨0, 2, 3⟩]
theorem exN_good : ZGood exN := by
  have h : inFst (exN.map zi) (exN.map zi).length = 0 := by decide
  have := (inFst_good h).1
  rwa [zo_zi] at this
theorem exN_zm : zm exN 4 = zfl [1, 2, 3] := by
  funext s
  have h1 : s ∈ zsets exN 4 ↔ zm exN 4 s = true := zsets_mem exN_good 4 (by decide) s
  have h2 : zsets exN 4 = [2, 1, 3] := by decide
  rw [h2] at h1
  rw [Bool.eq_iff_iff, ← h1]
  unfold zfl
  rw [decide_eq_true_iff]
  simp
  omega
theorem exF_from : ZFrom 0 (zfl [1, 2, 3]) := zfl_from (by decide)
theorem exF_can : zcan (zfl [1, 2, 3]) = (exN, 4) := by
  rw [zcan_eq, ← exN_zm]
  refine (znum_same exN_good (by decide)).1 ?_
  decide
theorem zsub_and {u s : Nat} (h : zsub u s) : u &&& s = u := Nat.eq_of_testBit_eq fun j => by
  rw [Nat.testBit_and]
  cases hu : u.testBit j with
  | false => rfl
  | true => rw [h j hu]; rfl
theorem and_zsub {u s : Nat} (h : u &&& s = u) : zsub u s := fun j hj => by
  rw [← h, Nat.testBit_and] at hj
  exact (Bool.and_eq_true_iff.1 hj).2
theorem exM_sorted : ZSorted (zmin (zfl [1, 2, 3])) [1, 2] := by
  have hm : ∀ u, zfl [1, 2, 3] u = true ↔ u = 1 ∨ u = 2 ∨ u = 3 := fun u => by
    unfold zfl
    rw [decide_eq_true_iff]
    simp
    omega
  refine ⟨by decide +kernel, fun s => ?_⟩
  rw [zmin_iff, hm]
  constructor
  · intro h
    rw [List.mem_cons, List.mem_singleton] at h
    rcases h with rfl | rfl
    · refine ⟨.inl rfl, fun u hu hs => ?_⟩
      rcases (hm u).1 hu with rfl | rfl | rfl
      · rfl
      · exact absurd (zsub_and hs) (by decide)
      · exact absurd (zsub_and hs) (by decide)
    · refine ⟨.inr (.inl rfl), fun u hu hs => ?_⟩
      rcases (hm u).1 hu with rfl | rfl | rfl
      · exact absurd (zsub_and hs) (by decide)
      · rfl
      · exact absurd (zsub_and hs) (by decide)
  · rintro ⟨rfl | rfl | rfl, h2⟩
    · simp
    · simp
    · exact absurd (h2 1 ((hm 1).2 (.inl rfl)) (and_zsub (by decide))) (by decide)
theorem zmin_from {F : Nat → Bool} {v : Nat} (h : ZFrom v F) : ZFrom v (zmin F) := fun s hs => h s (zmin_iff.1 hs).1
theorem exM_card : zcard (zmin (zfl [1, 2, 3])) = 2 :=
  (zcard_list (l := [1, 2]) (zmin_from exF_from) (by decide) (fun s => exM_sorted.mem s)).symm
end Go.Proofs.Ytiplibgnfcdlkaa
