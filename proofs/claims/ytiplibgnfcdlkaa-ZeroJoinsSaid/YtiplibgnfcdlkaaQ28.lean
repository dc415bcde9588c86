import Derived.Test.YtiplibgnfcdlkaaQ26
import Derived.Test.YtiplibgnfcdlkaaQ27
import Derived.Test.YtiplibgnfcdlkaaQ03
/-
  Walks: the laws' large, valid, none.
-/
namespace Go.Proofs.Ytiplibgnfcdlkaa
open Go.RowKit

theorem ZIn.parts {w : World} {v : Value} {c : Nat} {F : Nat → Bool} (h : ZIn w v c F) : ∃ L r, ZeroAt w v L r ∧ zchk L r = c ∧ (c = 0 → ∃ N : List ZNode, ∃ q : Nat, ZGood N ∧ L = N.map zi ∧ r = (q : Int) ∧ q ≤ 1 + N.length ∧ N.length ≤ 4096 ∧ zct N q = zcard F) := by
  obtain ⟨L, r, h1, h2, h3⟩ := h
  refine ⟨L, r, h1, h2, fun hc => ?_⟩
  obtain ⟨h4, h5, h6, h7⟩ := h3 hc
  have hp := zcan_put h4
  exact ⟨_, _, hp.good, h5, h6, hp.ref, h7, zct_card hp.good hp.ref h4 hp.mem⟩
/-- A truth value is returned, of which Q holds. -/
def RetB (Q : Bool → Prop) (W : World) (e : Ending) (w' : World) : Prop := (∃ b, e = .returned (.bool b) ∧ Q b) ∧ Kept W w'
set_option maxRecDepth 100000 in
set_option maxHeartbeats 4000000 in
theorem large_any (v : Value) (c : Nat) (F : Nat → Bool) (W : World) (h : ZIn W v c F) :
    Calls Try.prog 11 #[v] W (RetB (fun b => b = false → c = 0 → zcard F ≤ 60) W) := by
  obtain ⟨L, r, hz, hck, hok⟩ := h.parts
  have hz0 := hz
  obtain ⟨s, rfl, hL⟩ := hz
  obtain ⟨a, cp, rfl⟩ := hL.shape
  obtain ⟨n, hn⟩ : ∃ n, n = L.length := ⟨_, rfl⟩
  have hle := hL.le
  rw [← hn] at hz0 hle ⊢
  obtain ⟨w1, hw1⟩ : ∃ w1, w1 = W.alloc (.cells #[.slice a n cp, .int .i64 r] 24) := ⟨_, rfl⟩
  have hk1 : Kept W w1 := by rw [hw1]; exact (Kept.refl _).alloc _
  have hx1 : RowAt w1 W.heap.size 24 [.slice a n cp, .int .i64 r] := by rw [hw1]; exact RowAt.made W #[.slice a n cp, .int .i64 r] 24
  have z0 := hx1.cell (i := 0) (by simp)
  have z1 := hx1.cell (i := 1) (by simp)
  simp only [List.getElem_cons_succ, List.getElem_cons_zero] at z0 z1
  have HZ := Lib.hid hz0
  have HOK := Lib.hid hok
  have HW1 := Lib.hid hw1
  have HK1 := Lib.hid hk1
  have HN := Lib.hid hn
  have HCH : Hid (Calls Try.prog 15 #[.agg #[.slice a n cp, .int .i64 r]] w1 fun e w' => e = .returned (.int .i64 (c : Nat)) ∧ Kept w1 w') := Lib.hid (by rw [← hck]; exact zrchk_any _ L r w1 (hz0.kept hk1))
  have HCB : Hid (n ≤ 200 → 4096 < n → False) := Lib.hid (by omega)
  clear h hck hok hz0 hw1 hk1 hx1 hL hn
  by_cases hb : 200 < n
  · have hbi : (200 : Int) < (n : Int) := by omega
    by_cases hb2 : n ≤ 4096
    · have hb2i : (n : Int) ≤ 4096 := by omega
      clear hb hb2
      go_enter Try.func11, Try.ntmps11
      go_upto_region 1 with fail
      rw [← HW1.out]
      go_wp2_with fail
      go_ret
      exact ⟨⟨true, rfl, fun h => by cases h⟩, HK1.out⟩
    · have hb2i : ¬ (n : Int) ≤ 4096 := by omega
      have HNO : Hid (c = 0 → False) := Lib.hid (fun hc => by
        obtain ⟨N, q, _, h5, _, _, h7, _⟩ := HOK.out hc
        have := congrArg List.length h5
        rw [List.length_map, ← HN.out] at this
        omega)
      clear hb hb2
      go_enter Try.func11, Try.ntmps11
      go_upto_region 1 with fail
      rw [← HW1.out]
      go_wp2_with fail
      go_ret
      exact ⟨⟨false, rfl, fun _ hc => absurd hc HNO.out⟩, HK1.out⟩
  · have hbi : ¬ (200 : Int) < (n : Int) := by omega
    by_cases hc : c = 0
    · subst hc
      obtain ⟨N, q, hg, h5, rfl, hq, h7, hct⟩ := HOK.out rfl
      have HCO : Hid (∀ w, Kept w1 w → Calls Try.prog 29 #[.agg #[.slice a n cp, .int .i64 (q : Nat)]] w fun e w' => e = .returned (.int .i64 (zcard F : Nat)) ∧ Kept w w') := Lib.hid (fun w hk => by
        rw [← hct]
        refine zrcount_any hg _ q w ?_ h7 hq
        rw [← h5]; exact HZ.out.kept (HK1.out.trans hk))
      obtain ⟨m, hm⟩ : ∃ m, m = zcard F := ⟨_, rfl⟩
      rw [← hm] at HCO ⊢
      clear hb hg h5 hq h7 hct hm
      have HM6 : Hid (decide ((60 : Int) < (m : Int)) = false → m ≤ 60) := Lib.hid (fun h => by have := of_decide_eq_false h; omega)
      go_enter Try.func11, Try.ntmps11
      go_upto_region 1 with fail
      rw [← HW1.out]
      go_wp2_with (first
        | (go_at_call 15; (with_reducible refine HCH.out.mono ?_); rintro e w2 ⟨rfl, hk2⟩; have HK2 := Lib.hid hk2; have y0 := hk2.cell z0; have y1 := hk2.cell z1; clear hk2)
        | (go_at_call 29; (with_reducible refine (HCO.out _ HK2.out).mono ?_); rintro e w3 ⟨rfl, hk3⟩; have HK3 := Lib.hid (HK2.out.trans hk3); clear hk3))
      go_ret
      exact ⟨⟨decide ((60 : Int) < (m : Int)), rfl, fun h _ => HM6.out h⟩, HK1.out.trans HK3.out⟩
    · have hcb : ((c : Int) == 0) = false := beq_eq_false_iff_ne.2 (by omega)
      have HNO := Lib.hid hc
      clear hb hc
      go_enter Try.func11, Try.ntmps11
      go_upto_region 1 with fail
      rw [← HW1.out]
      go_wp2_with (go_at_call 15; (with_reducible refine HCH.out.mono ?_); rintro e w2 ⟨rfl, hk2⟩; have HK2 := Lib.hid hk2; have y0 := hk2.cell z0; have y1 := hk2.cell z1; clear hk2)
      go_ret
      exact ⟨⟨false, rfl, fun _ hc => absurd hc HNO.out⟩, HK1.out.trans HK2.out⟩
end Go.Proofs.Ytiplibgnfcdlkaa

/-
  Walks: the laws' valid, none.
-/
namespace Go.Proofs.Ytiplibgnfcdlkaa
open Go.RowKit

set_option maxRecDepth 100000 in
set_option maxHeartbeats 4000000 in
theorem valid_any (g n cp : Nat) (cf : Nat → Nat) (Ff : Nat → Nat → Bool) (W : World) (hn : n ≤ 3) (_hcp : n ≤ cp)
    (h : ∀ i, i < n → ∃ a m cq r, W.cell? ⟨g, i * 2, none⟩ = some (.slice a m cq) ∧ W.cell? ⟨g, i * 2 + 1, none⟩ = some (.int .i64 r) ∧ ZIn W (.agg #[.slice a m cq, .int .i64 r]) (cf i) (Ff i)) :
    Calls Try.prog 19 #[.slice (some ⟨g, 0, none⟩) n cp] W (RetB (fun b => b = true → ∀ i, i < n → cf i = 0 ∧ zcard (Ff i) ≤ 60) W) := by
  have HX := Lib.hid h
  clear h
  go_enter Try.func19, Try.ntmps19
  go_wp2_with fail
  go_loopg [3] n (fun kx s3 wr => ∃ k : Nat, s3 = .int .i64 k ∧ k ≤ n ∧ n - k ≤ kx ∧ Hid (∀ i, i < k → cf i = 0 ∧ zcard (Ff i) ≤ 60) ∧ Hid (Kept W wr))
  case atStart => exact ⟨0, by first | rfl | go_num, Nat.zero_le _, by omega, Lib.hid (fun i h => by omega), Lib.hid (Kept.refl _)⟩
  case round =>
    obtain ⟨k, rfl, hk, hkx, HT, HKr⟩ := hrel
    obtain ⟨wi, rfl⟩ : ∃ wi : World, wi = wr := ⟨_, rfl⟩
    by_cases hlt : k < n
    · have hlti : (k : Int) < (n : Int) := by omega
      have hk0 : (0 : Int) ≤ (k : Int) := by omega
      obtain ⟨a, m, cq, r, p0, p1, hz⟩ := HX.out k hlt
      obtain ⟨c, hc⟩ : ∃ c, c = cf k := ⟨_, rfl⟩
      obtain ⟨F, hF⟩ : ∃ F, F = Ff k := ⟨_, rfl⟩
      rw [← hc, ← hF] at hz
      have HCF := Lib.hid (And.intro hc hF)
      have q0 := HKr.out.cell p0
      have q1 := HKr.out.cell p1
      have hzi := hz.kept HKr.out
      have HLG := Lib.hid (large_any _ c F wi hzi)
      have HCH : Hid (∀ w, Kept wi w → Calls Try.prog 15 #[.agg #[.slice a m cq, .int .i64 r]] w fun e w' => e = .returned (.int .i64 (c : Nat)) ∧ Kept w w') := Lib.hid fun w hk => by
        obtain ⟨L, r', h1, h2, _⟩ := hzi.kept hk
        have h3 := h1
        obtain ⟨s, e, _⟩ := h1
        cases e
        rw [← h2]
        exact zrchk_any _ L r w h3
      clear p0 p1 hz hzi hc hF
      go_wp2_with fail
      refine HLG.out.mono ?_
      rintro e w2 ⟨⟨b1, rfl, hb⟩, hk2⟩
      have HK2 := Lib.hid hk2
      have HB := Lib.hid hb
      have y0 := hk2.cell q0
      have y1 := hk2.cell q1
      clear hk2 hb q0 q1
      cases b1 with
      | true =>
        go_wp2_with fail
        go_ret
        exact ⟨⟨false, rfl, fun h => by cases h⟩, HKr.out.trans HK2.out⟩
      | false =>
        by_cases hc0 : c = 0
        · subst hc0
          have HT2 : Hid (∀ i, i < k + 1 → cf i = 0 ∧ zcard (Ff i) ≤ 60) := Lib.hid fun i hi => by
            by_cases e : i = k
            · subst e
              rw [← HCF.out.1, ← HCF.out.2]
              exact ⟨rfl, HB.out rfl rfl⟩
            · exact HT.out i (by omega)
          go_wp2_with fail
          refine (HCH.out _ HK2.out).mono ?_
          rintro e w3 ⟨rfl, hk3⟩
          have HK3 := Lib.hid ((HKr.out.trans HK2.out).trans hk3)
          clear hk3
          go_wp2_with fail
          go_roundg (n - (k + 1))
          case measure => omega
          case rel => exact ⟨k + 1, by go_num, by omega, Nat.le_refl _, HT2, HK3⟩
        · have hcb : ((c : Int) == 0) = false := beq_eq_false_iff_ne.2 (by omega)
          clear hc0
          go_wp2_with fail
          refine (HCH.out _ HK2.out).mono ?_
          rintro e w3 ⟨rfl, hk3⟩
          have HK3 := Lib.hid ((HKr.out.trans HK2.out).trans hk3)
          clear hk3
          go_wp2_with fail
          go_ret
          exact ⟨⟨false, rfl, fun h => by cases h⟩, HK3.out⟩
    · have hlti : ¬ (k : Int) < (n : Int) := by omega
      have HALL : Hid (∀ i, i < n → cf i = 0 ∧ zcard (Ff i) ≤ 60) := Lib.hid fun i hi => HT.out i (by omega)
      go_wp2_with fail
      go_ret
      exact ⟨⟨true, rfl, fun _ => HALL.out⟩, HKr.out⟩
theorem none_true (v : Value) (q : Nat) (W : World) (h : ZDia W v zno) (hq : q ≤ 1000) :
    Calls Try.prog 17 #[v, errV q, .int .i64 q] W fun e w' => e = .returned (.bool true) ∧ Kept W w' := by
  have h0 := h
  obtain ⟨s, rfl, hd⟩ := h
  obtain ⟨a, cp, rfl⟩ := hd.shape
  obtain ⟨n, hn⟩ : ∃ n, n = ((zcan zno).1.map zi).length := ⟨_, rfl⟩
  obtain ⟨r, hr⟩ : ∃ r : Int, r = (zcan zno).2 := ⟨_, rfl⟩
  rw [← hn, ← hr] at h0 ⊢
  obtain ⟨w1, hw1⟩ : ∃ w1, w1 = W.alloc (.cells #[.slice a n cp, .int .i64 r] 24) := ⟨_, rfl⟩
  have hk1 : Kept W w1 := by rw [hw1]; exact (Kept.refl _).alloc _
  have hx1 : RowAt w1 W.heap.size 24 [.slice a n cp, .int .i64 r] := by rw [hw1]; exact RowAt.made W #[.slice a n cp, .int .i64 r] 24
  have z0 := hx1.cell (i := 0) (by simp)
  have z1 := hx1.cell (i := 1) (by simp)
  simp only [List.getElem_cons_succ, List.getElem_cons_zero] at z0 z1
  have HSM : Hid (Calls Try.prog 23 #[.agg #[.slice a n cp, .int .i64 r], .agg #[.slice none 0 0, .int .i64 0]] w1 fun e w' => e = .returned (.bool true) ∧ Kept w1 w') := Lib.hid (by
    refine (zsameD_any _ _ zno zno w1 (zfrom_no _) (zfrom_no _) (h0.kept hk1) (zdia_no _)).mono ?_
    rintro e w' ⟨⟨b, rfl, hb⟩, hk⟩
    rw [hb.2 rfl]
    exact ⟨rfl, hk⟩)
  have HNM := Lib.hid (fun w => num_ok q w (by omega))
  have HW1 := Lib.hid hw1
  have HK1 := Lib.hid hk1
  obtain ⟨u, hu⟩ : ∃ u, u = errV q := ⟨_, rfl⟩
  rw [← hu] at HNM ⊢
  have hqq : ((q : Int) == (q : Int)) = true := beq_self_eq_true _
  clear h0 hd hn hr hw1 hk1 hx1 hu
  go_enter Try.func17, Try.ntmps17
  go_upto_region 1 with fail
  rw [← HW1.out]
  go_wp2_with (first
    | (go_at_call 23; (with_reducible refine HSM.out.mono ?_); rintro e w2 ⟨rfl, hk2⟩; have HK2 := Lib.hid hk2; clear hk2)
    | (go_at_call 13; (with_reducible refine (HNM.out _).mono ?_); rintro e w3 ⟨rfl, hk3⟩; have HK3 := Lib.hid hk3; clear hk3))
  go_ret
  exact ⟨rfl, (HK1.out.trans HK2.out).trans HK3.out⟩
end Go.Proofs.Ytiplibgnfcdlkaa
