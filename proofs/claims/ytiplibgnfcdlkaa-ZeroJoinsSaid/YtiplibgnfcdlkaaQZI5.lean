import Derived.Test.YtiplibgnfcdlkaaQ33
/-
  Walks: the laws' large, valid, with the very answer. Printed by gen_ZI5.py.
-/
namespace Go.Proofs.Ytiplibgnfcdlkaa
open Go.RowKit

def zbig (n c m : Nat) : Bool := if 200 < n then decide (n ≤ 4096) else (decide (c = 0) && decide (60 < m))
set_option maxRecDepth 100000 in
set_option maxHeartbeats 4000000 in
theorem large_det (a : Option Addr) (n cp : Nat) (r : Int) (c : Nat) (F : Nat → Bool) (W : World) (h : ZIn W (.agg #[.slice a n cp, .int .i64 r]) c F) (B : Bool) (hB : B = zbig n c (zcard F)) :
    Calls Try.prog 11 #[.agg #[.slice a n cp, .int .i64 r]] W fun e w' => e = .returned (.bool B) ∧ Kept W w' := by
  obtain ⟨L, r', hz, hck, hok⟩ := h.parts
  obtain ⟨s, es, hL⟩ := id hz
  obtain ⟨a', cp', rfl⟩ := hL.shape
  have hle := hL.le
  simp only [Value.agg.injEq, Array.mk.injEq, List.cons.injEq, Value.slice.injEq, Value.int.injEq, and_true, true_and] at es
  obtain ⟨⟨rfl, hn, rfl⟩, rfl⟩ := es
  have hz0 := hz
  rw [← hn] at hle
  clear hz
  obtain ⟨w1, hw1⟩ : ∃ w1, w1 = W.alloc (.cells #[.slice a n cp, .int .i64 r] 24) := ⟨_, rfl⟩
  have hk1 : Kept W w1 := by rw [hw1]; exact (Kept.refl _).alloc _
  have hx1 : RowAt w1 W.heap.size 24 [.slice a n cp, .int .i64 r] := by rw [hw1]; exact RowAt.made W #[.slice a n cp, .int .i64 r] 24
  have z0 := hx1.cell (i := 0) (by simp)
  have z1 := hx1.cell (i := 1) (by simp)
  simp only [List.getElem_cons_succ, List.getElem_cons_zero] at z0 z1
  have HZ := Lib.hid hz0
  have HOK := Lib.hid hok
  have HW1 := Lib.hid hw1
  have HK1 := Lib.hid hk1
  have HN := Lib.hid hn
  have HCH : Hid (Calls Try.prog 15 #[.agg #[.slice a n cp, .int .i64 r]] w1 fun e w' => e = .returned (.int .i64 (c : Nat)) ∧ Kept w1 w') := Lib.hid (by rw [← hck]; exact zrchk_any _ L r w1 (hz0.kept hk1))
  have HB := Lib.hid hB
  clear h hck hok hz0 hw1 hk1 hx1 hL hn hB
  by_cases hb : 200 < n
  · have hbi : (200 : Int) < (n : Int) := by omega
    by_cases hb2 : n ≤ 4096
    · have hb2i : (n : Int) ≤ 4096 := by omega
      have HT : Hid (B = true) := Lib.hid (by rw [HB.out]; unfold zbig; rw [if_pos hb]; exact decide_eq_true hb2)
      clear hb hb2
      go_enter Try.func11, Try.ntmps11
      go_upto_region 1 with fail
      rw [← HW1.out]
      go_wp2_with fail
      go_ret
      exact ⟨by rw [HT.out]; rfl, HK1.out⟩
    · have hb2i : ¬ (n : Int) ≤ 4096 := by omega
      have HT : Hid (B = false) := Lib.hid (by rw [HB.out]; unfold zbig; rw [if_pos hb]; exact decide_eq_false hb2)
      clear hb hb2
      go_enter Try.func11, Try.ntmps11
      go_upto_region 1 with fail
      rw [← HW1.out]
      go_wp2_with fail
      go_ret
      exact ⟨by rw [HT.out]; rfl, HK1.out⟩
  · have hbi : ¬ (200 : Int) < (n : Int) := by omega
    by_cases hc : c = 0
    · subst hc
      obtain ⟨N, q, hg, h5, rfl, hq, h7, hct⟩ := HOK.out rfl
      have HCO : Hid (∀ w, Kept w1 w → Calls Try.prog 29 #[.agg #[.slice a n cp, .int .i64 (q : Nat)]] w fun e w' => e = .returned (.int .i64 (zcard F : Nat)) ∧ Kept w w') := Lib.hid (fun w hk => by
        rw [← hct]
        refine zrcount_any hg _ q w ?_ h7 hq
        rw [← h5]; exact HZ.out.kept (HK1.out.trans hk))
      obtain ⟨m, hm⟩ : ∃ m, m = zcard F := ⟨_, rfl⟩
      rw [← hm] at HCO
      have HT : Hid (B = decide ((60 : Int) < (m : Int))) := Lib.hid (by
        rw [HB.out, ← hm]; unfold zbig; rw [if_neg hb]
        by_cases h : 60 < m
        · rw [decide_eq_true h, decide_eq_true (show (60 : Int) < (m : Int) by omega)]; rfl
        · rw [decide_eq_false h, decide_eq_false (show ¬ (60 : Int) < (m : Int) by omega)]; rfl)
      clear hb hg h5 hq h7 hct hm
      go_enter Try.func11, Try.ntmps11
      go_upto_region 1 with fail
      rw [← HW1.out]
      go_wp2_with (first
        | (go_at_call 15; (with_reducible refine HCH.out.mono ?_); rintro e w2 ⟨rfl, hk2⟩; have HK2 := Lib.hid hk2; have y0 := hk2.cell z0; have y1 := hk2.cell z1; clear hk2)
        | (go_at_call 29; (with_reducible refine (HCO.out _ HK2.out).mono ?_); rintro e w3 ⟨rfl, hk3⟩; have HK3 := Lib.hid (HK2.out.trans hk3); clear hk3))
      go_ret
      exact ⟨by rw [HT.out]; rfl, HK1.out.trans HK3.out⟩
    · have hcb : ((c : Int) == 0) = false := beq_eq_false_iff_ne.2 (by omega)
      have HT : Hid (B = false) := Lib.hid (by rw [HB.out]; unfold zbig; rw [if_neg hb, decide_eq_false hc]; rfl)
      clear hb hc
      go_enter Try.func11, Try.ntmps11
      go_upto_region 1 with fail
      rw [← HW1.out]
      go_wp2_with (go_at_call 15; (with_reducible refine HCH.out.mono ?_); rintro e w2 ⟨rfl, hk2⟩; have HK2 := Lib.hid hk2; have y0 := hk2.cell z0; have y1 := hk2.cell z1; clear hk2)
      go_ret
      exact ⟨by rw [HT.out]; rfl, HK1.out.trans HK2.out⟩
set_option maxRecDepth 100000 in
set_option maxHeartbeats 4000000 in
theorem valid_det (g n cp : Nat) (nf cf : Nat → Nat) (Ff : Nat → Nat → Bool) (W : World) (B : Bool) (hB : B = true ↔ ∀ i, i < n → zbig (nf i) (cf i) (zcard (Ff i)) = false ∧ cf i = 0) (hn : n ≤ 3) (_hcp : n ≤ cp)
    (h : ∀ i, i < n → ∃ a cq r, W.cell? ⟨g, i * 2, none⟩ = some (.slice a (nf i) cq) ∧ W.cell? ⟨g, i * 2 + 1, none⟩ = some (.int .i64 r) ∧ ZIn W (.agg #[.slice a (nf i) cq, .int .i64 r]) (cf i) (Ff i)) :
    Calls Try.prog 19 #[.slice (some ⟨g, 0, none⟩) n cp] W fun e w' => e = .returned (.bool B) ∧ Kept W w' := by
  have HX := Lib.hid h
  have HB := Lib.hid hB
  clear h hB
  go_enter Try.func19, Try.ntmps19
  go_wp2_with fail
  go_loopg [3] n (fun kx s3 wr => ∃ k : Nat, s3 = .int .i64 k ∧ k ≤ n ∧ n - k ≤ kx ∧ Hid (∀ i, i < k → zbig (nf i) (cf i) (zcard (Ff i)) = false ∧ cf i = 0) ∧ Hid (Kept W wr))
  case atStart => exact ⟨0, by first | rfl | go_num, Nat.zero_le _, by omega, Lib.hid (fun i h => by omega), Lib.hid (Kept.refl _)⟩
  case round =>
    obtain ⟨k, rfl, hk, hkx, HT, HKr⟩ := hrel
    obtain ⟨wi, rfl⟩ : ∃ wi : World, wi = wr := ⟨_, rfl⟩
    by_cases hlt : k < n
    · have hlti : (k : Int) < (n : Int) := by omega
      have hk0 : (0 : Int) ≤ (k : Int) := by omega
      obtain ⟨a, cq, r, p0, p1, hz⟩ := HX.out k hlt
      obtain ⟨m, hm⟩ : ∃ m, m = nf k := ⟨_, rfl⟩
      rw [← hm] at p0 hz
      obtain ⟨c, hc⟩ : ∃ c, c = cf k := ⟨_, rfl⟩
      obtain ⟨F, hF⟩ : ∃ F, F = Ff k := ⟨_, rfl⟩
      rw [← hc, ← hF] at hz
      have HCF := Lib.hid (And.intro hm (And.intro hc hF))
      have q0 := HKr.out.cell p0
      have q1 := HKr.out.cell p1
      have hzi := hz.kept HKr.out
      obtain ⟨b1, hb1⟩ : ∃ b1, b1 = zbig m c (zcard F) := ⟨_, rfl⟩
      have HLG := Lib.hid (large_det a m cq r c F wi hzi b1 hb1)
      have HB1 := Lib.hid hb1
      have HCH : Hid (∀ w, Kept wi w → Calls Try.prog 15 #[.agg #[.slice a m cq, .int .i64 r]] w fun e w' => e = .returned (.int .i64 (c : Nat)) ∧ Kept w w') := Lib.hid fun w hk => by
        obtain ⟨L, r', h1, h2, _⟩ := hzi.kept hk
        have h3 := h1
        obtain ⟨s, e, _⟩ := h1
        cases e
        rw [← h2]
        exact zrchk_any _ L r w h3
      clear p0 p1 hz hzi hc hF hm hb1
      go_wp2_with fail
      refine HLG.out.mono ?_
      rintro e w2 ⟨rfl, hk2⟩
      have HK2 := Lib.hid hk2
      have y0 := hk2.cell q0
      have y1 := hk2.cell q1
      clear hk2 q0 q1
      cases b1 with
      | true =>
        have HBF : Hid (B = false) := Lib.hid (by
          cases e : B with
          | false => rfl
          | true => have h := (HB.out.1 e k hlt).1; rw [← HCF.out.1, ← HCF.out.2.1, ← HCF.out.2.2, ← HB1.out] at h; cases h)
        go_wp2_with fail
        go_ret
        exact ⟨by rw [HBF.out]; rfl, HKr.out.trans HK2.out⟩
      | false =>
        by_cases hc0 : c = 0
        · subst hc0
          have HT2 : Hid (∀ i, i < k + 1 → zbig (nf i) (cf i) (zcard (Ff i)) = false ∧ cf i = 0) := Lib.hid fun i hi => by
            by_cases e : i = k
            · subst e
              rw [← HCF.out.1, ← HCF.out.2.1, ← HCF.out.2.2]
              exact ⟨HB1.out.symm, rfl⟩
            · exact HT.out i (by omega)
          go_wp2_with fail
          refine (HCH.out _ HK2.out).mono ?_
          rintro e w3 ⟨rfl, hk3⟩
          have HK3 := Lib.hid ((HKr.out.trans HK2.out).trans hk3)
          clear hk3
          go_wp2_with fail
          go_roundg (n - (k + 1))
          case measure => omega
          case rel => exact ⟨k + 1, by go_num, by omega, Nat.le_refl _, HT2, HK3⟩
        · have hcb : ((c : Int) == 0) = false := beq_eq_false_iff_ne.2 (by omega)
          have HBF : Hid (B = false) := Lib.hid (by
            cases e : B with
            | false => rfl
            | true => have h := (HB.out.1 e k hlt).2; rw [← HCF.out.2.1] at h; exact absurd h hc0)
          clear hc0
          go_wp2_with fail
          refine (HCH.out _ HK2.out).mono ?_
          rintro e w3 ⟨rfl, hk3⟩
          have HK3 := Lib.hid ((HKr.out.trans HK2.out).trans hk3)
          clear hk3
          go_wp2_with fail
          go_ret
          exact ⟨by rw [HBF.out]; rfl, HK3.out⟩
    · have hlti : ¬ (k : Int) < (n : Int) := by omega
      have HALL : Hid (∀ i, i < n → zbig (nf i) (cf i) (zcard (Ff i)) = false ∧ cf i = 0) := Lib.hid fun i hi => HT.out i (by omega)
      have HBT : Hid (B = true) := Lib.hid (HB.out.2 HALL.out)
      go_wp2_with fail
      go_ret
      exact ⟨by rw [HBT.out]; rfl, HKr.out⟩
theorem valid3d {a b a3 : Option Addr} {n cp m cq n3 c3 : Nat} {r s r3 : Int} {c d k : Nat} {F G H : Nat → Bool} {W : World} (h : ZIn W (.agg #[.slice a n cp, .int .i64 r]) c F) (h' : ZIn W (.agg #[.slice b m cq, .int .i64 s]) d G) (h3 : ZIn W (.agg #[.slice a3 n3 c3, .int .i64 r3]) k H) :
    ∃ B : Bool, (B = true → (c = 0 ∧ zcard F ≤ 60) ∧ (d = 0 ∧ zcard G ≤ 60) ∧ k = 0 ∧ zcard H ≤ 60) ∧ ∀ w, Kept W w → Calls Try.prog 19 #[.slice (some ⟨w.heap.size, 0, none⟩) 3 3] (w.alloc (.cells #[.slice a n cp, .int .i64 r, .slice b m cq, .int .i64 s, .slice a3 n3 c3, .int .i64 r3] 24)) fun e w' => e = .returned (.bool B) ∧ Kept w w' := by
  obtain ⟨B, hB⟩ : ∃ B : Bool, B = true ↔ ((zbig n c (zcard F) = false ∧ c = 0) ∧ (zbig m d (zcard G) = false ∧ d = 0) ∧ zbig n3 k (zcard H) = false ∧ k = 0) := ⟨decide _, decide_eq_true_iff⟩
  refine ⟨B, fun hb => ?_, fun w hk => ?_⟩
  · obtain ⟨⟨p1, p2⟩, ⟨q1, q2⟩, s1, s2⟩ := hB.1 hb
    have key : ∀ {v : Value} {F : Nat → Bool} {n : Nat} {a : Option Addr} {cp : Nat} {r : Int}, v = .agg #[.slice a n cp, .int .i64 r] → ZIn W v 0 F → zbig n 0 (zcard F) = false → zcard F ≤ 60 := by
      intro v F n a cp r e h hz
      have hl := h.len rfl
      obtain ⟨L, r', h1, _, h2⟩ := h
      obtain ⟨_, e3, _, _⟩ := h2 rfl
      obtain ⟨s, e2, hd⟩ := h1
      obtain ⟨a', cp', rfl⟩ := hd.shape
      rw [e] at e2
      simp only [Value.agg.injEq, Array.mk.injEq, List.cons.injEq, Value.slice.injEq, Value.int.injEq, and_true] at e2
      have hn : n = (zcan F).1.length := by rw [e2.1.2.1, e3, List.length_map]
      unfold zbig at hz
      by_cases hb : 200 < n
      · rw [if_pos hb] at hz
        have := of_decide_eq_false hz
        omega
      · rw [if_neg hb, decide_eq_true rfl, Bool.true_and] at hz
        have := of_decide_eq_false hz
        omega
    subst p2
    subst q2
    subst s2
    exact ⟨⟨rfl, key rfl h p1⟩, ⟨rfl, key rfl h' q1⟩, rfl, key rfl h3 s1⟩
  · have hk2 := (Kept.refl w).alloc (.cells #[.slice a n cp, .int .i64 r, .slice b m cq, .int .i64 s, .slice a3 n3 c3, .int .i64 r3] 24)
    refine (valid_det w.heap.size 3 3 (fun i => if i = 0 then n else if i = 1 then m else n3) (fun i => if i = 0 then c else if i = 1 then d else k) (fun i => if i = 0 then F else if i = 1 then G else H) _ B ?_ (by omega) (by omega) (fun i hi => ?_)).mono fun e w' h => ⟨h.1, hk2.trans h.2⟩
    · rw [hB]
      constructor
      · rintro ⟨h1, h2, h3⟩ i hi
        rcases (show i = 0 ∨ i = 1 ∨ i = 2 by omega) with rfl | rfl | rfl
        · exact h1
        · exact h2
        · exact h3
      · intro h
        exact ⟨h 0 (by omega), h 1 (by omega), h 2 (by omega)⟩
    · rcases (show i = 0 ∨ i = 1 ∨ i = 2 by omega) with rfl | rfl | rfl
      · exact ⟨_, _, _, by simp, by simp, h.kept (hk.trans hk2)⟩
      · exact ⟨_, _, _, by simp, by simp, h'.kept (hk.trans hk2)⟩
      · exact ⟨_, _, _, by simp, by simp, h3.kept (hk.trans hk2)⟩
end Go.Proofs.Ytiplibgnfcdlkaa
