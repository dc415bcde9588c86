import Derived.Test.YtiplibgnfcdlkaaQZG7
import Derived.Test.YtiplibgnfcdlkaaQZE7
/-
  Walk: the law ZeroReads. Printed by gen_ZG9.py.
-/
namespace Go.Proofs.Ytiplibgnfcdlkaa
open Go.RowKit

set_option maxRecDepth 100000 in
theorem isz_any (q c : Nat) (hq : q ≠ 0) (w : World) : Calls Try.prog 33 #[errV q, .int .i64 c] w fun e w' => e = .returned (.bool (q == c)) ∧ w = w' := by
  rw [errV_pos hq]
  have e : ((q : Int) == (c : Int)) = (q == c) := by rw [Bool.eq_iff_iff]; simp; omega
  have HE := Lib.hid e
  clear hq e
  go_enter Try.func33, Try.ntmps33
  go_wp2
  rw [as_errno]
  go_wp2
  go_ret
  exact ⟨by rw [← HE.out]; rfl, rfl⟩
theorem zlE_le (c n : Nat) : zlE c n ≤ c + 4 := by
  unfold zlE
  by_cases h : c = 0
  · rw [if_pos h]; by_cases h2 : 1024 < n
    · rw [if_pos h2]; omega
    · rw [if_neg h2]; omega
  · rw [if_neg h]; omega
theorem inErr_small (L : List INode) (i : Nat) : inErr L i ≤ 13 := by
  unfold inErr
  simp only
  split
  · omega
  · split
    · omega
    · split
      · omega
      · split <;> omega
theorem inFst_small (L : List INode) : ∀ n, inFst L n ≤ 13 := by
  intro n
  induction n with
  | zero => exact Nat.zero_le _
  | succ n ih => unfold inFst; split; exact inErr_small L n; exact ih
theorem zchk_small (L : List INode) (r : Int) : zchk L r ≤ 100 := by
  unfold zchk
  have := inFst_small L L.length
  split
  · omega
  · split
    · omega
    · split
      · omega
      · split <;> omega
set_option maxRecDepth 100000 in
set_option maxHeartbeats 8000000 in
theorem zeroReads_true (v : Value) (L : List INode) (ra : Int) (set : Int) (W : World) (h : ZeroAt W v L ra) :
    Calls Try.prog 7 #[v, .int .i64 set] W fun e w' => e = .returned (.bool true) ∧ Kept W w' := by
  obtain ⟨F, hF⟩ := h.zin
  obtain ⟨c, hc⟩ : ∃ c, c = zchk L ra := ⟨_, rfl⟩
  rw [← hc] at hF
  have hcb : c ≤ 100 := by
    rw [hc]; exact zchk_small L ra
  obtain ⟨a, n, cp, r, rfl⟩ := hF.shape
  obtain ⟨g0, hg0⟩ : ∃ w1, w1 = W.alloc (.cells #[.slice a n cp, .int .i64 r] 24) := ⟨_, rfl⟩
  have hk0 : Kept W g0 := by rw [hg0]; exact (Kept.refl _).alloc _
  have hx0 : RowAt g0 W.heap.size 24 [.slice a n cp, .int .i64 r] := by rw [hg0]; exact RowAt.made W #[.slice a n cp, .int .i64 r] 24
  have x0 := hx0.cell (i := 0) (by simp)
  have x1 := hx0.cell (i := 1) (by simp)
  simp only [List.getElem_cons_succ, List.getElem_cons_zero] at x0 x1
  have hnb : n ≤ 140737488355328 := by
    obtain ⟨s, e, hd⟩ := h
    cases e
    obtain ⟨_, _, e2⟩ := hd.shape
    cases e2
    exact hd.le
  have HK0 := Lib.hid hk0
  have HG0 := Lib.hid hg0
  have HX := Lib.hid (And.intro x0 x1)
  have HFI := Lib.hid hF
  clear h hc hg0 hk0 hF hx0
  go_enter Try.func7, Try.ntmps7
  go_upto_region 1 with fail
  rw [← HG0.out]
  clear x0 x1
  go_wp2_with fail
  refine (awake18 _).mono ?_
  rintro e g1 ⟨rfl, hk1⟩
  have HK1 := Lib.hid hk1
  have x0 := hk1.cell HX.out.1
  have x1 := hk1.cell HX.out.2
  clear hk1
  by_cases hbig : 200 < n ∧ n ≤ 4096
  · have hb1 : (200 : Int) < (n : Int) := by omega
    have hb2 : (n : Int) ≤ 4096 := by omega
    clear hbig
    go_wp2_with fail
    refine (awake18 _).mono ?_
    rintro e g3 ⟨rfl, hk3⟩
    have HK3 := Lib.hid hk3
    clear hk3
    go_wp2_with fail
    go_ret
    exact ⟨rfl, (HK0.out.trans HK1.out).trans HK3.out⟩
  have HBG := Lib.hid hbig
  have HZI : Hid (∀ w, Kept W w → ZIn w (.agg #[.slice a n cp, .int .i64 r]) c F) := Lib.hid fun w hk => HFI.out.kept hk
  have HCH : Hid (∀ w, Kept W w → Calls Try.prog 15 #[.agg #[.slice a n cp, .int .i64 r]] w fun e w' => e = .returned (.int .i64 (c : Nat)) ∧ Kept w w') := Lib.hid fun w hk => by
    obtain ⟨L2, r2, h1, h2, _⟩ := HZI.out w hk
    have h3 := h1
    obtain ⟨s, e, _⟩ := h1
    cases e
    rw [← h2]
    exact zrchk_any _ L2 r w h3
  have hcases : (¬ (200 : Int) < (n : Int)) ∨ ((200 : Int) < (n : Int) ∧ ¬ (n : Int) ≤ 4096) := by omega
  by_cases hc0 : c = 0
  · subst hc0
    obtain ⟨L2, r2, hz2, _, hpart⟩ := HFI.out.parts
    obtain ⟨N, q, hg, hLN, hrq, hq, h7, hct⟩ := hpart rfl
    have hz3 := hz2
    obtain ⟨s2, e2, _⟩ := hz2
    cases e2
    subst hrq
    have hFv := HFI.out.fv
    have hFf := hFv.frm
    have hmx := zct_max hg hq
    rw [hct] at hmx
    obtain ⟨m, hm⟩ : ∃ m, m = zcard F := ⟨_, rfl⟩
    have HM := Lib.hid hm
    rw [← hm] at hct hmx
    have HCO : Hid (∀ w, Kept W w → Calls Try.prog 29 #[.agg #[.slice a n cp, .int .i64 (q : Nat)]] w fun e w' => e = .returned (.int .i64 (m : Nat)) ∧ Kept w w') := Lib.hid fun w hk => by
      rw [← hct]
      refine zrcount_any hg _ q w ?_ h7 hq
      rw [← hLN]; exact hz3.kept hk
    have HDI : Hid (∀ w, Kept W w → ZDia w (.agg #[.slice a n cp, .int .i64 (q : Nat)]) F) := Lib.hid fun w hk => (HZI.out w hk).dia rfl
    have HCN : Hid (∀ w, Kept W w → Calls Try.prog 32 #[.agg #[.slice a n cp, .int .i64 (q : Nat)]] w fun e w' => e = .returned (.tuple #[.int .i64 (m : Nat), .nilIface]) ∧ Kept w w') := Lib.hid fun w hk => by
      rw [hm]; exact zCount_ok (HDI.out w hk) hFv
    obtain ⟨bm, hbm⟩ : ∃ b, b = zok set := ⟨_, rfl⟩
    have HMS : Hid (∀ w, Calls Try.prog 25 #[.int .i64 set] w fun e w' => e = .returned (.bool bm) ∧ Kept w w') := Lib.hid fun w => by
      rw [hbm]; refine (rmask_any set w).mono ?_; rintro e w' ⟨rfl, rfl⟩; exact ⟨rfl, Kept.refl _⟩
    obtain ⟨hb, hhb⟩ : ∃ b, b = (bm && F set.toNat) := ⟨_, rfl⟩
    have HHS : Hid (∀ w, Kept W w → Calls Try.prog 26 #[.agg #[.slice a n cp, .int .i64 (q : Nat)], .int .i64 set] w fun e w' => e = .returned (.tuple #[.bool hb, errV (if bm then 0 else 3)]) ∧ Kept w w') := Lib.hid fun w hk => by
      refine (zHas_any _ 0 F set w (HZI.out w hk)).mono ?_
      rintro e w' ⟨rfl, hk2⟩
      rw [hhb, hbm, if_pos rfl, decide_eq_true rfl, Bool.true_and]
      exact ⟨rfl, hk2⟩
    have HRL : Hid (m ≤ 1024 → ∀ w, Kept W w → Calls Try.prog 34 #[.agg #[.slice a n cp, .int .i64 (q : Nat)]] w fun e w' => (∃ v' L, e = .returned v' ∧ IntsAt w' v' (natI L) ∧ ZSorted F L) ∧ Kept w w') := Lib.hid fun hl w hk => rlist_any _ F w (HDI.out w hk) hFf hFv.len (by omega)
    have HZL : Hid (∀ w, Kept W w → Calls Try.prog 21 #[.agg #[.slice a n cp, .int .i64 (q : Nat)]] w fun e w' => (∃ u L, e = .returned (.tuple #[u, errV (if 1024 < m then 4 else 0)]) ∧ IntsAt w' u (natI L) ∧ (m ≤ 1024 → ZSorted F L) ∧ (1024 < m → L = [])) ∧ Kept w w') := Lib.hid fun w hk => by
      refine (zList_any _ 0 F w (HZI.out w hk)).mono ?_
      rintro e w' ⟨⟨v', L', rfl, h1, h2, h3⟩, hk2⟩
      have e0 : zlE 0 (zcard F) = if 1024 < m then 4 else 0 := by unfold zlE; rw [if_pos rfl, ← hm]
      rw [e0] at h2 h3 ⊢
      refine ⟨⟨v', L', rfl, h1, fun hl => h2 (if_neg (by omega)), fun hl => h3 (by rw [if_pos hl]; decide)⟩, hk2⟩
    have HHA : Hid (∀ w u L, IntsAt w u (natI L) → ZSorted F L → bm = true → Calls Try.prog 24 #[u, .int .i64 set] w fun e w' => e = .returned (.bool hb) ∧ Kept w w') := Lib.hid fun w u L hu hs hbt => by
      refine (has_any u (natI L) set w hu).mono ?_
      rintro e w' ⟨rfl, rfl⟩
      refine ⟨?_, Kept.refl _⟩
      rw [hbt] at hbm hhb
      have h0 := of_decide_eq_true hbm.symm
      obtain ⟨k, rfl⟩ : ∃ k : Nat, set = (k : Int) := ⟨set.toNat, by omega⟩
      rw [hhb, Int.toNat_natCast, Bool.true_and]
      congr 2
      rw [Bool.eq_iff_iff, decide_eq_true_iff, natI_mem, hs.mem]
    have HBF : Hid (bm = false → hb = false) := Lib.hid fun e => by rw [hhb, e]; rfl
    have hmm : ((m : Int) == (m : Int)) = true := beq_self_eq_true _
    clear hz3 hLN hg hq h7 hct hFv hFf hm hbm hhb hbig hpart
    by_cases hbig : 1024 < m
    · have hbi : (1024 : Int) < (m : Int) := by omega
      rw [if_pos hbig] at HZL
      have HIS : Hid (∀ w, Calls Try.prog 33 #[.iface 56 (.int .i64 4), .int .i64 4] w fun e w' => e = .returned (.bool true) ∧ Kept w w') := Lib.hid fun w => (isz_any 4 4 (by decide) w).mono fun e w' ⟨h1, h2⟩ => ⟨h1, by rw [← h2]; exact Kept.refl _⟩
      have HZB : Hid (∀ w, Kept W w → Calls Try.prog 21 #[.agg #[.slice a n cp, .int .i64 (q : Nat)]] w fun e w' => (∃ b q, e = .returned (.tuple #[.slice b 0 q, .iface 56 (.int .i64 4)])) ∧ Kept w w') := Lib.hid fun w hk => by
        refine (HZL.out w hk).mono ?_
        rintro e w' ⟨⟨u, L', rfl, h1, _, h3⟩, hk2⟩
        have := h3 hbig
        subst this
        obtain ⟨b, q, rfl, _⟩ := h1
        exact ⟨⟨b, q, rfl⟩, hk2⟩
      clear hbig
      cases bm with
      | true =>
        rw [if_pos rfl, errV_zero] at HHS
        rcases hcases with hh | ⟨hh1, hh2⟩
        all_goals
          go_wp2_with fail
          refine (HZB.out _ (HK0.out.trans HK1.out)).mono ?_
          rintro e g2 ⟨⟨bq, cq, rfl⟩, hk⟩
          have HK2 := Lib.hid hk
          clear hk 
          clear x0 x1
          have x0 := (HK1.out.trans HK2.out).cell HX.out.1
          have x1 := (HK1.out.trans HK2.out).cell HX.out.2
          go_wp2_with fail
          refine (HHS.out _ (HK0.out.trans (HK1.out.trans HK2.out))).mono ?_
          rintro e g3 ⟨rfl, hk⟩
          have HK3 := Lib.hid hk
          clear hk 
          clear x0 x1
          have x0 := ((HK1.out.trans HK2.out).trans HK3.out).cell HX.out.1
          have x1 := ((HK1.out.trans HK2.out).trans HK3.out).cell HX.out.2
          go_wp2_with fail
          refine (HCN.out _ (HK0.out.trans ((HK1.out.trans HK2.out).trans HK3.out))).mono ?_
          rintro e g4 ⟨rfl, hk⟩
          have HK4 := Lib.hid hk
          clear hk 
          clear x0 x1
          have x0 := (((HK1.out.trans HK2.out).trans HK3.out).trans HK4.out).cell HX.out.1
          have x1 := (((HK1.out.trans HK2.out).trans HK3.out).trans HK4.out).cell HX.out.2
          go_wp2_with fail
          refine (HCH.out _ (HK0.out.trans (((HK1.out.trans HK2.out).trans HK3.out).trans HK4.out))).mono ?_
          rintro e g5 ⟨rfl, hk⟩
          have HK5 := Lib.hid hk
          clear hk 
          clear x0 x1
          have x0 := ((((HK1.out.trans HK2.out).trans HK3.out).trans HK4.out).trans HK5.out).cell HX.out.1
          have x1 := ((((HK1.out.trans HK2.out).trans HK3.out).trans HK4.out).trans HK5.out).cell HX.out.2
          go_wp2_with fail
          refine (HCO.out _ (HK0.out.trans ((((HK1.out.trans HK2.out).trans HK3.out).trans HK4.out).trans HK5.out))).mono ?_
          rintro e g6 ⟨rfl, hk⟩
          have HK6 := Lib.hid hk
          clear hk 
          clear x0 x1
          have x0 := (((((HK1.out.trans HK2.out).trans HK3.out).trans HK4.out).trans HK5.out).trans HK6.out).cell HX.out.1
          have x1 := (((((HK1.out.trans HK2.out).trans HK3.out).trans HK4.out).trans HK5.out).trans HK6.out).cell HX.out.2
          go_wp2_with fail
          refine (HMS.out _).mono ?_
          rintro e g7 ⟨rfl, hk⟩
          have HK7 := Lib.hid hk
          clear hk 
          clear x0 x1
          have x0 := ((((((HK1.out.trans HK2.out).trans HK3.out).trans HK4.out).trans HK5.out).trans HK6.out).trans HK7.out).cell HX.out.1
          have x1 := ((((((HK1.out.trans HK2.out).trans HK3.out).trans HK4.out).trans HK5.out).trans HK6.out).trans HK7.out).cell HX.out.2
          go_wp2_with fail
          refine (HIS.out _).mono ?_
          rintro e g8 ⟨rfl, hk⟩
          have HK8 := Lib.hid hk
          clear hk 
          go_wp2_with fail
          go_ret
          exact ⟨rfl, (HK0.out.trans (((((((HK1.out.trans HK2.out).trans HK3.out).trans HK4.out).trans HK5.out).trans HK6.out).trans HK7.out).trans HK8.out))⟩
      | false =>
        have e := HBF.out rfl
        subst e
        rw [if_neg (by decide)] at HHS
        have HIS3 : Hid (∀ w, Calls Try.prog 33 #[errV 3, .int .i64 3] w fun e w' => e = .returned (.bool true) ∧ Kept w w') := Lib.hid fun w => (isz_any 3 3 (by decide) w).mono fun e w' ⟨h1, h2⟩ => ⟨h1, by rw [← h2]; exact Kept.refl _⟩
        obtain ⟨u3, hu3⟩ : ∃ u, u = errV 3 := ⟨_, rfl⟩
        rw [← hu3] at HHS HIS3
        clear hu3
        rcases hcases with hh | ⟨hh1, hh2⟩
        all_goals
          go_wp2_with fail
          refine (HZB.out _ (HK0.out.trans HK1.out)).mono ?_
          rintro e g2 ⟨⟨bq, cq, rfl⟩, hk⟩
          have HK2 := Lib.hid hk
          clear hk 
          clear x0 x1
          have x0 := (HK1.out.trans HK2.out).cell HX.out.1
          have x1 := (HK1.out.trans HK2.out).cell HX.out.2
          go_wp2_with fail
          refine (HHS.out _ (HK0.out.trans (HK1.out.trans HK2.out))).mono ?_
          rintro e g3 ⟨rfl, hk⟩
          have HK3 := Lib.hid hk
          clear hk 
          clear x0 x1
          have x0 := ((HK1.out.trans HK2.out).trans HK3.out).cell HX.out.1
          have x1 := ((HK1.out.trans HK2.out).trans HK3.out).cell HX.out.2
          go_wp2_with fail
          refine (HCN.out _ (HK0.out.trans ((HK1.out.trans HK2.out).trans HK3.out))).mono ?_
          rintro e g4 ⟨rfl, hk⟩
          have HK4 := Lib.hid hk
          clear hk 
          clear x0 x1
          have x0 := (((HK1.out.trans HK2.out).trans HK3.out).trans HK4.out).cell HX.out.1
          have x1 := (((HK1.out.trans HK2.out).trans HK3.out).trans HK4.out).cell HX.out.2
          go_wp2_with fail
          refine (HCH.out _ (HK0.out.trans (((HK1.out.trans HK2.out).trans HK3.out).trans HK4.out))).mono ?_
          rintro e g5 ⟨rfl, hk⟩
          have HK5 := Lib.hid hk
          clear hk 
          clear x0 x1
          have x0 := ((((HK1.out.trans HK2.out).trans HK3.out).trans HK4.out).trans HK5.out).cell HX.out.1
          have x1 := ((((HK1.out.trans HK2.out).trans HK3.out).trans HK4.out).trans HK5.out).cell HX.out.2
          go_wp2_with fail
          refine (HCO.out _ (HK0.out.trans ((((HK1.out.trans HK2.out).trans HK3.out).trans HK4.out).trans HK5.out))).mono ?_
          rintro e g6 ⟨rfl, hk⟩
          have HK6 := Lib.hid hk
          clear hk 
          clear x0 x1
          have x0 := (((((HK1.out.trans HK2.out).trans HK3.out).trans HK4.out).trans HK5.out).trans HK6.out).cell HX.out.1
          have x1 := (((((HK1.out.trans HK2.out).trans HK3.out).trans HK4.out).trans HK5.out).trans HK6.out).cell HX.out.2
          go_wp2_with fail
          refine (HMS.out _).mono ?_
          rintro e g7 ⟨rfl, hk⟩
          have HK7 := Lib.hid hk
          clear hk 
          clear x0 x1
          have x0 := ((((((HK1.out.trans HK2.out).trans HK3.out).trans HK4.out).trans HK5.out).trans HK6.out).trans HK7.out).cell HX.out.1
          have x1 := ((((((HK1.out.trans HK2.out).trans HK3.out).trans HK4.out).trans HK5.out).trans HK6.out).trans HK7.out).cell HX.out.2
          go_wp2_with fail
          refine (HIS3.out _).mono ?_
          rintro e g8 ⟨rfl, hk⟩
          have HK8 := Lib.hid hk
          clear hk 
          clear x0 x1
          have x0 := (((((((HK1.out.trans HK2.out).trans HK3.out).trans HK4.out).trans HK5.out).trans HK6.out).trans HK7.out).trans HK8.out).cell HX.out.1
          have x1 := (((((((HK1.out.trans HK2.out).trans HK3.out).trans HK4.out).trans HK5.out).trans HK6.out).trans HK7.out).trans HK8.out).cell HX.out.2
          go_wp2_with fail
          refine (HIS.out _).mono ?_
          rintro e g9 ⟨rfl, hk⟩
          have HK9 := Lib.hid hk
          clear hk 
          go_wp2_with fail
          go_ret
          exact ⟨rfl, (HK0.out.trans ((((((((HK1.out.trans HK2.out).trans HK3.out).trans HK4.out).trans HK5.out).trans HK6.out).trans HK7.out).trans HK8.out).trans HK9.out))⟩
    · have hbi : ¬ (1024 : Int) < (m : Int) := by omega
      rw [if_neg hbig, errV_zero] at HZL
      have HM4 : Hid (m ≤ 1024) := Lib.hid (by omega)
      clear hbig
      cases bm with
      | true =>
        rw [if_pos rfl, errV_zero] at HHS
        rcases hcases with hh | ⟨hh1, hh2⟩
        all_goals
          go_wp2_with fail
          refine (HZL.out _ (HK0.out.trans HK1.out)).mono ?_
          rintro e g2 ⟨⟨u1, L1, rfl, hi, hs, _⟩, hk⟩
          have HK2 := Lib.hid hk
          have HI1 := Lib.hid hi
          have HS1 := Lib.hid hs
          clear hk hi hs
          clear x0 x1
          have x0 := (HK1.out.trans HK2.out).cell HX.out.1
          have x1 := (HK1.out.trans HK2.out).cell HX.out.2
          go_wp2_with fail
          refine (HHS.out _ (HK0.out.trans (HK1.out.trans HK2.out))).mono ?_
          rintro e g3 ⟨rfl, hk⟩
          have HK3 := Lib.hid hk
          clear hk 
          clear x0 x1
          have x0 := ((HK1.out.trans HK2.out).trans HK3.out).cell HX.out.1
          have x1 := ((HK1.out.trans HK2.out).trans HK3.out).cell HX.out.2
          go_wp2_with fail
          refine (HCN.out _ (HK0.out.trans ((HK1.out.trans HK2.out).trans HK3.out))).mono ?_
          rintro e g4 ⟨rfl, hk⟩
          have HK4 := Lib.hid hk
          clear hk 
          clear x0 x1
          have x0 := (((HK1.out.trans HK2.out).trans HK3.out).trans HK4.out).cell HX.out.1
          have x1 := (((HK1.out.trans HK2.out).trans HK3.out).trans HK4.out).cell HX.out.2
          go_wp2_with fail
          refine (HCH.out _ (HK0.out.trans (((HK1.out.trans HK2.out).trans HK3.out).trans HK4.out))).mono ?_
          rintro e g5 ⟨rfl, hk⟩
          have HK5 := Lib.hid hk
          clear hk 
          clear x0 x1
          have x0 := ((((HK1.out.trans HK2.out).trans HK3.out).trans HK4.out).trans HK5.out).cell HX.out.1
          have x1 := ((((HK1.out.trans HK2.out).trans HK3.out).trans HK4.out).trans HK5.out).cell HX.out.2
          go_wp2_with fail
          refine (HCO.out _ (HK0.out.trans ((((HK1.out.trans HK2.out).trans HK3.out).trans HK4.out).trans HK5.out))).mono ?_
          rintro e g6 ⟨rfl, hk⟩
          have HK6 := Lib.hid hk
          clear hk 
          clear x0 x1
          have x0 := (((((HK1.out.trans HK2.out).trans HK3.out).trans HK4.out).trans HK5.out).trans HK6.out).cell HX.out.1
          have x1 := (((((HK1.out.trans HK2.out).trans HK3.out).trans HK4.out).trans HK5.out).trans HK6.out).cell HX.out.2
          go_wp2_with fail
          refine (HMS.out _).mono ?_
          rintro e g7 ⟨rfl, hk⟩
          have HK7 := Lib.hid hk
          clear hk 
          clear x0 x1
          have x0 := ((((((HK1.out.trans HK2.out).trans HK3.out).trans HK4.out).trans HK5.out).trans HK6.out).trans HK7.out).cell HX.out.1
          have x1 := ((((((HK1.out.trans HK2.out).trans HK3.out).trans HK4.out).trans HK5.out).trans HK6.out).trans HK7.out).cell HX.out.2
          go_wp2_with fail
          refine (HRL.out HM4.out _ (HK0.out.trans ((((((HK1.out.trans HK2.out).trans HK3.out).trans HK4.out).trans HK5.out).trans HK6.out).trans HK7.out))).mono ?_
          rintro e g8 ⟨⟨u2, L2, rfl, hi2, hs2⟩, hk⟩
          have HK8 := Lib.hid hk
          have HI2 := Lib.hid hi2
          have HS2 := Lib.hid hs2
          clear hk hi2 hs2
          have HIN : Hid (Calls Try.prog 27 #[u1, u2] g8 fun e w' => e = .returned (.bool true) ∧ Kept g8 w') := Lib.hid (by
            have e9 : L2 = L1 := HS2.out.uniq (HS1.out HM4.out)
            refine (ints_at (natI L1) (natI L2) u1 u2 _ (HI1.out.kept (((((HK3.out.trans HK4.out).trans HK5.out).trans HK6.out).trans HK7.out).trans HK8.out)) HI2.out).mono ?_
            rintro e w' ⟨rfl, hk⟩
            rw [e9, decide_eq_true rfl]
            exact ⟨rfl, hk⟩)
          go_wp2_with fail
          refine (HIN.out).mono ?_
          rintro e g9 ⟨rfl, hk⟩
          have HK9 := Lib.hid hk
          clear hk 
          go_wp2_with fail
          refine (HMS.out _).mono ?_
          rintro e g10 ⟨rfl, hk⟩
          have HK10 := Lib.hid hk
          clear hk 
          go_wp2_with fail
          refine (HHA.out _ _ _ (HI2.out.kept (HK9.out.trans HK10.out)) HS2.out trivial).mono ?_
          rintro e g11 ⟨rfl, hk⟩
          have HK11 := Lib.hid hk
          clear hk 
          cases hb
          all_goals
            go_wp2_with fail
            go_ret
            exact ⟨rfl, (HK0.out.trans ((((((((((HK1.out.trans HK2.out).trans HK3.out).trans HK4.out).trans HK5.out).trans HK6.out).trans HK7.out).trans HK8.out).trans HK9.out).trans HK10.out).trans HK11.out))⟩
      | false =>
        have e := HBF.out rfl
        subst e
        rw [if_neg (by decide)] at HHS
        have HIS3 : Hid (∀ w, Calls Try.prog 33 #[errV 3, .int .i64 3] w fun e w' => e = .returned (.bool true) ∧ Kept w w') := Lib.hid fun w => (isz_any 3 3 (by decide) w).mono fun e w' ⟨h1, h2⟩ => ⟨h1, by rw [← h2]; exact Kept.refl _⟩
        obtain ⟨u3, hu3⟩ : ∃ u, u = errV 3 := ⟨_, rfl⟩
        rw [← hu3] at HHS HIS3
        clear hu3
        rcases hcases with hh | ⟨hh1, hh2⟩
        all_goals
          go_wp2_with fail
          refine (HZL.out _ (HK0.out.trans HK1.out)).mono ?_
          rintro e g2 ⟨⟨u1, L1, rfl, hi, hs, _⟩, hk⟩
          have HK2 := Lib.hid hk
          have HI1 := Lib.hid hi
          have HS1 := Lib.hid hs
          clear hk hi hs
          clear x0 x1
          have x0 := (HK1.out.trans HK2.out).cell HX.out.1
          have x1 := (HK1.out.trans HK2.out).cell HX.out.2
          go_wp2_with fail
          refine (HHS.out _ (HK0.out.trans (HK1.out.trans HK2.out))).mono ?_
          rintro e g3 ⟨rfl, hk⟩
          have HK3 := Lib.hid hk
          clear hk 
          clear x0 x1
          have x0 := ((HK1.out.trans HK2.out).trans HK3.out).cell HX.out.1
          have x1 := ((HK1.out.trans HK2.out).trans HK3.out).cell HX.out.2
          go_wp2_with fail
          refine (HCN.out _ (HK0.out.trans ((HK1.out.trans HK2.out).trans HK3.out))).mono ?_
          rintro e g4 ⟨rfl, hk⟩
          have HK4 := Lib.hid hk
          clear hk 
          clear x0 x1
          have x0 := (((HK1.out.trans HK2.out).trans HK3.out).trans HK4.out).cell HX.out.1
          have x1 := (((HK1.out.trans HK2.out).trans HK3.out).trans HK4.out).cell HX.out.2
          go_wp2_with fail
          refine (HCH.out _ (HK0.out.trans (((HK1.out.trans HK2.out).trans HK3.out).trans HK4.out))).mono ?_
          rintro e g5 ⟨rfl, hk⟩
          have HK5 := Lib.hid hk
          clear hk 
          clear x0 x1
          have x0 := ((((HK1.out.trans HK2.out).trans HK3.out).trans HK4.out).trans HK5.out).cell HX.out.1
          have x1 := ((((HK1.out.trans HK2.out).trans HK3.out).trans HK4.out).trans HK5.out).cell HX.out.2
          go_wp2_with fail
          refine (HCO.out _ (HK0.out.trans ((((HK1.out.trans HK2.out).trans HK3.out).trans HK4.out).trans HK5.out))).mono ?_
          rintro e g6 ⟨rfl, hk⟩
          have HK6 := Lib.hid hk
          clear hk 
          clear x0 x1
          have x0 := (((((HK1.out.trans HK2.out).trans HK3.out).trans HK4.out).trans HK5.out).trans HK6.out).cell HX.out.1
          have x1 := (((((HK1.out.trans HK2.out).trans HK3.out).trans HK4.out).trans HK5.out).trans HK6.out).cell HX.out.2
          go_wp2_with fail
          refine (HMS.out _).mono ?_
          rintro e g7 ⟨rfl, hk⟩
          have HK7 := Lib.hid hk
          clear hk 
          clear x0 x1
          have x0 := ((((((HK1.out.trans HK2.out).trans HK3.out).trans HK4.out).trans HK5.out).trans HK6.out).trans HK7.out).cell HX.out.1
          have x1 := ((((((HK1.out.trans HK2.out).trans HK3.out).trans HK4.out).trans HK5.out).trans HK6.out).trans HK7.out).cell HX.out.2
          go_wp2_with fail
          refine (HIS3.out _).mono ?_
          rintro e g8 ⟨rfl, hk⟩
          have HK8 := Lib.hid hk
          clear hk 
          clear x0 x1
          have x0 := (((((((HK1.out.trans HK2.out).trans HK3.out).trans HK4.out).trans HK5.out).trans HK6.out).trans HK7.out).trans HK8.out).cell HX.out.1
          have x1 := (((((((HK1.out.trans HK2.out).trans HK3.out).trans HK4.out).trans HK5.out).trans HK6.out).trans HK7.out).trans HK8.out).cell HX.out.2
          go_wp2_with fail
          refine (HRL.out HM4.out _ (HK0.out.trans (((((((HK1.out.trans HK2.out).trans HK3.out).trans HK4.out).trans HK5.out).trans HK6.out).trans HK7.out).trans HK8.out))).mono ?_
          rintro e g9 ⟨⟨u2, L2, rfl, hi2, hs2⟩, hk⟩
          have HK9 := Lib.hid hk
          have HI2 := Lib.hid hi2
          have HS2 := Lib.hid hs2
          clear hk hi2 hs2
          have HIN : Hid (Calls Try.prog 27 #[u1, u2] g9 fun e w' => e = .returned (.bool true) ∧ Kept g9 w') := Lib.hid (by
            have e9 : L2 = L1 := HS2.out.uniq (HS1.out HM4.out)
            refine (ints_at (natI L1) (natI L2) u1 u2 _ (HI1.out.kept ((((((HK3.out.trans HK4.out).trans HK5.out).trans HK6.out).trans HK7.out).trans HK8.out).trans HK9.out)) HI2.out).mono ?_
            rintro e w' ⟨rfl, hk⟩
            rw [e9, decide_eq_true rfl]
            exact ⟨rfl, hk⟩)
          go_wp2_with fail
          refine (HIN.out).mono ?_
          rintro e g10 ⟨rfl, hk⟩
          have HK10 := Lib.hid hk
          clear hk 
          go_wp2_with fail
          refine (HMS.out _).mono ?_
          rintro e g11 ⟨rfl, hk⟩
          have HK11 := Lib.hid hk
          clear hk 
          go_wp2_with fail
          go_ret
          exact ⟨rfl, (HK0.out.trans ((((((((((HK1.out.trans HK2.out).trans HK3.out).trans HK4.out).trans HK5.out).trans HK6.out).trans HK7.out).trans HK8.out).trans HK9.out).trans HK10.out).trans HK11.out))⟩
  · have hcb0 : ((c : Int) == 0) = false := beq_eq_false_iff_ne.2 (by omega)
    have hcn0 : ((c : Int) != 0) = true := by rw [bne, hcb0]; rfl
    have hcc : ((c : Int) == (c : Int)) = true := beq_self_eq_true _
    obtain ⟨u, hu⟩ : ∃ u, u = errV c := ⟨_, rfl⟩
    have HLS : Hid (∀ w, Kept W w → Calls Try.prog 21 #[.agg #[.slice a n cp, .int .i64 r]] w fun e w' => (∃ b q, e = .returned (.tuple #[.slice b 0 q, u])) ∧ Kept w w') := Lib.hid fun w hk => by
      refine (zList_any _ c F w (HZI.out w hk)).mono ?_
      rintro e w' ⟨⟨v', L', rfl, h1, _, h3⟩, hk2⟩
      have e0 : zlE c (zcard F) = c := by unfold zlE; rw [if_neg hc0]
      rw [e0] at h3 ⊢
      have := h3 hc0
      subst this
      obtain ⟨b, q, rfl, _⟩ := h1
      exact ⟨⟨b, q, by rw [hu]; rfl⟩, hk2⟩
    have HHS : Hid (∀ w, Kept W w → Calls Try.prog 26 #[.agg #[.slice a n cp, .int .i64 r], .int .i64 set] w fun e w' => e = .returned (.tuple #[.bool false, u]) ∧ Kept w w') := Lib.hid fun w hk => by
      refine (zHas_any _ c F set w (HZI.out w hk)).mono ?_
      rintro e w' ⟨rfl, hk2⟩
      rw [if_neg hc0, decide_eq_false hc0, hu]
      exact ⟨rfl, hk2⟩
    have HCN : Hid (∀ w, Kept W w → Calls Try.prog 32 #[.agg #[.slice a n cp, .int .i64 r]] w fun e w' => e = .returned (.tuple #[.int .i64 0, u]) ∧ Kept w w') := Lib.hid fun w hk => by
      refine (zCount_any _ c F w (HZI.out w hk)).mono ?_
      rintro e w' ⟨rfl, hk2⟩
      rw [if_neg hc0, hu]
      exact ⟨rfl, hk2⟩
    have HNM : Hid (∀ w, Calls Try.prog 13 #[u] w fun e w' => e = .returned (.int .i64 (c : Nat)) ∧ Kept w w') := Lib.hid fun w => by rw [hu]; exact num_ok c w (by omega)
    clear hu hc0 hbig
    rcases hcases with hh | ⟨hh1, hh2⟩
    all_goals
      go_wp2_with fail
      refine (HLS.out _ (HK0.out.trans HK1.out)).mono ?_
      rintro e g2 ⟨⟨bq, cq, rfl⟩, hk⟩
      have HK2 := Lib.hid hk
      clear hk 
      clear x0 x1
      have x0 := (HK1.out.trans HK2.out).cell HX.out.1
      have x1 := (HK1.out.trans HK2.out).cell HX.out.2
      go_wp2_with fail
      refine (HHS.out _ (HK0.out.trans (HK1.out.trans HK2.out))).mono ?_
      rintro e g3 ⟨rfl, hk⟩
      have HK3 := Lib.hid hk
      clear hk 
      clear x0 x1
      have x0 := ((HK1.out.trans HK2.out).trans HK3.out).cell HX.out.1
      have x1 := ((HK1.out.trans HK2.out).trans HK3.out).cell HX.out.2
      go_wp2_with fail
      refine (HCN.out _ (HK0.out.trans ((HK1.out.trans HK2.out).trans HK3.out))).mono ?_
      rintro e g4 ⟨rfl, hk⟩
      have HK4 := Lib.hid hk
      clear hk 
      clear x0 x1
      have x0 := (((HK1.out.trans HK2.out).trans HK3.out).trans HK4.out).cell HX.out.1
      have x1 := (((HK1.out.trans HK2.out).trans HK3.out).trans HK4.out).cell HX.out.2
      go_wp2_with fail
      refine (HCH.out _ (HK0.out.trans (((HK1.out.trans HK2.out).trans HK3.out).trans HK4.out))).mono ?_
      rintro e g5 ⟨rfl, hk⟩
      have HK5 := Lib.hid hk
      clear hk 
      clear x0 x1
      have x0 := ((((HK1.out.trans HK2.out).trans HK3.out).trans HK4.out).trans HK5.out).cell HX.out.1
      have x1 := ((((HK1.out.trans HK2.out).trans HK3.out).trans HK4.out).trans HK5.out).cell HX.out.2
      go_wp2_with fail
      refine (HNM.out _).mono ?_
      rintro e g6 ⟨rfl, hk⟩
      have HK6 := Lib.hid hk
      clear hk 
      go_wp2_with fail
      refine (HNM.out _).mono ?_
      rintro e g7 ⟨rfl, hk⟩
      have HK7 := Lib.hid hk
      clear hk 
      go_wp2_with fail
      refine (HNM.out _).mono ?_
      rintro e g8 ⟨rfl, hk⟩
      have HK8 := Lib.hid hk
      clear hk 
      go_wp2_with fail
      go_ret
      exact ⟨rfl, (HK0.out.trans (((((((HK1.out.trans HK2.out).trans HK3.out).trans HK4.out).trans HK5.out).trans HK6.out).trans HK7.out).trans HK8.out))⟩
end Go.Proofs.Ytiplibgnfcdlkaa
