import Derived.Test.YtiplibgnfcdlkaaQZH5
import Derived.Test.YtiplibgnfcdlkaaQZG9
/-
  Walk: the law ZeroPicks. Printed by gen_ZH6.py.
-/
namespace Go.Proofs.Ytiplibgnfcdlkaa
open Go.RowKit

theorem ZOut.any {w : World} {e : Ending} {c : Nat} {F : Nat → Bool} (h : ZOut w e c F) : ∃ a n k x, e = .returned (.tuple #[.agg #[.slice a n k, .int .i64 x], errV c]) ∧ ZDia w (.agg #[.slice a n k, .int .i64 x]) (if c = 0 then F else zno) := by
  obtain ⟨v, rfl, hd⟩ := h
  obtain ⟨s, rfl, h2⟩ := id hd
  obtain ⟨a, cp, rfl⟩ := h2.shape
  exact ⟨_, _, _, _, rfl, hd⟩
theorem zfv_sub {F G : Nat → Bool} (hF : ZFrom 0 F) (hc : zcard F ≤ 60) (h : ∀ s, G s = true → F s = true) : ZFrom 0 G ∧ (zcan G).1.length ≤ 4096 := by
  have hG : ZFrom 0 G := fun s hs => hF s (h s hs)
  have h1 := zcard_mono hG hF h
  have h2 := zcan_len2 hG
  exact ⟨hG, by omega⟩
set_option maxRecDepth 100000 in
set_option maxHeartbeats 16000000 in
theorem zeroPicks_true (v : Value) (L : List INode) (ra : Int) (kk ii : Int) (W : World) (h : ZeroAt W v L ra) :
    Calls Try.prog 8 #[v, .int .i64 kk, .int .i64 ii] W fun e w' => e = .returned (.bool true) ∧ Kept W w' := by
  obtain ⟨F, hF⟩ := h.zin
  obtain ⟨c, hc⟩ : ∃ c, c = zchk L ra := ⟨_, rfl⟩
  rw [← hc] at hF
  have hcb : c ≤ 100 := by rw [hc]; exact zchk_small L ra
  obtain ⟨a, n, cp, r, rfl⟩ := hF.shape
  have hza : ZeroAt W (.agg #[.slice a n cp, .int .i64 r]) L r := by
    obtain ⟨s, e, hd⟩ := id h
    cases e
    exact ⟨_, rfl, hd⟩
  have hcr : c = zchk L r := by
    obtain ⟨s, e, hd⟩ := id h
    cases e
    exact hc
  obtain ⟨g0, hg0⟩ : ∃ w1, w1 = W.alloc (.cells #[.slice a n cp, .int .i64 r] 24) := ⟨_, rfl⟩
  have hk0 : Kept W g0 := by rw [hg0]; exact (Kept.refl _).alloc _
  have hx0 : RowAt g0 W.heap.size 24 [.slice a n cp, .int .i64 r] := by rw [hg0]; exact RowAt.made W #[.slice a n cp, .int .i64 r] 24
  have x0 := hx0.cell (i := 0) (by simp)
  have x1 := hx0.cell (i := 1) (by simp)
  simp only [List.getElem_cons_succ, List.getElem_cons_zero] at x0 x1
  have HK0 := Lib.hid hk0
  have HG0 := Lib.hid hg0
  have HX := Lib.hid (And.intro x0 x1)
  have HFI := Lib.hid hF
  have HLG := Lib.hid fun w (hk : Kept W w) => large_any _ c F w (hF.kept hk)
  have HRC : Hid (∀ w, Kept W w → Calls Try.prog 15 #[.agg #[.slice a n cp, .int .i64 r]] w fun e w' => e = .returned (.int .i64 (c : Nat)) ∧ Kept w w') := Lib.hid fun w hk => by rw [hcr]; exact zrchk_any _ L r w (hza.kept hk)
  clear h hc hg0 hk0 hF hx0 hza hcr
  go_enter Try.func8, Try.ntmps8
  go_upto_region 1 with fail
  rw [← HG0.out]
  clear x0 x1
  go_wp2_with fail
  refine (awake18 _).mono ?_
  rintro e g1 ⟨rfl, hk1⟩
  have HK1 := Lib.hid hk1
  have x0 := hk1.cell HX.out.1
  have x1 := hk1.cell HX.out.2
  clear hk1
  go_wp2_with fail
  refine (HLG.out _ (HK0.out.trans HK1.out)).mono ?_
  rintro e g2 ⟨⟨bo, rfl, hb⟩, hk2⟩
  have HK2 := Lib.hid hk2
  have HBO := Lib.hid hb
  clear hk2 hb x0 x1
  cases bo with
  | true =>
    go_wp2_with fail
    refine (awake18 _).mono ?_
    rintro e g3 ⟨rfl, hk3⟩
    have HK3 := Lib.hid hk3
    clear hk3
    go_wp2_with fail
    go_ret
    exact ⟨rfl, ((HK0.out.trans HK1.out).trans HK2.out).trans HK3.out⟩
  | false =>
    obtain ⟨cU, hcU⟩ : ∃ cU, cU = if c = 0 then (if kk < 0 ∨ 24 < kk then 3 else 0) else c := ⟨_, rfl⟩
    obtain ⟨cW, hcW⟩ : ∃ cW, cW = if c = 0 then (if ii < 0 ∨ 24 ≤ ii then 10 else 0) else c := ⟨_, rfl⟩
    obtain ⟨F1, hF1⟩ : ∃ F1, F1 = if c = 0 then zmin F else zno := ⟨_, rfl⟩
    obtain ⟨F2, hF2⟩ : ∃ F2, F2 = if cU = 0 then zupto F kk else zno := ⟨_, rfl⟩
    obtain ⟨F3, hF3⟩ : ∃ F3, F3 = if cW = 0 then zwith F ii.toNat else zno := ⟨_, rfl⟩
    obtain ⟨u1, hu1⟩ : ∃ u, u = errV c := ⟨_, rfl⟩
    obtain ⟨u2, hu2⟩ : ∃ u, u = errV cU := ⟨_, rfl⟩
    obtain ⟨u3, hu3⟩ : ∃ u, u = errV cW := ⟨_, rfl⟩
    have HM1 : Hid (∀ w, Kept W w → Calls Try.prog 20 #[.agg #[.slice a n cp, .int .i64 r]] w fun e w' => (∃ a n c x, e = .returned (.tuple #[.agg #[.slice a n c, .int .i64 x], u1]) ∧ ZDia w' (.agg #[.slice a n c, .int .i64 x]) F1) ∧ Kept w w') := Lib.hid fun w hk => by
      rw [hu1, hF1]
      exact (zMinimal_any _ c F w (HFI.out.kept hk) (fun h0 => (zfv_sub (HFI.out.from h0) (HBO.out rfl h0) fun s hs => (zmin_iff.1 hs).1).2)).mono fun e w' ⟨h1, h2⟩ => ⟨h1.any, h2⟩
    have HM2 : Hid (∀ w, Kept W w → Calls Try.prog 35 #[.agg #[.slice a n cp, .int .i64 r], .int .i64 kk] w fun e w' => (∃ a n c x, e = .returned (.tuple #[.agg #[.slice a n c, .int .i64 x], u2]) ∧ ZDia w' (.agg #[.slice a n c, .int .i64 x]) F2) ∧ Kept w w') := Lib.hid fun w hk => by
      rw [hu2, hF2, hcU]
      exact (zUpTo_any _ c F kk w (HFI.out.kept hk) (fun h0 _ _ => (zfv_sub (HFI.out.from h0) (HBO.out rfl h0) fun s hs => (Bool.and_eq_true_iff.1 hs).1).2)).mono fun e w' ⟨h1, h2⟩ => ⟨h1.any, h2⟩
    have HM3 : Hid (∀ w, Kept W w → Calls Try.prog 36 #[.agg #[.slice a n cp, .int .i64 r], .int .i64 ii] w fun e w' => (∃ a n c x, e = .returned (.tuple #[.agg #[.slice a n c, .int .i64 x], u3]) ∧ ZDia w' (.agg #[.slice a n c, .int .i64 x]) F3) ∧ Kept w w') := Lib.hid fun w hk => by
      rw [hu3, hF3, hcW]
      exact (zWith_any _ c F ii w (HFI.out.kept hk) (fun h0 _ _ => (zfv_sub (HFI.out.from h0) (HBO.out rfl h0) fun s hs => (Bool.and_eq_true_iff.1 hs).1).2)).mono fun e w' ⟨h1, h2⟩ => ⟨h1.any, h2⟩
    have HBZ := Lib.hid (HBO.out rfl)
    clear HBO
    have HC2 := Lib.hid (And.intro hcU hcW)
    have HFS := Lib.hid (And.intro hF1 (And.intro hF2 hF3))
    have HUS := Lib.hid (And.intro hu1 (And.intro hu2 hu3))
    clear hcU hcW hF1 hF2 hF3 hu1 hu2 hu3
    have x0 := (HK1.out.trans HK2.out).cell HX.out.1
    have x1 := (HK1.out.trans HK2.out).cell HX.out.2
    go_wp2_with fail
    refine (HM1.out _ (HK0.out.trans (HK1.out.trans HK2.out))).mono ?_
    rintro e g3x ⟨⟨a3, n3, c3, x3, rfl, hd⟩, hk⟩
    obtain ⟨g3, hg⟩ : ∃ g, g = g3x.alloc (.cells #[.slice a3 n3 c3, .int .i64 x3] 24) := ⟨_, rfl⟩
    obtain ⟨hb, hk2⟩ := ZBox.made hd hg
    have HG3 := Lib.hid hg
    have HBm := Lib.hid hb
    have HK3 := Lib.hid (hk.trans hk2)
    clear hg hb hk hk2 hd 
    go_upto_region 4 with fail
    rw [← HG3.out]
    clear x0 x1
    have x0 := ((HK1.out.trans HK2.out).trans HK3.out).cell HX.out.1
    have x1 := ((HK1.out.trans HK2.out).trans HK3.out).cell HX.out.2
    go_wp2_with fail
    refine (HM2.out _ (HK0.out.trans ((HK1.out.trans HK2.out).trans HK3.out))).mono ?_
    rintro e g4x ⟨⟨a4, n4, c4, x4, rfl, hd⟩, hk⟩
    obtain ⟨g4, hg⟩ : ∃ g, g = g4x.alloc (.cells #[.slice a4 n4 c4, .int .i64 x4] 24) := ⟨_, rfl⟩
    obtain ⟨hb, hk2⟩ := ZBox.made hd hg
    have HG4 := Lib.hid hg
    have HBu := Lib.hid hb
    have HK4 := Lib.hid (hk.trans hk2)
    clear hg hb hk hk2 hd 
    go_upto_region 5 with fail
    rw [← HG4.out]
    clear x0 x1
    have x0 := (((HK1.out.trans HK2.out).trans HK3.out).trans HK4.out).cell HX.out.1
    have x1 := (((HK1.out.trans HK2.out).trans HK3.out).trans HK4.out).cell HX.out.2
    go_wp2_with fail
    refine (HM3.out _ (HK0.out.trans (((HK1.out.trans HK2.out).trans HK3.out).trans HK4.out))).mono ?_
    rintro e g5x ⟨⟨a5, n5, c5, x5, rfl, hd⟩, hk⟩
    obtain ⟨g5, hg⟩ : ∃ g, g = g5x.alloc (.cells #[.slice a5 n5 c5, .int .i64 x5] 24) := ⟨_, rfl⟩
    obtain ⟨hb, hk2⟩ := ZBox.made hd hg
    have HG5 := Lib.hid hg
    have HBw := Lib.hid hb
    have HK5 := Lib.hid (hk.trans hk2)
    clear hg hb hk hk2 hd 
    go_upto_region 6 with fail
    rw [← HG5.out]
    clear x0 x1
    have x0 := ((((HK1.out.trans HK2.out).trans HK3.out).trans HK4.out).trans HK5.out).cell HX.out.1
    have x1 := ((((HK1.out.trans HK2.out).trans HK3.out).trans HK4.out).trans HK5.out).cell HX.out.2
    go_wp2_with fail
    refine (HRC.out _ (HK0.out.trans ((((HK1.out.trans HK2.out).trans HK3.out).trans HK4.out).trans HK5.out))).mono ?_
    rintro e g6 ⟨rfl, hk⟩
    have HK6 := Lib.hid hk
    clear hk 
    clear x0 x1
    by_cases hc0 : c ≠ 0
    · have hqb : ((c : Int) == 0) = false := beq_eq_false_iff_ne.2 (by omega)
      have hqn : ((c : Int) != 0) = true := by rw [bne, hqb]; rfl
      have HNO : Hid (∀ w v u, ZDia w v zno → u = errV c → Calls Try.prog 17 #[v, u, .int .i64 (c : Nat)] w fun e w' => e = .returned (.bool true) ∧ Kept w w') := Lib.hid fun w v u hv hu => by rw [hu]; exact none_true v c w hv (by omega)
      have e2 : cU = c := by rw [HC2.out.1, if_neg hc0]
      have e3 : cW = c := by rw [HC2.out.2, if_neg hc0]
      have f1 : F1 = zno := by rw [HFS.out.1, if_neg hc0]
      have f2 : F2 = zno := by rw [HFS.out.2.1, e2, if_neg hc0]
      have f3 : F3 = zno := by rw [HFS.out.2.2, e3, if_neg hc0]
      have HU : Hid (u1 = errV c ∧ u2 = errV c ∧ u3 = errV c) := Lib.hid ⟨HUS.out.1, by rw [HUS.out.2.1, e2], by rw [HUS.out.2.2, e3]⟩
      subst f1
      subst f2
      subst f3
      clear e2 e3
      have q1 := ((HK4.out.trans HK5.out).trans HK6.out).cell HBm.out.c0
      have q2 := ((HK4.out.trans HK5.out).trans HK6.out).cell HBm.out.c1
      go_wp2_with fail
      refine (HNO.out _ _ _ (HBm.out.dia.kept ((HK4.out.trans HK5.out).trans HK6.out)) HU.out.1).mono ?_
      rintro e g7 ⟨rfl, hk⟩
      have HK7 := Lib.hid hk
      clear hk 
      clear q1 q2
      have q3 := ((HK5.out.trans HK6.out).trans HK7.out).cell HBu.out.c0
      have q4 := ((HK5.out.trans HK6.out).trans HK7.out).cell HBu.out.c1
      go_wp2_with fail
      refine (HNO.out _ _ _ (HBu.out.dia.kept ((HK5.out.trans HK6.out).trans HK7.out)) HU.out.2.1).mono ?_
      rintro e g8 ⟨rfl, hk⟩
      have HK8 := Lib.hid hk
      clear hk 
      clear q3 q4
      have q5 := ((HK6.out.trans HK7.out).trans HK8.out).cell HBw.out.c0
      have q6 := ((HK6.out.trans HK7.out).trans HK8.out).cell HBw.out.c1
      go_wp2_with fail
      refine (HNO.out _ _ _ (HBw.out.dia.kept ((HK6.out.trans HK7.out).trans HK8.out)) HU.out.2.2).mono ?_
      rintro e g9 ⟨rfl, hk⟩
      have HK9 := Lib.hid hk
      clear hk 
      clear q5 q6
      go_wp2_with fail
      go_ret
      exact ⟨rfl, (HK0.out.trans ((((((((HK1.out.trans HK2.out).trans HK3.out).trans HK4.out).trans HK5.out).trans HK6.out).trans HK7.out).trans HK8.out).trans HK9.out))⟩
    obtain rfl : c = 0 := Classical.not_not.1 hc0
    clear hc0
    have hFf := HFI.out.from rfl
    have hcF := HBZ.out rfl
    have hd := fun w (hk : Kept W w) => (HFI.out.kept hk).dia rfl
    have HRL : Hid (∀ w, Kept W w → Calls Try.prog 34 #[.agg #[.slice a n cp, .int .i64 r]] w fun e w' => (∃ v' L, e = .returned v' ∧ IntsAt w' v' (natI L) ∧ ZSorted F L) ∧ Kept w w') := Lib.hid fun w hk => rlist_any _ F w (hd w hk) hFf (HFI.out.len rfl) (by omega)
    have HLB : Hid (∀ L, ZSorted F L → L.length ≤ 60 ∧ ∀ x ∈ L, x < 16777216) := Lib.hid fun l hl => ⟨by rw [zcard_list hFf (zsorted_nodup hl) hl.mem]; exact hcF, fun x hx => zbits_lt fun j hj => (hFf x ((hl.mem x).1 hx) j hj).2⟩
    have HIA : Hid (∀ L P G w lv v, ZSorted F L → zin (L.filter P) = G → ZDia w v G → IntsAt w lv (natI (L.filter P)) → Calls Try.prog 18 #[v, .nilIface, lv] w fun e w' => e = .returned (.bool true) ∧ Kept w w') := Lib.hid fun L P G w lv v hL hG hv hi => by
      have hb := HLB.out L hL
      refine is_true_any v lv G (L.filter P) w hv hi (fun x hx => hb.2 x (List.mem_filter.1 hx).1) (Nat.le_trans (List.length_filter_le _ _) (by omega)) hG ?_
      intro s hs
      rw [← hG, zin_filter] at hs
      have h1 := (Bool.and_eq_true_iff.1 hs).1
      rw [zin_sorted hL] at h1
      exact hFf s h1
    have eu1 : u1 = .nilIface := by rw [HUS.out.1]; rfl
    have ef1 : F1 = zmin F := by rw [HFS.out.1, if_pos rfl]
    subst eu1
    subst ef1
    clear hFf hcF hd
    have hkc : kk < 0 ∨ (¬ kk < 0 ∧ 24 < kk) ∨ (¬ kk < 0 ∧ ¬ 24 < kk) := by omega
    have hic : ii < 0 ∨ (¬ ii < 0 ∧ 24 ≤ ii) ∨ (¬ ii < 0 ∧ ¬ 24 ≤ ii) := by omega
    have HKC : Hid ((kk < 0 ∨ 24 < kk) → cU = 3) := Lib.hid fun h => by rw [HC2.out.1, if_pos rfl, if_pos h]
    have HKO : Hid (¬ (kk < 0 ∨ 24 < kk) → cU = 0) := Lib.hid fun h => by rw [HC2.out.1, if_pos rfl, if_neg h]
    have HIC : Hid ((ii < 0 ∨ 24 ≤ ii) → cW = 10) := Lib.hid fun h => by rw [HC2.out.2, if_pos rfl, if_pos h]
    have HIO : Hid (¬ (ii < 0 ∨ 24 ≤ ii) → cW = 0) := Lib.hid fun h => by rw [HC2.out.2, if_pos rfl, if_neg h]
    clear hkc hic
    have x0 := (((((HK1.out.trans HK2.out).trans HK3.out).trans HK4.out).trans HK5.out).trans HK6.out).cell HX.out.1
    have x1 := (((((HK1.out.trans HK2.out).trans HK3.out).trans HK4.out).trans HK5.out).trans HK6.out).cell HX.out.2
    go_wp2_with fail
    refine (HRL.out _ (HK0.out.trans (((((HK1.out.trans HK2.out).trans HK3.out).trans HK4.out).trans HK5.out).trans HK6.out))).mono ?_
    rintro e g7 ⟨⟨vL, LL, rfl, hi, hs⟩, hk⟩
    have HK7 := Lib.hid hk
    have HIL := Lib.hid hi
    have HSL := Lib.hid hs
    clear hk hi hs
    clear x0 x1
    have HBM := Lib.hid (HBm.out.kept (((HK4.out.trans HK5.out).trans HK6.out).trans HK7.out))
    have HBU := Lib.hid (HBu.out.kept ((HK5.out.trans HK6.out).trans HK7.out))
    have HBW := Lib.hid (HBw.out.kept (HK6.out.trans HK7.out))
    have HKG := Lib.hid (HK0.out.trans ((((((HK1.out.trans HK2.out).trans HK3.out).trans HK4.out).trans HK5.out).trans HK6.out).trans HK7.out))
    go_upto_region 10 with fail
    have HKD := Lib.hid (Kept.refl g7).drew
    have y0 := HKD.out.cell HBM.out.c0
    have y1 := HKD.out.cell HBM.out.c1
    have HRM : Hid (∀ w, Kept g7 w → Calls Try.prog 37 #[vL] w (RetL (LL.filter (minP LL)) w)) := Lib.hid fun w hk => rMinimal_any vL LL w (HIL.out.kept hk) (HLB.out LL HSL.out).2 (by have := (HLB.out LL HSL.out).1; omega)
    go_region_with (first
      | (go_at_call 37; (with_reducible refine (HRM.out _ HKD.out).mono ?_); rintro e w9 ⟨⟨v9, rfl, hi9⟩, hk9⟩; have HKD := Lib.hid (HKD.out.trans hk9); have HI9 := Lib.hid hi9; have y0 := hk9.cell y0; have y1 := hk9.cell y1; clear hk9 hi9)
      | (go_at_call 18; (with_reducible refine (HIA.out LL (minP LL) (zmin F) _ _ _ HSL.out (zmin_list HSL.out) (HBM.out.kept HKD.out).dia HI9.out).mono ?_); rintro e w9 ⟨rfl, hk9⟩; have HKD := Lib.hid (HKD.out.trans hk9); clear hk9))
    all_goals
      clear y0 y1
      have y0 := HKD.out.cell HBU.out.c0
      have y1 := HKD.out.cell HBU.out.c1
      by_cases hkb : kk < 0 ∨ 24 < kk
      · have eu2 : u2 = .iface 56 (.int .i64 3) := by rw [HUS.out.2.1, HKC.out hkb]; rfl
        have ef2 : F2 = zno := by rw [HFS.out.2.1, HKC.out hkb]; rfl
        subst eu2
        subst ef2
        have HN3 : Hid (∀ w v, ZDia w v zno → Calls Try.prog 17 #[v, .iface 56 (.int .i64 3), .int .i64 3] w fun e w' => e = .returned (.bool true) ∧ Kept w w') := Lib.hid fun w v hv => none_true v 3 w hv (by decide)
        have hkc : kk < 0 ∨ (¬ kk < 0 ∧ 24 < kk) := by omega
        clear hkb
        rcases hkc with hh | ⟨hh1, hh2⟩
        all_goals
          go_wp2_with fail
          refine (HN3.out _ _ (HBU.out.kept HKD.out).dia).mono ?_
          rintro e w9 ⟨rfl, hk9⟩
          have HKD := Lib.hid (HKD.out.trans hk9)
          clear hk9 y0 y1
          have y0 := HKD.out.cell HBW.out.c0
          have y1 := HKD.out.cell HBW.out.c1
          by_cases hib : ii < 0 ∨ 24 ≤ ii
          · have eu3 : u3 = .iface 56 (.int .i64 10) := by rw [HUS.out.2.2, HIC.out hib]; rfl
            have ef3 : F3 = zno := by rw [HFS.out.2.2, HIC.out hib]; rfl
            subst eu3
            subst ef3
            have HN10 : Hid (∀ w v, ZDia w v zno → Calls Try.prog 17 #[v, .iface 56 (.int .i64 10), .int .i64 10] w fun e w' => e = .returned (.bool true) ∧ Kept w w') := Lib.hid fun w v hv => none_true v 10 w hv (by decide)
            have hkc : ii < 0 ∨ (¬ ii < 0 ∧ 24 ≤ ii) := by omega
            clear hib
            rcases hkc with hj | ⟨hj1, hj2⟩
            all_goals
              go_wp2_with fail
              refine (HN10.out _ _ (HBW.out.kept HKD.out).dia).mono ?_
              rintro e w9 ⟨rfl, hk9⟩
              have HKD := Lib.hid (HKD.out.trans hk9)
              clear hk9 y0 y1
              go_wp2_with fail
              go_ret
              exact ⟨rfl, HKG.out.trans HKD.out⟩
          · have eu3 : u3 = .nilIface := by rw [HUS.out.2.2, HIO.out hib]; rfl
            have ef3 : F3 = zwith F ii.toNat := by rw [HFS.out.2.2, HIO.out hib]; rfl
            subst eu3
            obtain ⟨i9, hi9⟩ : ∃ i9 : Nat, ii = (i9 : Int) := ⟨ii.toNat, by omega⟩
            have hi24 : i9 < 24 := by omega
            have hj1 : ¬ ii < 0 := by omega
            have hj2 : ¬ 24 ≤ ii := by omega
            rw [hi9, Int.toNat_natCast] at ef3
            subst ef3
            have HI9E := Lib.hid hi9
            clear hib y0 y1 hi9
            go_upto_region 19 with fail
            have HKF := Lib.hid HKD.out.drew
            have y0 := HKF.out.cell HBW.out.c0
            have y1 := HKF.out.cell HBW.out.c1
            have HRW : Hid (∀ w, Kept g7 w → Calls Try.prog 39 #[vL, .int .i64 ii] w (RetL (LL.filter (fun s => s.testBit i9)) w)) := Lib.hid fun w hk => by rw [HI9E.out]; exact rWith_any vL LL i9 hi24 w (HIL.out.kept hk) (HLB.out LL HSL.out).2 (by have := (HLB.out LL HSL.out).1; omega)
            have HEW : Hid (zin (LL.filter (fun s => s.testBit i9)) = zwith F i9) := Lib.hid (by funext s; rw [zin_filter, zin_sorted HSL.out]; rfl)
            go_region_with (first
              | (go_at_call 39; (with_reducible refine (HRW.out _ HKF.out).mono ?_); rintro e w9 ⟨⟨v9, rfl, hi9⟩, hk9⟩; have HKF := Lib.hid (HKF.out.trans hk9); have HI9 := Lib.hid hi9; have y0 := hk9.cell y0; have y1 := hk9.cell y1; clear hk9 hi9)
              | (go_at_call 18; (with_reducible refine (HIA.out LL _ (zwith F i9) _ _ _ HSL.out HEW.out (HBW.out.kept HKF.out).dia HI9.out).mono ?_); rintro e w9 ⟨rfl, hk9⟩; have HKF := Lib.hid (HKF.out.trans hk9); clear hk9))
            all_goals
              go_wp2_with fail
              go_ret
              exact ⟨rfl, HKG.out.trans HKF.out⟩
      · have eu2 : u2 = .nilIface := by rw [HUS.out.2.1, HKO.out hkb]; rfl
        have ef2 : F2 = zupto F kk := by rw [HFS.out.2.1, HKO.out hkb]; rfl
        subst eu2
        subst ef2
        have hk1 : ¬ kk < 0 := by omega
        have hk2 : ¬ 24 < kk := by omega
        clear hkb y0 y1
        go_upto_region 15 with fail
        have HKE := Lib.hid HKD.out.drew
        have y0 := HKE.out.cell HBU.out.c0
        have y1 := HKE.out.cell HBU.out.c1
        have HRU : Hid (∀ w, Kept g7 w → Calls Try.prog 38 #[vL, .int .i64 kk] w (RetL (LL.filter (fun s => decide ((pc s : Int) ≤ kk))) w)) := Lib.hid fun w hk => rUpTo_any vL LL kk w (HIL.out.kept hk) (HLB.out LL HSL.out).2 (by have := (HLB.out LL HSL.out).1; omega)
        have HEU : Hid (zin (LL.filter (fun s => decide ((pc s : Int) ≤ kk))) = zupto F kk) := Lib.hid (by funext s; rw [zin_filter, zin_sorted HSL.out]; rfl)
        go_region_with (first
          | (go_at_call 38; (with_reducible refine (HRU.out _ HKE.out).mono ?_); rintro e w9 ⟨⟨v9, rfl, hi9⟩, hk9⟩; have HKE := Lib.hid (HKE.out.trans hk9); have HI9 := Lib.hid hi9; have y0 := hk9.cell y0; have y1 := hk9.cell y1; clear hk9 hi9)
          | (go_at_call 18; (with_reducible refine (HIA.out LL _ (zupto F kk) _ _ _ HSL.out HEU.out (HBU.out.kept HKE.out).dia HI9.out).mono ?_); rintro e w9 ⟨rfl, hk9⟩; have HKE := Lib.hid (HKE.out.trans hk9); clear hk9))
        all_goals
          clear y0 y1
          have HKD := HKE
          have y0 := HKD.out.cell HBW.out.c0
          have y1 := HKD.out.cell HBW.out.c1
          by_cases hib : ii < 0 ∨ 24 ≤ ii
          · have eu3 : u3 = .iface 56 (.int .i64 10) := by rw [HUS.out.2.2, HIC.out hib]; rfl
            have ef3 : F3 = zno := by rw [HFS.out.2.2, HIC.out hib]; rfl
            subst eu3
            subst ef3
            have HN10 : Hid (∀ w v, ZDia w v zno → Calls Try.prog 17 #[v, .iface 56 (.int .i64 10), .int .i64 10] w fun e w' => e = .returned (.bool true) ∧ Kept w w') := Lib.hid fun w v hv => none_true v 10 w hv (by decide)
            have hkc : ii < 0 ∨ (¬ ii < 0 ∧ 24 ≤ ii) := by omega
            clear hib
            rcases hkc with hj | ⟨hj1, hj2⟩
            all_goals
              go_wp2_with fail
              refine (HN10.out _ _ (HBW.out.kept HKD.out).dia).mono ?_
              rintro e w9 ⟨rfl, hk9⟩
              have HKD := Lib.hid (HKD.out.trans hk9)
              clear hk9 y0 y1
              go_wp2_with fail
              go_ret
              exact ⟨rfl, HKG.out.trans HKD.out⟩
          · have eu3 : u3 = .nilIface := by rw [HUS.out.2.2, HIO.out hib]; rfl
            have ef3 : F3 = zwith F ii.toNat := by rw [HFS.out.2.2, HIO.out hib]; rfl
            subst eu3
            obtain ⟨i9, hi9⟩ : ∃ i9 : Nat, ii = (i9 : Int) := ⟨ii.toNat, by omega⟩
            have hi24 : i9 < 24 := by omega
            have hj1 : ¬ ii < 0 := by omega
            have hj2 : ¬ 24 ≤ ii := by omega
            rw [hi9, Int.toNat_natCast] at ef3
            subst ef3
            have HI9E := Lib.hid hi9
            clear hib y0 y1 hi9
            go_upto_region 19 with fail
            have HKF := Lib.hid HKD.out.drew
            have y0 := HKF.out.cell HBW.out.c0
            have y1 := HKF.out.cell HBW.out.c1
            have HRW : Hid (∀ w, Kept g7 w → Calls Try.prog 39 #[vL, .int .i64 ii] w (RetL (LL.filter (fun s => s.testBit i9)) w)) := Lib.hid fun w hk => by rw [HI9E.out]; exact rWith_any vL LL i9 hi24 w (HIL.out.kept hk) (HLB.out LL HSL.out).2 (by have := (HLB.out LL HSL.out).1; omega)
            have HEW : Hid (zin (LL.filter (fun s => s.testBit i9)) = zwith F i9) := Lib.hid (by funext s; rw [zin_filter, zin_sorted HSL.out]; rfl)
            go_region_with (first
              | (go_at_call 39; (with_reducible refine (HRW.out _ HKF.out).mono ?_); rintro e w9 ⟨⟨v9, rfl, hi9⟩, hk9⟩; have HKF := Lib.hid (HKF.out.trans hk9); have HI9 := Lib.hid hi9; have y0 := hk9.cell y0; have y1 := hk9.cell y1; clear hk9 hi9)
              | (go_at_call 18; (with_reducible refine (HIA.out LL _ (zwith F i9) _ _ _ HSL.out HEW.out (HBW.out.kept HKF.out).dia HI9.out).mono ?_); rintro e w9 ⟨rfl, hk9⟩; have HKF := Lib.hid (HKF.out.trans hk9); clear hk9))
            all_goals
              go_wp2_with fail
              go_ret
              exact ⟨rfl, HKG.out.trans HKF.out⟩
end Go.Proofs.Ytiplibgnfcdlkaa
