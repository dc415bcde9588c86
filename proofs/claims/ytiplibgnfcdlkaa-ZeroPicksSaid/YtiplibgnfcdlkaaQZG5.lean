import Derived.Test.YtiplibgnfcdlkaaQ33
/-
  Walk: the law ZeroMinimal. Printed by gen_ZG5.py.
-/
namespace Go.Proofs.Ytiplibgnfcdlkaa
open Go.RowKit

theorem sdiff_bit (a b j : Nat) : (sdiff a b).testBit j = (a.testBit j && !b.testBit j) := by
  unfold sdiff
  rw [Nat.testBit_xor, Nat.testBit_and]
  cases a.testBit j <;> cases b.testBit j <;> rfl
theorem sdiff_sub {a b : Nat} : sdiff a b = 0 ↔ zsub a b := by
  constructor
  · intro h j hj
    have := sdiff_bit a b j
    rw [h, Nat.zero_testBit, hj] at this
    cases hb : b.testBit j
    · rw [hb] at this; cases this
    · rfl
  · intro h
    apply Nat.eq_of_testBit_eq
    intro j
    rw [sdiff_bit, Nat.zero_testBit]
    cases ha : a.testBit j
    · rfl
    · rw [h j ha]; rfl
theorem has_any (v : Value) (xs : List Int) (x : Int) (W : World) (h : IntsAt W v xs) : Calls Try.prog 24 #[v, .int .i64 x] W fun e w' => e = .returned (.bool (decide (x ∈ xs))) ∧ W = w' := by
  have HP := Lib.hid (place_any v xs x W h)
  obtain ⟨a, cp, rfl, _⟩ := h
  obtain ⟨n, hn⟩ : ∃ n, n = xs.length := ⟨_, rfl⟩
  rw [← hn] at HP ⊢
  obtain ⟨b, hb⟩ : ∃ b, b = decide (x ∈ xs) := ⟨_, rfl⟩
  rw [← hb]
  have HB := Lib.hid hb
  clear hb hn
  go_enter Try.func24, Try.ntmps24
  go_wp2_with fail
  refine HP.out.mono ?_
  rintro e w' ⟨⟨p, rfl, hp⟩, rfl⟩
  have HE : Hid (decide (0 ≤ p) = b) := Lib.hid (by rw [HB.out]; exact decide_eq_decide.2 hp)
  clear hp
  go_wp2_with fail
  go_ret
  exact ⟨by rw [← HE.out]; rfl, rfl⟩
/-- How many sets of a list are below a set. -/
def cntB (l : List Nat) (x : Nat) : Nat := l.countP fun y => decide (sdiff y x = 0)
theorem cntB_le (l : List Nat) (x : Nat) : cntB l x ≤ l.length := List.countP_le_length
theorem cntB_take {l : List Nat} {k : Nat} (h : k < l.length) (x : Nat) : cntB (l.take (k + 1)) x = cntB (l.take k) x + if sdiff l[k] x = 0 then 1 else 0 := by
  unfold cntB
  rw [List.take_succ_eq_append_getElem h, List.countP_append, List.countP_singleton]
  by_cases e : sdiff l[k] x = 0
  · rw [if_pos e, if_pos (decide_eq_true e)]
  · rw [if_neg e, if_neg (by rw [decide_eq_false e]; decide)]
theorem cntB_pos {G : Nat → Bool} {l : List Nat} (hl : ZSorted (zmin G) l) {x : Nat} (hx : G x = true) : cntB l x ≠ 0 := by
  obtain ⟨m, h1, h2⟩ := zmin_below x hx
  have h3 : 0 < cntB l x := List.countP_pos_iff.2 ⟨m, (hl.mem m).2 h1, by simpa using sdiff_sub.2 h2⟩
  omega
theorem zsorted_nodup {G : Nat → Bool} {l : List Nat} (hl : ZSorted G l) : l.Nodup := hl.ord.imp fun h e => by subst e; exact zlt_irr _ h
theorem cntB_one {G : Nat → Bool} {l : List Nat} (hl : ZSorted (zmin G) l) {x : Nat} (hx : x ∈ l) : cntB l x = 1 := by
  have h1 : cntB l x = l.count x := by
    unfold cntB List.count
    apply List.countP_congr
    intro y hy
    rw [decide_eq_true_iff, beq_iff_eq]
    constructor
    · intro h
      exact (zmin_iff.1 ((hl.mem x).1 hx)).2 y (zmin_iff.1 ((hl.mem y).1 hy)).1 (sdiff_sub.1 h)
    · rintro rfl
      exact sdiff_sub.2 (zsub_refl y)
  rw [h1]
  exact (zsorted_nodup hl).count.trans (if_pos hx)
theorem zwithout_min (F G : Nat → Bool) : zwithout F (zmin G) = zwithout F G := by
  funext s
  rw [Bool.eq_iff_iff, zwithout_iff, zwithout_iff]
  refine and_congr_right fun _ => ⟨fun h u hu hs => ?_, fun h u hu => h u (zmin_iff.1 hu).1⟩
  obtain ⟨m, h1, h2⟩ := zmin_below u hu
  exact h m h1 (zsub_trans h2 hs)
set_option maxRecDepth 100000 in
set_option maxHeartbeats 8000000 in
theorem zeroMinimal_true (v v' : Value) (L L' : List INode) (ra rb : Int) (W : World) (h : ZeroAt W v L ra) (h' : ZeroAt W v' L' rb) :
    Calls Try.prog 4 #[v, v'] W fun e w' => e = .returned (.bool true) ∧ Kept W w' := by
  obtain ⟨F, hF⟩ := h.zin
  obtain ⟨G, hG⟩ := h'.zin
  obtain ⟨c, hc⟩ : ∃ c, c = zchk L ra := ⟨_, rfl⟩
  obtain ⟨d, hd⟩ : ∃ d, d = zchk L' rb := ⟨_, rfl⟩
  rw [← hc] at hF
  rw [← hd] at hG
  obtain ⟨a, n, cp, r, rfl⟩ := hF.shape
  obtain ⟨b, m, cq, s, rfl⟩ := hG.shape
  obtain ⟨g0, hg0⟩ : ∃ w1, w1 = (W.alloc (.cells #[.slice a n cp, .int .i64 r] 24)).alloc (.cells #[.slice b m cq, .int .i64 s] 24) := ⟨_, rfl⟩
  obtain ⟨hk0, ⟨x0, x1⟩, x2, x3⟩ := boxA2 hg0
  have HK0 := Lib.hid hk0
  have HG0 := Lib.hid hg0
  have HX := Lib.hid (And.intro (And.intro x0 x1) (And.intro x2 x3))
  have HFI := Lib.hid hF
  have HGI := Lib.hid hG
  clear h h' hc hd hg0 hk0 hF hG
  go_enter Try.func4, Try.ntmps4
  go_upto_region 1 with fail
  rw [← HG0.out]
  clear x0 x1 x2 x3
  go_wp2_with fail
  refine (awake18 _).mono ?_
  rintro e g1 ⟨rfl, hk1⟩
  have HK1 := Lib.hid hk1
  have x0 := hk1.cell HX.out.1.1
  have x1 := hk1.cell HX.out.1.2
  have x2 := hk1.cell HX.out.2.1
  have x3 := hk1.cell HX.out.2.2
  clear hk1
  go_wp2_with fail
  refine (valid2 HFI.out HGI.out _ (HK0.out.trans HK1.out)).mono ?_
  rintro e g2 ⟨⟨bo, rfl, hb⟩, hk2⟩
  have HK2 := Lib.hid hk2
  have HBO := Lib.hid hb
  clear hk2 hb x0 x1 x2 x3
  cases bo with
  | false =>
    go_wp2_with fail
    refine (awake18 _).mono ?_
    rintro e g3 ⟨rfl, hk3⟩
    have HK3 := Lib.hid hk3
    clear hk3
    go_wp2_with fail
    go_ret
    exact ⟨rfl, ((HK0.out.trans HK1.out).trans HK2.out).trans HK3.out⟩
  | true =>
    obtain ⟨⟨rfl, hcF⟩, rfl, hcG⟩ := HBO.out rfl
    have hFv := HFI.out.fv
    have hGv := HGI.out.fv
    have hFf := hFv.frm
    have hGf := hGv.frm
    have HBa : Hid (ZBox g0 W.heap.size a n cp r F) := Lib.hid ⟨HX.out.1.1, HX.out.1.2, (HFI.out.dia rfl).kept HK0.out⟩
    have HBb : Hid (ZBox g0 (W.heap.size + 1) b m cq s G) := Lib.hid ⟨HX.out.2.1, HX.out.2.2, (HGI.out.dia rfl).kept HK0.out⟩
    obtain ⟨M, hM⟩ : ∃ M : Nat → Bool, M = zmin G := ⟨_, rfl⟩
    obtain ⟨X, hX⟩ : ∃ M : Nat → Bool, M = zwithout F G := ⟨_, rfl⟩
    have hXM : zwithout F M = X := by rw [hM, hX]; exact zwithout_min F G
    have hMf : ZFrom 0 M := by rw [hM]; exact zmin_from hGf
    have hXf : ZFrom 0 X := by rw [hX]; exact zfrom_without hFf
    have hMc : zcard M ≤ 60 := Nat.le_trans (zcard_mono hMf hGf fun s hs => by rw [hM] at hs; exact (zmin_iff.1 hs).1) hcG
    have hXc : zcard X ≤ 60 := Nat.le_trans (zcard_mono hXf hFf fun s hs => by rw [hX] at hs; exact (zwithout_iff.1 hs).1) hcF
    have hMv : ZFv M := .of hMf (by omega)
    have hXv : ZFv X := .of hXf (by omega)
    have HC1 : Hid (∀ w v, ZDia w v G → Calls Try.prog 20 #[v] w (OkRes M w)) := Lib.hid fun w v h => by
      have := zMinimal_ok h hGv (by rw [← hM]; exact hMv)
      rwa [← hM] at this
    have HC2 : Hid (∀ w v, ZDia w v M → Calls Try.prog 21 #[v] w fun e w' => (∃ u L, e = .returned (.tuple #[u, .nilIface]) ∧ IntsAt w' u (natI L) ∧ ZSorted M L) ∧ Kept w w') := Lib.hid fun w v h => zList_ok h hMv (by omega)
    have HC3 : Hid (∀ w v, ZDia w v G → Calls Try.prog 21 #[v] w fun e w' => (∃ u L, e = .returned (.tuple #[u, .nilIface]) ∧ IntsAt w' u (natI L) ∧ ZSorted G L) ∧ Kept w w') := Lib.hid fun w v h => zList_ok h hGv (by omega)
    have HC4 : Hid (∀ w v v', ZDia w v F → ZDia w v' G → Calls Try.prog 22 #[v, v'] w (OkRes X w)) := Lib.hid fun w v v' h h' => by
      have := zWithout_ok h h' hFv hGv (by rw [← hX]; exact hXv)
      rwa [← hX] at this
    have HC5 : Hid (∀ w v v', ZDia w v F → ZDia w v' M → Calls Try.prog 22 #[v, v'] w (OkRes X w)) := Lib.hid fun w v v' h h' => by
      have := zWithout_ok h h' hFv hMv (by rw [hXM]; exact hXv)
      rwa [hXM] at this
    have HSX : Hid (∀ w v v', ZDia w v X → ZDia w v' X → Calls Try.prog 23 #[v, v'] w fun e w' => e = .returned (.bool true) ∧ Kept w w') := Lib.hid fun w v v' h h' => zsame_eq hXf h h'
    have HMG := Lib.hid hM
    have HML : Hid (∀ l, ZSorted M l → l.length ≤ 60 ∧ ∀ x ∈ l, x < 16777216) := Lib.hid fun l hl => ⟨by rw [zcard_list hMf (zsorted_nodup hl) hl.mem]; exact hMc, fun x hx => zbits_lt fun j hj => (hMf x ((hl.mem x).1 hx) j hj).2⟩
    have HGL : Hid (∀ l, ZSorted G l → l.length ≤ 60 ∧ ∀ x ∈ l, x < 16777216) := Lib.hid fun l hl => ⟨by rw [zcard_list hGf (zsorted_nodup hl) hl.mem]; exact hcG, fun x hx => zbits_lt fun j hj => (hGf x ((hl.mem x).1 hx) j hj).2⟩
    clear hFv hGv hFf hGf hM hX hXM hMf hXf hMc hXc hMv hXv hcF hcG
    have q1 := (HK1.out.trans HK2.out).cell HBb.out.c0
    have q2 := (HK1.out.trans HK2.out).cell HBb.out.c1
    go_wp2_with fail
    refine (HC1.out _ _ (HBb.out.dia.kept (HK1.out.trans HK2.out))).mono ?_
    rintro e g3x ⟨⟨a3, n3, c3, x3, rfl, hd⟩, hk⟩
    obtain ⟨g3, hg⟩ : ∃ g, g = g3x.alloc (.cells #[.slice a3 n3 c3, .int .i64 x3] 24) := ⟨_, rfl⟩
    obtain ⟨hb, hk2⟩ := ZBox.made hd hg
    have HG3 := Lib.hid hg
    have HBm := Lib.hid hb
    have HK3 := Lib.hid (hk.trans hk2)
    clear hg hb hk hk2 hd q1 q2
    go_upto_region 4 with fail
    rw [← HG3.out]
    have q3 := (Kept.refl _).cell HBm.out.c0
    have q4 := (Kept.refl _).cell HBm.out.c1
    go_wp2_with fail
    refine (HC2.out _ _ (HBm.out.dia.kept (Kept.refl _))).mono ?_
    rintro e g4 ⟨⟨ul, L1, rfl, hi, hs⟩, hk⟩
    have HK4 := Lib.hid hk
    have HI1 := Lib.hid hi
    have HS1 := Lib.hid hs
    clear hk q3 q4 hi hs
    have q5 := (((HK1.out.trans HK2.out).trans HK3.out).trans HK4.out).cell HBb.out.c0
    have q6 := (((HK1.out.trans HK2.out).trans HK3.out).trans HK4.out).cell HBb.out.c1
    go_wp2_with fail
    refine (HC3.out _ _ (HBb.out.dia.kept (((HK1.out.trans HK2.out).trans HK3.out).trans HK4.out))).mono ?_
    rintro e g5 ⟨⟨ua, L2, rfl, hi, hs⟩, hk⟩
    have HK5 := Lib.hid hk
    have HI2 := Lib.hid hi
    have HS2 := Lib.hid hs
    clear hk q5 q6 hi hs
    have q7 := ((((HK1.out.trans HK2.out).trans HK3.out).trans HK4.out).trans HK5.out).cell HBa.out.c0
    have q8 := ((((HK1.out.trans HK2.out).trans HK3.out).trans HK4.out).trans HK5.out).cell HBa.out.c1
    have q9 := ((((HK1.out.trans HK2.out).trans HK3.out).trans HK4.out).trans HK5.out).cell HBb.out.c0
    have q10 := ((((HK1.out.trans HK2.out).trans HK3.out).trans HK4.out).trans HK5.out).cell HBb.out.c1
    go_wp2_with fail
    refine (HC4.out _ _ _ (HBa.out.dia.kept ((((HK1.out.trans HK2.out).trans HK3.out).trans HK4.out).trans HK5.out)) (HBb.out.dia.kept ((((HK1.out.trans HK2.out).trans HK3.out).trans HK4.out).trans HK5.out))).mono ?_
    rintro e g6x ⟨⟨a6, n6, c6, x6, rfl, hd⟩, hk⟩
    obtain ⟨g6, hg⟩ : ∃ g, g = g6x.alloc (.cells #[.slice a6 n6 c6, .int .i64 x6] 24) := ⟨_, rfl⟩
    obtain ⟨hb, hk2⟩ := ZBox.made hd hg
    have HG6 := Lib.hid hg
    have HBx := Lib.hid hb
    have HK6 := Lib.hid (hk.trans hk2)
    clear hg hb hk hk2 hd q7 q8 q9 q10
    go_upto_region 7 with fail
    rw [← HG6.out]
    have q11 := (((((HK1.out.trans HK2.out).trans HK3.out).trans HK4.out).trans HK5.out).trans HK6.out).cell HBa.out.c0
    have q12 := (((((HK1.out.trans HK2.out).trans HK3.out).trans HK4.out).trans HK5.out).trans HK6.out).cell HBa.out.c1
    have q13 := ((HK4.out.trans HK5.out).trans HK6.out).cell HBm.out.c0
    have q14 := ((HK4.out.trans HK5.out).trans HK6.out).cell HBm.out.c1
    go_wp2_with fail
    refine (HC5.out _ _ _ (HBa.out.dia.kept (((((HK1.out.trans HK2.out).trans HK3.out).trans HK4.out).trans HK5.out).trans HK6.out)) (HBm.out.dia.kept ((HK4.out.trans HK5.out).trans HK6.out))).mono ?_
    rintro e g7x ⟨⟨a7, n7, c7, x7, rfl, hd⟩, hk⟩
    obtain ⟨g7, hg⟩ : ∃ g, g = g7x.alloc (.cells #[.slice a7 n7 c7, .int .i64 x7] 24) := ⟨_, rfl⟩
    obtain ⟨hb, hk2⟩ := ZBox.made hd hg
    have HG7 := Lib.hid hg
    have HBy := Lib.hid hb
    have HK7 := Lib.hid (hk.trans hk2)
    clear hg hb hk hk2 hd q11 q12 q13 q14
    go_upto_region 8 with fail
    rw [← HG7.out]
    have q15 := HK7.out.cell HBx.out.c0
    have q16 := HK7.out.cell HBx.out.c1
    have q17 := (Kept.refl _).cell HBy.out.c0
    have q18 := (Kept.refl _).cell HBy.out.c1
    go_wp2_with fail
    refine (HSX.out _ _ _ (HBx.out.dia.kept HK7.out) (HBy.out.dia.kept (Kept.refl _))).mono ?_
    rintro e g8 ⟨rfl, hk⟩
    have HK8 := Lib.hid hk
    clear hk q15 q16 q17 q18 
    obtain ⟨al, cl, rfl, ⟨hc1, hn1⟩, _, hx1⟩ := HI1.out.kept (((HK5.out.trans HK6.out).trans HK7.out).trans HK8.out)
    obtain ⟨aa, ca, rfl, ⟨hc2, hn2⟩, _, hx2⟩ := HI2.out.kept ((HK6.out.trans HK7.out).trans HK8.out)
    obtain ⟨g9, hg9⟩ : ∃ g, g = g8 := ⟨_, rfl⟩
    have HK9 : Hid (Kept W g9) := Lib.hid (by rw [hg9]; exact HK0.out.trans (((((((HK1.out.trans HK2.out).trans HK3.out).trans HK4.out).trans HK5.out).trans HK6.out).trans HK7.out).trans HK8.out))
    have HIL : Hid (IntsAt g9 (.slice al (natI L1).length cl) (natI L1)) := Lib.hid (by rw [hg9]; exact HI1.out.kept (((HK5.out.trans HK6.out).trans HK7.out).trans HK8.out))
    have HIA : Hid (IntsAt g9 (.slice aa (natI L2).length ca) (natI L2)) := Lib.hid (by rw [hg9]; exact HI2.out.kept ((HK6.out.trans HK7.out).trans HK8.out))
    rw [← hg9]
    have HX1 : Hid (∀ i (h : i < L1.length), ∃ b o, al = some ⟨b, o, none⟩ ∧ g9.cell? ⟨b, o + i, none⟩ = some (.int .i64 ((L1[i] : Nat) : Int))) := Lib.hid fun i hi => by
      obtain ⟨b, o, e, hc⟩ := hx1 i (by rw [natI_len]; exact hi)
      rw [← hg9] at hc
      exact ⟨b, o, e, by simpa [natI] using hc⟩
    have HX2 : Hid (∀ i (h : i < L2.length), ∃ b o, aa = some ⟨b, o, none⟩ ∧ g9.cell? ⟨b, o + i, none⟩ = some (.int .i64 ((L2[i] : Nat) : Int))) := Lib.hid fun i hi => by
      obtain ⟨b, o, e, hc⟩ := hx2 i (by rw [natI_len]; exact hi)
      rw [← hg9] at hc
      exact ⟨b, o, e, by simpa [natI] using hc⟩
    obtain ⟨m1, hm1⟩ : ∃ m, m = (natI L1).length := ⟨_, rfl⟩
    obtain ⟨m2, hm2⟩ : ∃ m, m = (natI L2).length := ⟨_, rfl⟩
    have HN1 : Hid (m1 = L1.length) := Lib.hid (by rw [hm1, natI_len])
    have HN2 : Hid (m2 = L2.length) := Lib.hid (by rw [hm2, natI_len])
    have hb1 : m1 ≤ 60 := by rw [HN1.out]; exact (HML.out _ HS1.out).1
    have hb2 : m2 ≤ 60 := by rw [HN2.out]; exact (HGL.out _ HS2.out).1
    rw [← hm1] at hc1 HIL ⊢
    rw [← hm2] at hc2 HIA ⊢
    clear hx1 hx2 hm1 hm2 hg9
    go_wp2_with fail
    go_loopg [15] m2 (fun kx s15 wr => ∃ i : Nat, s15 = .int .i64 i ∧ i ≤ m2 ∧ m2 - i ≤ kx ∧ Hid (Kept g9 wr))
    case atStart => exact ⟨0, by first | rfl | go_num, Nat.zero_le _, by omega, Lib.hid (Kept.refl _)⟩
    case round =>
      obtain ⟨i, rfl, hi, hix, HKr⟩ := hrel
      obtain ⟨wo, rfl⟩ : ∃ wo : World, wo = wr := ⟨_, rfl⟩
      by_cases hlt : i < m2
      · have hlti : (i : Int) < (m2 : Int) := by omega
        have hi0 : (0 : Int) ≤ (i : Int) := by omega
        have hiL : i < L2.length := by rw [← HN2.out]; exact hlt
        obtain ⟨b2, o2, rfl, pa⟩ := HX2.out i hiL
        obtain ⟨x, hx⟩ : ∃ x, x = L2[i] := ⟨_, rfl⟩
        rw [← hx] at pa
        have hxm : x ∈ L2 := by rw [hx]; exact List.getElem_mem _
        have HXM := Lib.hid hxm
        have hx24 := (HGL.out _ HS2.out).2 x hxm
        clear hx hxm hiL
        go_wp2_with fail
        go_loopg [16, 17] m1 (fun kx s16 s17 wr => ∃ k q : Nat, s16 = .int .i64 q ∧ s17 = .int .i64 k ∧ k ≤ m1 ∧ m1 - k ≤ kx ∧ q ≤ 60 ∧ Hid (q = cntB (L1.take k) x) ∧ Hid (Kept wo wr))
        case atStart => exact ⟨0, 0, by first | rfl | go_num, by first | rfl | go_num, Nat.zero_le _, by omega, by omega, Lib.hid rfl, Lib.hid (Kept.refl _)⟩
        case round =>
          obtain ⟨k, q, rfl, rfl, hk, hkx, hqb, HQ, HKq⟩ := hrel
          obtain ⟨wi, rfl⟩ : ∃ wi : World, wi = wr := ⟨_, rfl⟩
          by_cases hlk : k < m1
          · have hlki : (k : Int) < (m1 : Int) := by omega
            have hk0 : (0 : Int) ≤ (k : Int) := by omega
            have hkL : k < L1.length := by rw [← HN1.out]; exact hlk
            obtain ⟨b1, o1, rfl, pl⟩ := HX1.out k hkL
            obtain ⟨y, hy⟩ : ∃ y, y = L1[k] := ⟨_, rfl⟩
            rw [← hy] at pl
            have hy24 := (HML.out _ HS1.out).2 y (by rw [hy]; exact List.getElem_mem _)
            have hst := cntB_take hkL x
            rw [← hy] at hst
            obtain ⟨d, hd⟩ : ∃ d, d = sdiff y x := ⟨_, rfl⟩
            have hand : bits .andNot .i64 (y : Int) (x : Int) = (d : Int) := by rw [hd]; exact andNot_i64 y x (by omega) (by omega)
            rw [← hd] at hst
            have kk := (HKr.out.trans HKq.out).drew
            have q1 := kk.cell pl
            have q2 := kk.cell pa
            have hql : q ≤ k := by rw [HQ.out]; exact Nat.le_trans (cntB_le _ _) (by rw [List.length_take]; omega)
            clear hy hd hkL kk
            by_cases hd0 : d = 0
            · subst hd0
              have HQ2 : Hid (q + 1 = cntB (L1.take (k + 1)) x) := Lib.hid (by rw [hst, if_pos rfl, HQ.out])
              clear hst
              go_upto_region 17 with fail
              go_region
              all_goals
                go_wp2_with fail
                go_roundg (m1 - (k + 1))
                case measure => omega
                case rel => exact ⟨k + 1, q + 1, by go_num, by go_num, by omega, Nat.le_refl _, by omega, HQ2, Lib.hid HKq.out.drew⟩
            · have hdb : ((d : Int) == 0) = false := beq_eq_false_iff_ne.2 (by omega)
              have HQ2 : Hid (q = cntB (L1.take (k + 1)) x) := Lib.hid (by rw [hst, if_neg hd0, HQ.out]; rfl)
              clear hst hd0
              go_upto_region 17 with fail
              go_region
              all_goals
                go_wp2_with fail
                go_roundg (m1 - (k + 1))
                case measure => omega
                case rel => exact ⟨k + 1, q, rfl, by go_num, by omega, Nat.le_refl _, hqb, HQ2, Lib.hid HKq.out.drew⟩
          · have hlki : ¬ (k : Int) < (m1 : Int) := by omega
            have hqc : q = cntB L1 x := by rw [HQ.out, show k = L1.length by rw [← HN1.out]; omega, List.take_length]
            have hGx : G x = true := (HS2.out.mem x).1 HXM.out
            have hq0 : q ≠ 0 := by rw [hqc]; exact cntB_pos (G := G) (by rw [← HMG.out]; exact HS1.out) hGx
            have hqi : ((q : Int) == 0) = false := beq_eq_false_iff_ne.2 (by omega)
            have q2 := (HKr.out.trans HKq.out).cell pa
            obtain ⟨bo, hbo⟩ : ∃ b, b = decide ((x : Int) ∈ natI L1) := ⟨_, rfl⟩
            have HHA : Hid (Calls Try.prog 24 #[.slice al m1 cl, .int .i64 (x : Nat)] wi fun e w' => e = .returned (.bool bo) ∧ wi = w') := Lib.hid (by rw [hbo]; exact has_any _ _ _ wi (HIL.out.kept (HKr.out.trans HKq.out)))
            have hone : bo = true → q = 1 := fun e => by
              rw [hbo] at e
              rw [hqc]
              exact cntB_one (G := G) (by rw [← HMG.out]; exact HS1.out) (natI_mem.1 (of_decide_eq_true e))
            clear hbo hqc hGx hq0
            cases bo with
            | true =>
              have hq1 := hone rfl
              subst hq1
              clear hone hqi
              go_wp2_with (refine HHA.out.mono ?_; rintro e w5 ⟨rfl, rfl⟩)
              go_roundg (m2 - (i + 1))
              case measure => omega
              case rel => exact ⟨i + 1, by go_num, by omega, Nat.le_refl _, Lib.hid (HKr.out.trans HKq.out)⟩
            | false =>
              clear hone
              go_wp2_with (refine HHA.out.mono ?_; rintro e w5 ⟨rfl, rfl⟩)
              go_roundg (m2 - (i + 1))
              case measure => omega
              case rel => exact ⟨i + 1, by go_num, by omega, Nat.le_refl _, Lib.hid (HKr.out.trans HKq.out)⟩
      · have hlti : ¬ (i : Int) < (m2 : Int) := by omega
        go_wp2_with fail
        go_ret
        exact ⟨rfl, HK9.out.trans HKr.out⟩
end Go.Proofs.Ytiplibgnfcdlkaa
