import Derived.Test.YtiplibgnfcdlkaaQZH3
import Derived.Test.YtiplibgnfcdlkaaQZG9
/-
  Walk: the law ZeroMakes. Printed by gen_ZH4.py.
-/
namespace Go.Proofs.Ytiplibgnfcdlkaa
open Go.RowKit

theorem zlc_small (xs : List Int) : zlc xs ≤ 4 := by
  unfold zlc
  split
  · omega
  · split <;> omega
set_option maxRecDepth 100000 in
set_option maxHeartbeats 8000000 in
theorem zeroMakes_true (v v' : Value) (L : List INode) (ra : Int) (xs : List Int) (W : World) (h : ZeroAt W v L ra) (h' : IntsAt W v' xs) :
    Calls Try.prog 3 #[v, v'] W fun e w' => e = .returned (.bool true) ∧ Kept W w' := by
  obtain ⟨F, hF⟩ := h.zin
  obtain ⟨c, hc⟩ : ∃ c, c = zchk L ra := ⟨_, rfl⟩
  rw [← hc] at hF
  have hcb : c ≤ 100 := by rw [hc]; exact zchk_small L ra
  obtain ⟨a, n, cp, r, rfl⟩ := hF.shape
  have hza : ZeroAt W (.agg #[.slice a n cp, .int .i64 r]) L r := by
    obtain ⟨s, e, hd⟩ := id h
    cases e
    exact ⟨_, rfl, hd⟩
  have hcr : c = zchk L r := by
    obtain ⟨s, e, hd⟩ := id h
    cases e
    exact hc
  have hxi := h'
  obtain ⟨b, cq, rfl, hcb2, hlb, hxx⟩ := h'
  clear hxx
  obtain ⟨m, hm⟩ : ∃ m, m = xs.length := ⟨_, rfl⟩
  rw [← hm] at hxi hcb2 hlb ⊢
  have hcb1 := hcb2.1
  obtain ⟨g0, hg0⟩ : ∃ w1, w1 = W.alloc (.cells #[.slice a n cp, .int .i64 r] 24) := ⟨_, rfl⟩
  have hk0 : Kept W g0 := by rw [hg0]; exact (Kept.refl _).alloc _
  have hx0 : RowAt g0 W.heap.size 24 [.slice a n cp, .int .i64 r] := by rw [hg0]; exact RowAt.made W #[.slice a n cp, .int .i64 r] 24
  have x0 := hx0.cell (i := 0) (by simp)
  have x1 := hx0.cell (i := 1) (by simp)
  simp only [List.getElem_cons_succ, List.getElem_cons_zero] at x0 x1
  have HK0 := Lib.hid hk0
  have HG0 := Lib.hid hg0
  have HX := Lib.hid (And.intro x0 x1)
  have HFI := Lib.hid hF
  have HXI := Lib.hid hxi
  have HM := Lib.hid hm
  have HLG := Lib.hid fun w (hk : Kept W w) => large_any _ c F w (hF.kept hk)
  have HZC : Hid (∀ w, Kept W w → Calls Try.prog 14 #[.agg #[.slice a n cp, .int .i64 r]] w fun e w' => e = .returned (errV c) ∧ Kept w w') := Lib.hid fun w hk => by rw [hcr]; exact zcheck_any _ L r w (hza.kept hk)
  have HRC : Hid (∀ w, Kept W w → Calls Try.prog 15 #[.agg #[.slice a n cp, .int .i64 r]] w fun e w' => e = .returned (.int .i64 (c : Nat)) ∧ Kept w w') := Lib.hid fun w hk => by rw [hcr]; exact zrchk_any _ L r w (hza.kept hk)
  have HNU := Lib.hid fun w => num_ok c w (by omega)
  obtain ⟨uc, huc⟩ : ∃ u, u = errV c := ⟨_, rfl⟩
  rw [← huc] at HZC HNU
  obtain ⟨q, hq⟩ : ∃ q, q = zlc xs := ⟨_, rfl⟩
  have hqs : q ≤ 4 := by rw [hq]; exact zlc_small xs
  have HCL : Hid (∀ w, Kept W w → Calls Try.prog 16 #[.slice b m cq] w fun e w' => e = .returned (.int .i64 (q : Nat)) ∧ Kept w w') := Lib.hid fun w hk => by
    rw [hq]
    refine (rchecklist_any _ xs w (HXI.out.kept hk)).mono ?_
    rintro e w' ⟨rfl, rfl⟩
    exact ⟨rfl, Kept.refl _⟩
  have HQ := Lib.hid hq
  have hmb : m ≤ 140737488355328 := hlb
  have hcc : ((c : Int) == (c : Int)) = true := beq_self_eq_true _
  have hcc2 : ((c : Int) != (c : Int)) = false := by rw [bne, hcc]; rfl
  clear h hc hg0 hk0 hF hx0 hxi hlb hm hcb2 hza hcr huc hq
  go_enter Try.func3, Try.ntmps3
  go_upto_region 1 with fail
  rw [← HG0.out]
  clear x0 x1
  go_wp2_with fail
  refine (awake18 _).mono ?_
  rintro e g1 ⟨rfl, hk1⟩
  have HK1 := Lib.hid hk1
  have x0 := hk1.cell HX.out.1
  have x1 := hk1.cell HX.out.2
  clear hk1
  go_wp2_with fail
  refine (HLG.out _ (HK0.out.trans HK1.out)).mono ?_
  rintro e g2 ⟨⟨bo, rfl, hb⟩, hk2⟩
  have HK2 := Lib.hid hk2
  clear hk2 hb x0 x1
  cases bo with
  | true =>
    go_wp2_with fail
    refine (awake18 _).mono ?_
    rintro e g3 ⟨rfl, hk3⟩
    have HK3 := Lib.hid hk3
    clear hk3
    go_wp2_with fail
    go_ret
    exact ⟨rfl, ((HK0.out.trans HK1.out).trans HK2.out).trans HK3.out⟩
  | false =>
    by_cases hbig : 100 < m ∧ m ≤ 1024
    · have hb1 : (100 : Int) < (m : Int) := by omega
      have hb2 : (m : Int) ≤ 1024 := by omega
      clear hbig
      go_wp2_with fail
      refine (awake18 _).mono ?_
      rintro e g3 ⟨rfl, hk3⟩
      have HK3 := Lib.hid hk3
      clear hk3
      go_wp2_with fail
      go_ret
      exact ⟨rfl, ((HK0.out.trans HK1.out).trans HK2.out).trans HK3.out⟩
    have hcases : (¬ (100 : Int) < (m : Int)) ∨ ((100 : Int) < (m : Int) ∧ ¬ (m : Int) ≤ 1024) := by omega
    obtain ⟨FF, hff⟩ : ∃ FF, FF = (if q = 0 then zfl xs else zno) := ⟨_, rfl⟩
    obtain ⟨u, hu⟩ : ∃ u, u = errV q := ⟨_, rfl⟩
    have HMK : Hid (∀ w, Kept W w → Calls Try.prog 12 #[.slice b m cq] w fun e w' => (∃ a n c x, e = .returned (.tuple #[.agg #[.slice a n c, .int .i64 x], u]) ∧ ZDia w' (.agg #[.slice a n c, .int .i64 x]) FF) ∧ Kept w w') := Lib.hid fun w hk => by
      refine (zMake_any _ xs w (HXI.out.kept hk) (fun h0 => ?_)).mono ?_
      · obtain ⟨h1, h2⟩ := zlc_ok h0
        have h3 := zcan_len2 (zfl_from h2)
        have h4 := zfl_card h2
        have := HM.out
        omega
      · rintro e w' ⟨⟨v, rfl, hd⟩, hk2⟩
        rw [← HQ.out] at hd ⊢
        rw [← hff] at hd
        obtain ⟨s, rfl, h2⟩ := id hd
        obtain ⟨a, cp, rfl⟩ := h2.shape
        exact ⟨⟨_, _, _, _, by rw [hu], hd⟩, hk2⟩
    have HFF := Lib.hid hff
    have HU := Lib.hid hu
    clear hff hu hbig
    rcases hcases with hh | ⟨hh1, hh2⟩
    all_goals
      go_wp2_with fail
      refine (HMK.out _ ((HK0.out.trans HK1.out).trans HK2.out)).mono ?_
      rintro e g3x ⟨⟨a3, n3, c3, x3, rfl, hd⟩, hk⟩
      obtain ⟨g3, hg⟩ : ∃ g, g = g3x.alloc (.cells #[.slice a3 n3 c3, .int .i64 x3] 24) := ⟨_, rfl⟩
      obtain ⟨hb, hk2⟩ := ZBox.made hd hg
      have HG3 := Lib.hid hg
      have HBx := Lib.hid hb
      have HK3 := Lib.hid (hk.trans hk2)
      clear hg hb hk hk2 hd 
      go_upto_region 4 with fail
      rw [← HG3.out]
      have HKW3 := Lib.hid (((HK0.out.trans HK1.out).trans HK2.out).trans HK3.out)
      have x0 := ((HK1.out.trans HK2.out).trans HK3.out).drew.cell HX.out.1
      have x1 := ((HK1.out.trans HK2.out).trans HK3.out).drew.cell HX.out.2
      have HKD : Hid (Kept g3 g3.drew) := Lib.hid (Kept.refl _).drew
      go_region_with (first
        | (go_at_call 14; (with_reducible refine (HZC.out _ (HKW3.out.trans HKD.out)).mono ?_); rintro e w9 ⟨rfl, hk9⟩; have HKD := Lib.hid (HKD.out.trans hk9); have x0 := hk9.cell x0; have x1 := hk9.cell x1; clear hk9)
        | (go_at_call 15; (with_reducible refine (HRC.out _ (HKW3.out.trans HKD.out)).mono ?_); rintro e w9 ⟨rfl, hk9⟩; have HKD := Lib.hid (HKD.out.trans hk9); have x0 := hk9.cell x0; have x1 := hk9.cell x1; clear hk9)
        | (go_at_call 13; (with_reducible refine (HNU.out _).mono ?_); rintro e w9 ⟨rfl, hk9⟩; have HKD := Lib.hid (HKD.out.trans hk9); have x0 := hk9.cell x0; have x1 := hk9.cell x1; clear hk9))
      all_goals
        clear x0 x1
        go_wp2_with fail
        refine (HCL.out _ (HKW3.out.trans HKD.out)).mono ?_
        rintro e g9 ⟨rfl, hk9⟩
        have HK9 := Lib.hid (HKD.out.trans hk9)
        have HB9 := Lib.hid (HBx.out.kept HK9.out)
        have y0 := HB9.out.c0
        have y1 := HB9.out.c1
        clear hk9
        by_cases hq0 : q = 0
        · have HIS : Hid (Calls Try.prog 18 #[.agg #[.slice a3 n3 c3, .int .i64 x3], .nilIface, .slice b m cq] g9 fun e w' => e = .returned (.bool true) ∧ Kept g9 w') := Lib.hid (by
            obtain ⟨h1, h2⟩ := zlc_ok (HQ.out.symm.trans hq0)
            obtain ⟨ns, hns, hn24⟩ := nats_of h2
            have hxk := HXI.out.kept (HKW3.out.trans HK9.out)
            rw [hns] at hxk
            have hd9 := HB9.out.dia
            rw [HFF.out, if_pos hq0] at hd9
            refine is_true_any _ _ (zfl xs) ns g9 hd9 hxk hn24 ?_ ?_ (zfl_from h2)
            · rw [hns, natI_len] at h1; omega
            · rw [hns, zfl_natI])
          have hu0 := HU.out
          rw [hq0, errV_zero] at hu0
          subst hu0
          subst hq0
          go_wp2_with fail
          refine HIS.out.mono ?_
          rintro e g10 ⟨rfl, hk10⟩
          have HK10 := Lib.hid hk10
          clear hk10
          go_wp2_with fail
          go_ret
          exact ⟨rfl, (HKW3.out.trans HK9.out).trans HK10.out⟩
        · have HNO : Hid (Calls Try.prog 17 #[.agg #[.slice a3 n3 c3, .int .i64 x3], u, .int .i64 (q : Nat)] g9 fun e w' => e = .returned (.bool true) ∧ Kept g9 w') := Lib.hid (by
            have hd9 := HB9.out.dia
            rw [HFF.out, if_neg hq0] at hd9
            rw [HU.out]
            exact none_true _ q g9 hd9 (by omega))
          have hqb : ((q : Int) == 0) = false := beq_eq_false_iff_ne.2 (by omega)
          have hqn : ((q : Int) != 0) = true := by rw [bne, hqb]; rfl
          go_wp2_with fail
          refine HNO.out.mono ?_
          rintro e g10 ⟨rfl, hk10⟩
          have HK10 := Lib.hid hk10
          clear hk10
          go_wp2_with fail
          go_ret
          exact ⟨rfl, (HKW3.out.trans HK9.out).trans HK10.out⟩
end Go.Proofs.Ytiplibgnfcdlkaa
