import Derived.Test.YtiplibgnfcdlkaaQZG5
import Derived.Test.YtiplibgnfcdlkaaQZE6
/-
  Walk: the law ZeroReturns. Printed by gen_ZG7.py.
-/
namespace Go.Proofs.Ytiplibgnfcdlkaa
open Go.RowKit

theorem nats_of {xs : List Int} (h : xs.all zok = true) : ∃ ns : List Nat, xs = natI ns ∧ ∀ n ∈ ns, n < 16777216 := by
  refine ⟨xs.map Int.toNat, ?_, fun n hn => ?_⟩
  · unfold natI
    rw [List.map_map]
    conv => lhs; rw [← List.map_id xs]
    apply List.map_congr_left
    intro x hx
    have := of_decide_eq_true (List.all_eq_true.1 h x hx)
    show x = ((x.toNat : Nat) : Int)
    omega
  · obtain ⟨x, hx, rfl⟩ := List.mem_map.1 hn
    have := of_decide_eq_true (List.all_eq_true.1 h x hx)
    omega
theorem natI_ok {ns : List Nat} (h : ∀ n ∈ ns, n < 16777216) : (natI ns).all zok = true := by
  rw [List.all_eq_true]
  intro x hx
  unfold natI at hx
  obtain ⟨n, hn, rfl⟩ := List.mem_map.1 hx
  have := h n hn
  exact decide_eq_true (by omega)
theorem zfl_natI (ns : List Nat) : zfl (natI ns) = zin ns := by
  funext s
  unfold zfl zin
  exact decide_eq_decide.2 natI_mem
theorem zfl_card {xs : List Int} (h : xs.all zok = true) : zcard (zfl xs) ≤ xs.length := by
  obtain ⟨ns, rfl, _⟩ := nats_of h
  rw [natI_len]
  exact zcard_le (zfl_from h) fun s hs => by rw [zfl_natI] at hs; exact of_decide_eq_true hs
theorem zin_sorted {F : Nat → Bool} {L : List Nat} (h : ZSorted F L) : zin L = F := by
  funext s
  unfold zin
  rw [Bool.eq_iff_iff, decide_eq_true_iff, h.mem]
theorem zlc_ok {xs : List Int} (h : zlc xs = 0) : xs.length ≤ 1024 ∧ xs.all zok = true := by
  unfold zlc at h
  by_cases h1 : 1024 < xs.length
  · rw [if_pos h1] at h; omega
  · rw [if_neg h1] at h
    by_cases h2 : xs.all zok = true
    · exact ⟨by omega, h2⟩
    · rw [if_neg h2] at h; omega
theorem zHas_ok {v : Value} {F : Nat → Bool} {W : World} {k : Nat} (h : ZDia W v F) (hF : ZFv F) (hk : zok (k : Int) = true) : Calls Try.prog 26 #[v, .int .i64 k] W fun e w' => e = .returned (.tuple #[.bool (F k), .nilIface]) ∧ Kept W w' := by
  refine (zHas_any v 0 F k W (h.inn hF)).mono ?_
  rintro e w' ⟨rfl, h2⟩
  rw [hk, Int.toNat_natCast]
  exact ⟨by simp [errV_zero], h2⟩
set_option maxRecDepth 100000 in
set_option maxHeartbeats 8000000 in
theorem zeroReturns_true (v v' : Value) (L : List INode) (ra : Int) (xs : List Int) (set : Int) (W : World) (h : ZeroAt W v L ra) (h' : IntsAt W v' xs) :
    Calls Try.prog 5 #[v, v', .int .i64 set] W fun e w' => e = .returned (.bool true) ∧ Kept W w' := by
  obtain ⟨F, hF⟩ := h.zin
  obtain ⟨c, hc⟩ : ∃ c, c = zchk L ra := ⟨_, rfl⟩
  rw [← hc] at hF
  obtain ⟨a, n, cp, r, rfl⟩ := hF.shape
  have hxi := h'
  obtain ⟨b, cq, rfl, hcb, hlb, hxx⟩ := h'
  clear hxx
  obtain ⟨m, hm⟩ : ∃ m, m = xs.length := ⟨_, rfl⟩
  rw [← hm] at hxi hcb ⊢
  obtain ⟨g0, hg0⟩ : ∃ w1, w1 = W.alloc (.cells #[.slice a n cp, .int .i64 r] 24) := ⟨_, rfl⟩
  have hk0 : Kept W g0 := by rw [hg0]; exact (Kept.refl _).alloc _
  have hx0 : RowAt g0 W.heap.size 24 [.slice a n cp, .int .i64 r] := by rw [hg0]; exact RowAt.made W #[.slice a n cp, .int .i64 r] 24
  have x0 := hx0.cell (i := 0) (by simp)
  have x1 := hx0.cell (i := 1) (by simp)
  simp only [List.getElem_cons_succ, List.getElem_cons_zero] at x0 x1
  have HK0 := Lib.hid hk0
  have HG0 := Lib.hid hg0
  have HX := Lib.hid (And.intro x0 x1)
  have HFI := Lib.hid hF
  have HXI := Lib.hid hxi
  have HM := Lib.hid hm
  have hmb : m ≤ 140737488355328 := by omega
  have hcb1 := hcb.1
  clear h hc hg0 hk0 hF hx0 hxi hlb hm hcb
  go_enter Try.func5, Try.ntmps5
  go_upto_region 1 with fail
  rw [← HG0.out]
  clear x0 x1
  go_wp2_with fail
  refine (awake18 _).mono ?_
  rintro e g1 ⟨rfl, hk1⟩
  have HK1 := Lib.hid hk1
  have x0 := hk1.cell HX.out.1
  have x1 := hk1.cell HX.out.2
  clear hk1
  go_wp2_with fail
  refine (valid1 HFI.out _ (HK0.out.trans HK1.out)).mono ?_
  rintro e g2 ⟨⟨bo, rfl, hb⟩, hk2⟩
  have HK2 := Lib.hid hk2
  have HBO := Lib.hid hb
  clear hk2 hb x0 x1
  cases bo with
  | false =>
    go_wp2_with fail
    refine (awake18 _).mono ?_
    rintro e g3 ⟨rfl, hk3⟩
    have HK3 := Lib.hid hk3
    clear hk3
    go_wp2_with fail
    go_ret
    exact ⟨rfl, ((HK0.out.trans HK1.out).trans HK2.out).trans HK3.out⟩
  | true =>
    obtain ⟨rfl, hcF⟩ := HBO.out rfl
    by_cases hbig : 60 < m
    · have hbi : (60 : Int) < (m : Int) := by omega
      clear hbig
      go_wp2_with fail
      refine (awake18 _).mono ?_
      rintro e g3 ⟨rfl, hk3⟩
      have HK3 := Lib.hid hk3
      clear hk3
      go_wp2_with fail
      go_ret
      exact ⟨rfl, ((HK0.out.trans HK1.out).trans HK2.out).trans HK3.out⟩
    have hbi : ¬ (60 : Int) < (m : Int) := by omega
    have hm6 : m ≤ 60 := by omega
    obtain ⟨q, hq⟩ : ∃ q, q = zlc xs := ⟨_, rfl⟩
    have HCL : Hid (∀ w, Kept W w → Calls Try.prog 16 #[.slice b m cq] w fun e w' => e = .returned (.int .i64 (q : Nat)) ∧ w = w') := Lib.hid fun w hk => by rw [hq]; exact rchecklist_any _ xs w (HXI.out.kept hk)
    by_cases hq0 : q ≠ 0
    · have hqb : ((q : Int) == 0) = false := beq_eq_false_iff_ne.2 (by omega)
      have hqn : ((q : Int) != 0) = true := by rw [bne, hqb]; rfl
      clear hq hbig
      go_wp2_with fail
      refine (HCL.out _ ((HK0.out.trans HK1.out).trans HK2.out)).mono ?_
      rintro e w5 ⟨rfl, rfl⟩
      go_wp2_with fail
      refine (awake18 _).mono ?_
      rintro e g3 ⟨rfl, hk3⟩
      have HK3 := Lib.hid hk3
      clear hk3
      go_wp2_with fail
      go_ret
      exact ⟨rfl, ((HK0.out.trans HK1.out).trans HK2.out).trans HK3.out⟩
    obtain rfl : q = 0 := Classical.not_not.1 hq0
    obtain ⟨hxl, hxo⟩ := zlc_ok hq.symm
    obtain ⟨bm, hbm⟩ : ∃ b, b = zok set := ⟨_, rfl⟩
    have HMS : Hid (∀ w, Calls Try.prog 25 #[.int .i64 set] w fun e w' => e = .returned (.bool bm) ∧ w = w') := Lib.hid fun w => by rw [hbm]; exact rmask_any set w
    have HXO := Lib.hid hxo
    have HBM := Lib.hid hbm
    clear hq hbig hxl hxo hbm hq0
    go_wp2_with fail
    refine (HCL.out _ ((HK0.out.trans HK1.out).trans HK2.out)).mono ?_
    rintro e w5 ⟨rfl, rfl⟩
    go_wp2_with fail
    refine (HMS.out _).mono ?_
    rintro e w5 ⟨rfl, rfl⟩
    cases bm with
    | false =>
      go_wp2_with fail
      refine (awake18 _).mono ?_
      rintro e g3 ⟨rfl, hk3⟩
      have HK3 := Lib.hid hk3
      clear hk3
      go_wp2_with fail
      go_ret
      exact ⟨rfl, ((HK0.out.trans HK1.out).trans HK2.out).trans HK3.out⟩
    | true =>
      go_upto_region 3 with fail
      obtain ⟨k, rfl⟩ : ∃ k : Nat, set = (k : Int) := ⟨set.toNat, by have := of_decide_eq_true HBM.out.symm; omega⟩
      have hFv := HFI.out.fv
      have hFf := hFv.frm
      have HBa : Hid (ZBox g0 W.heap.size a n cp r F) := Lib.hid ⟨HX.out.1, HX.out.2, (HFI.out.dia rfl).kept HK0.out⟩
      obtain ⟨C, hC⟩ : ∃ C, C = zfl xs := ⟨_, rfl⟩
      have hCf : ZFrom 0 C := by rw [hC]; exact zfl_from HXO.out
      have hCc : zcard C ≤ 60 := by rw [hC]; exact Nat.le_trans (zfl_card HXO.out) (by rw [← HM.out]; exact hm6)
      have hCv : ZFv C := .of hCf (by omega)
      have HC1 : Hid (∀ w v, ZDia w v F → Calls Try.prog 21 #[v] w fun e w' => (∃ u L, e = .returned (.tuple #[u, .nilIface]) ∧ IntsAt w' u (natI L) ∧ ZSorted F L) ∧ Kept w w') := Lib.hid fun w v h => zList_ok h hFv (by omega)
      have HC2 : Hid (∀ w u L, IntsAt w u (natI L) → ZSorted F L → Calls Try.prog 12 #[u] w (OkRes F w)) := Lib.hid fun w u L h hs => by
        have e : zfl (natI L) = F := by rw [zfl_natI, zin_sorted hs]
        have := zMake_ok h (by rw [natI_len, zcard_list hFf (zsorted_nodup hs) hs.mem]; omega) (natI_ok fun n hn => zbits_lt fun j hj => (hFf n ((hs.mem n).1 hn) j hj).2) (by rw [e]; exact hFv)
        rwa [e] at this
      have HC3 : Hid (∀ w, Kept W w → Calls Try.prog 12 #[.slice b m cq] w (OkRes C w)) := Lib.hid fun w hk => by
        have := zMake_ok (HXI.out.kept hk) (by rw [← HM.out]; omega) HXO.out (by rw [← hC]; exact hCv)
        rwa [← hC] at this
      have HC4 : Hid (∀ w v, ZDia w v C → Calls Try.prog 21 #[v] w fun e w' => (∃ u L, e = .returned (.tuple #[u, .nilIface]) ∧ IntsAt w' u (natI L) ∧ ZSorted C L) ∧ Kept w w') := Lib.hid fun w v h => zList_ok h hCv (by omega)
      obtain ⟨hb, hhb⟩ : ∃ b, b = C k := ⟨_, rfl⟩
      have HC5 : Hid (∀ w v, ZDia w v C → Calls Try.prog 26 #[v, .int .i64 (k : Nat)] w fun e w' => e = .returned (.tuple #[.bool hb, .nilIface]) ∧ Kept w w') := Lib.hid fun w v h => by rw [hhb]; exact zHas_ok h hCv HBM.out.symm
      have HSF : Hid (∀ w v v', ZDia w v F → ZDia w v' F → Calls Try.prog 23 #[v, v'] w fun e w' => e = .returned (.bool true) ∧ Kept w w') := Lib.hid fun w v v' h h' => zsame_eq hFf h h'
      have HSO : Hid (∀ w, Kept W w → Calls Try.prog 28 #[.slice b m cq] w fun e w' => (∃ v' L, e = .returned v' ∧ IntsAt w' v' (natI L) ∧ ZSorted C L) ∧ Kept w w') := Lib.hid fun w hk => by
        obtain ⟨ns, hns, hn24⟩ := nats_of HXO.out
        have h9 := HXI.out.kept hk
        rw [hns] at h9
        have hl9 : ns.length ≤ 100000 := by have := HM.out; rw [hns, natI_len] at this; omega
        refine (rsort_any _ ns w h9 hn24 hl9).mono ?_
        rintro e w' ⟨⟨v', L, rfl, h1, h2⟩, hk2⟩
        refine ⟨⟨v', L, rfl, h1, ?_⟩, hk2⟩
        rw [hC, hns, zfl_natI]; exact h2
      have HHA : Hid (∀ w, Kept W w → Calls Try.prog 24 #[.slice b m cq, .int .i64 (k : Nat)] w fun e w' => e = .returned (.bool hb) ∧ Kept w w') := Lib.hid fun w hk => by
        refine (has_any _ xs k w (HXI.out.kept hk)).mono ?_
        rintro e w' ⟨rfl, rfl⟩
        rw [hhb, hC]
        exact ⟨rfl, Kept.refl _⟩
      clear hFv hFf hC hCf hCc hCv hcF hhb
      have q1 := (HK1.out.trans HK2.out).cell HBa.out.c0
      have q2 := (HK1.out.trans HK2.out).cell HBa.out.c1
      go_wp2_with fail
      refine (HC1.out _ _ (HBa.out.dia.kept (HK1.out.trans HK2.out))).mono ?_
      rintro e g3 ⟨⟨u1, L1, rfl, hi, hs⟩, hk⟩
      have HK3 := Lib.hid hk
      have HI1 := Lib.hid hi
      have HS1 := Lib.hid hs
      clear hk q1 q2 hi hs
      go_wp2_with fail
      refine (HC2.out _ _ _ HI1.out HS1.out).mono ?_
      rintro e g4x ⟨⟨a4, n4, c4, x4, rfl, hd⟩, hk⟩
      obtain ⟨g4, hg⟩ : ∃ g, g = g4x.alloc (.cells #[.slice a4 n4 c4, .int .i64 x4] 24) := ⟨_, rfl⟩
      obtain ⟨hb, hk2⟩ := ZBox.made hd hg
      have HG4 := Lib.hid hg
      have HBb := Lib.hid hb
      have HK4 := Lib.hid (hk.trans hk2)
      clear hg hb hk hk2 hd 
      go_upto_region 5 with fail
      rw [← HG4.out]
      go_wp2_with fail
      refine (HC3.out _ (HK0.out.trans (((HK1.out.trans HK2.out).trans HK3.out).trans HK4.out))).mono ?_
      rintro e g5x ⟨⟨a5, n5, c5, x5, rfl, hd⟩, hk⟩
      obtain ⟨g5, hg⟩ : ∃ g, g = g5x.alloc (.cells #[.slice a5 n5 c5, .int .i64 x5] 24) := ⟨_, rfl⟩
      obtain ⟨hb, hk2⟩ := ZBox.made hd hg
      have HG5 := Lib.hid hg
      have HBc := Lib.hid hb
      have HK5 := Lib.hid (hk.trans hk2)
      clear hg hb hk hk2 hd 
      go_upto_region 6 with fail
      rw [← HG5.out]
      have q3 := (Kept.refl _).cell HBc.out.c0
      have q4 := (Kept.refl _).cell HBc.out.c1
      go_wp2_with fail
      refine (HC4.out _ _ (HBc.out.dia.kept (Kept.refl _))).mono ?_
      rintro e g6 ⟨⟨u4, L4, rfl, hi, hs⟩, hk⟩
      have HK6 := Lib.hid hk
      have HI4 := Lib.hid hi
      have HS4 := Lib.hid hs
      clear hk q3 q4 hi hs
      have q5 := HK6.out.cell HBc.out.c0
      have q6 := HK6.out.cell HBc.out.c1
      go_wp2_with fail
      refine (HC5.out _ _ (HBc.out.dia.kept HK6.out)).mono ?_
      rintro e g7 ⟨rfl, hk⟩
      have HK7 := Lib.hid hk
      clear hk q5 q6 
      have q7 := ((HK5.out.trans HK6.out).trans HK7.out).cell HBb.out.c0
      have q8 := ((HK5.out.trans HK6.out).trans HK7.out).cell HBb.out.c1
      have q9 := ((((((HK1.out.trans HK2.out).trans HK3.out).trans HK4.out).trans HK5.out).trans HK6.out).trans HK7.out).cell HBa.out.c0
      have q10 := ((((((HK1.out.trans HK2.out).trans HK3.out).trans HK4.out).trans HK5.out).trans HK6.out).trans HK7.out).cell HBa.out.c1
      go_wp2_with fail
      refine (HSF.out _ _ _ (HBb.out.dia.kept ((HK5.out.trans HK6.out).trans HK7.out)) (HBa.out.dia.kept ((((((HK1.out.trans HK2.out).trans HK3.out).trans HK4.out).trans HK5.out).trans HK6.out).trans HK7.out))).mono ?_
      rintro e g8 ⟨rfl, hk⟩
      have HK8 := Lib.hid hk
      clear hk q7 q8 q9 q10 
      go_wp2_with fail
      refine (HSO.out _ (HK0.out.trans (((((((HK1.out.trans HK2.out).trans HK3.out).trans HK4.out).trans HK5.out).trans HK6.out).trans HK7.out).trans HK8.out))).mono ?_
      rintro e g9 ⟨⟨u9, L9, rfl, hi, hs⟩, hk⟩
      have HK9 := Lib.hid hk
      have HI9 := Lib.hid hi
      have HS9 := Lib.hid hs
      clear hk hi hs
      have HIN : Hid (Calls Try.prog 27 #[u4, u9] g9 fun e w' => e = .returned (.bool true) ∧ Kept g9 w') := Lib.hid (by
        have e9 : L9 = L4 := HS9.out.uniq HS4.out
        refine (ints_at (natI L4) (natI L9) u4 u9 _ (HI4.out.kept ((HK7.out.trans HK8.out).trans HK9.out)) HI9.out).mono ?_
        rintro e w' ⟨rfl, hk⟩
        rw [e9, decide_eq_true rfl]
        exact ⟨rfl, hk⟩)
      go_wp2_with fail
      refine (HIN.out).mono ?_
      rintro e g10 ⟨rfl, hk⟩
      have HK10 := Lib.hid hk
      clear hk 
      go_wp2_with fail
      refine (HHA.out _ (HK0.out.trans (((((((((HK1.out.trans HK2.out).trans HK3.out).trans HK4.out).trans HK5.out).trans HK6.out).trans HK7.out).trans HK8.out).trans HK9.out).trans HK10.out))).mono ?_
      rintro e g11 ⟨rfl, hk⟩
      have HK11 := Lib.hid hk
      clear hk 
      cases hb
      all_goals
        go_wp2_with fail
        go_ret
        exact ⟨rfl, (HK0.out.trans ((((((((((HK1.out.trans HK2.out).trans HK3.out).trans HK4.out).trans HK5.out).trans HK6.out).trans HK7.out).trans HK8.out).trans HK9.out).trans HK10.out).trans HK11.out))⟩
end Go.Proofs.Ytiplibgnfcdlkaa
