import Derived.WalkKit
import Derived.WalkSpells
import Derived.WalkLawsBesides
import Derived.Deep.QuietTactic
import Derived.BigQuiet
import Derived.Lib.Hide
import Derived.Shelf.Abstract
import Derived.Deep.RegionWith
import Derived.Laws.AppendOwnNone
import Derived.Lib.AppendZerosOnto
import Derived.Lib.SliceRun
import Derived.Lib.SlicesCompact
import Derived.Shelf.SlSortCmp.NoneTotal
import Derived.Maps.OwnOps
import Derived.Maps.OwnSet
import Derived.Maps.Views
import Derived.Deep.MidRow
import Derived.Deep.RegionHeld3
import Derived.Deep.AppendLies
import Derived.Deep.RegionLaw
import Derived.IntWalk
import Derived.StillTailTactics
import Derived.ProofKit
import Derived.OpenShut
import Derived.SizedLaws
import Derived.Lib.SmallJoins
import Derived.Deep.Slices
import Derived.Deep.Fields
import Derived.Deep.Strs
import Derived.Carry
import Derived.Deep.DeepCutAuto
import Derived.BigRegion
import Derived.ChangeAlike
import Derived.Deep.LoopGhost
import Derived.Lib.ItoaNum
import Derived.RegionTactic
import Derived.Shelf.SlSortCmp.PdqK
import Derived.Sort.LotA
import Derived.Sort.LotD2
import Derived.Lib.BitFns
import Derived.Deep.CutBlock
import Derived.Test.YtpaedhlacbpmpaaGreatDoorPX3
import Derived.Test.YtpaedhlacbpmpaaGreatDoorPX1
/-
  Walk: faultlineref01.Gcd.
-/
namespace Go.Proofs.YtpaedhlacbpmpaaGreatDoor
open Go.RowKit

theorem rtrim_at (v : Value) (xs : List Nat) (w : World) (hv : WdsAt w v xs) : Calls Tryz.prog 126 #[v] w fun e w' => (∃ v', e = .returned v' ∧ WdsAt w' v' (nw (nv xs))) ∧ Kept w w' :=
  (rtrim_any v xs w hv).mono fun _ _ ⟨⟨v', h1, h2⟩, h3⟩ => ⟨⟨v', h1, h2.at⟩, h3⟩
set_option maxRecDepth 100000 in
set_option maxHeartbeats 4000000 in
theorem refgcd_any (va vb : Value) (xs ys : List Nat) (w : World) (ha : WdsAt w va xs) (hb : WdsAt w vb ys) (hla : xs.length ≤ 137438953472) (hlb : ys.length ≤ 137438953472) (hA0 : nv xs ≠ 0) :
    Calls Tryz.prog 93 #[va, vb] w fun e w' => (∃ v, e = .returned v ∧ WdsAt w' v (nw (Nat.gcd (nv xs) (nv ys)))) ∧ Kept w w' := by
  have HTA := Lib.hid (fun W (hk : Kept w W) => rtrim_at va xs W (ha.kept hk))
  have HTB := Lib.hid (fun W (hk : Kept w W) => rtrim_at vb ys W (hb.kept hk))
  obtain ⟨a0, c0, rfl⟩ := ha.shape
  obtain ⟨a1, c1, rfl⟩ := hb.shape
  have HLA : Hid ((nw (nv xs)).length ≤ 137438953472) := Lib.hid (Nat.le_trans (nw_length_le ha.wd) hla)
  have HLB : Hid ((nw (nv ys)).length ≤ 137438953472) := Lib.hid (Nat.le_trans (nw_length_le hb.wd) hlb)
  generalize nv xs = A at *
  generalize nv ys = B at *
  generalize xs.length = n0 at *
  generalize ys.length = n1 at *
  have HA0 := Lib.hid hA0
  clear ha hb hla hlb hA0
  go_enter Tryz.func93, Tryz.ntmps93
  go_wp2_with fail
  refine (HTA.out _ (Kept.refl _)).mono ?_
  rintro e w1 ⟨⟨v1, rfl, hv1⟩, hk1⟩
  go_wp2_with fail
  refine (HTB.out _ hk1).mono ?_
  rintro e w2 ⟨⟨v2, rfl, hv2⟩, hk2⟩
  have H1 := Lib.hid (hv1.kept hk2)
  have H2 := Lib.hid hv2
  have HK2 := Lib.hid (hk1.trans hk2)
  clear hv1 hv2 hk1 hk2
  go_wp2_with fail
  go_loopg [0, 1] B (fun kx s0 s1 wr => ∃ (m n : Nat), Hid (WdsAt wr s0 (nw m)) ∧ Hid (WdsAt wr s1 (nw n)) ∧ n ≤ kx ∧ Hid (Nat.gcd m n = Nat.gcd A B ∧ m ≠ 0) ∧ Hid ((nw m).length ≤ 137438953472 ∧ (nw n).length ≤ 137438953472) ∧ Hid (Kept w wr))
  case atStart => exact ⟨A, B, H1, H2, Nat.le_refl _, Lib.hid ⟨rfl, HA0.out⟩, Lib.hid ⟨HLA.out, HLB.out⟩, HK2⟩
  case round =>
    obtain ⟨m, n, HS0, HS1, hkx, HG, HL, HK⟩ := hrel
    obtain ⟨a2, c2, rfl⟩ := HS0.out.shape
    obtain ⟨a3, c3, rfl⟩ := HS1.out.shape
    by_cases hn : n = 0
    · have HR : Hid (nw m = nw (Nat.gcd A B)) := Lib.hid (by rw [← HG.out.1, hn, Nat.gcd_zero_right])
      have hl : (nw n).length = 0 := by rw [hn, nw_zero]; rfl
      rw [hl]
      clear hl hn
      generalize hlm : (nw m).length = lm at *
      have HLM := Lib.hid hlm
      clear hlm
      go_wp2
      go_ret
      exact ⟨⟨_, rfl, by rw [← HR.out, ← HLM.out] ; first | exact HS0.out | (rw [HLM.out]; exact HS0.out)⟩, HK.out⟩
    · have hl : (nw n).length ≠ 0 := fun h => hn (nw_eq_nil.1 (List.eq_nil_of_length_eq_zero h))
      have HDV := Lib.hid (refdiv_any _ _ _ _ _ HS0.out HS1.out HL.out.1 HL.out.2 (by rw [nv_nw]; exact HG.out.2) (by rw [nv_nw]; exact hn))
      obtain ⟨r, hr⟩ : ∃ r, r = m % n := ⟨_, rfl⟩
      have hrn : r < n := by rw [hr]; exact Nat.mod_lt _ (by omega)
      have HN : Hid (Nat.gcd n r = Nat.gcd A B ∧ n ≠ 0) := Lib.hid ⟨by rw [← HG.out.1, hr, Nat.gcd_comm n, ← Nat.gcd_rec, Nat.gcd_comm], hn⟩
      have HLR : Hid ((nw n).length ≤ 137438953472 ∧ (nw r).length ≤ 137438953472) := Lib.hid ⟨HL.out.2, Nat.le_trans (nw_len_lt.2 (Nat.lt_trans hrn (nw_len_lt.1 (Nat.le_refl _)))) HL.out.2⟩
      have HR := Lib.hid hr
      obtain ⟨ln, hln⟩ : ∃ ln, ln = (nw n).length := ⟨_, rfl⟩
      have hlp : (0 : Int) < (ln : Int) := by omega
      have hlp2 : 0 < ln := by omega
      obtain ⟨lm, hlm⟩ : ∃ lm, lm = (nw m).length := ⟨_, rfl⟩
      rw [← hln, ← hlm] at HDV ⊢
      rw [← hln] at HS1
      clear hl hr hn hln hlm
      go_wp2_with fail
      refine HDV.out.mono ?_
      rintro e w3 ⟨⟨v3, v4, rfl, hv3, hv4⟩, hk3⟩
      rw [nv_nw, nv_nw, ← HR.out] at hv4
      have H4 := Lib.hid hv4
      have HS1' := Lib.hid (HS1.out.kept hk3)
      have HK3 := Lib.hid (HK.out.trans hk3)
      clear hv3 hv4 hk3
      go_wp2_with fail
      go_roundg r
      case measure => omega
      case rel => exact ⟨n, r, HS1', H4, Nat.le_refl _, HN, HLR, HK3⟩
end Go.Proofs.YtpaedhlacbpmpaaGreatDoor

/-
  Walks: faultlineref02.Valid, Parts.
-/
namespace Go.Proofs.YtpaedhlacbpmpaaGreatDoor
open Go.RowKit

theorem sgn_ge (q : Rat) : 0 ≤ sgnR q ↔ 0 ≤ q := by
  unfold sgnR
  by_cases h0 : q = 0
  · subst h0; simp
  · rw [if_neg h0]
    by_cases h1 : q < 0
    · rw [if_pos h1]
      constructor
      · intro h; omega
      · intro h; exact absurd h1 (Rat.not_lt.2 h)
    · rw [if_neg h1]
      exact ⟨fun _ => Rat.not_lt.1 h1, fun _ => by omega⟩
theorem sgn_le (q : Rat) : sgnR q ≤ 0 ↔ q ≤ 0 := by
  unfold sgnR
  by_cases h0 : q = 0
  · subst h0; simp
  · rw [if_neg h0]
    by_cases h1 : q < 0
    · rw [if_pos h1]
      exact ⟨fun _ => Rat.le_of_lt h1, fun _ => by omega⟩
    · rw [if_neg h1]
      constructor
      · intro h; omega
      · intro h; exact absurd (Rat.le_antisymm h (Rat.not_lt.1 h1)) h0
theorem mk_ge {a : Int} {d : Nat} (hd : d ≠ 0) : 0 ≤ mkRat a d ↔ 0 ≤ a := by
  have h : (0 : Int) < (d : Int) := by omega
  rw [← Rat.divInt_ofNat]
  exact Rat.divInt_nonneg_iff_of_pos_right h
theorem mk_le {a : Int} {d : Nat} (hd : d ≠ 0) : mkRat a d ≤ 0 ↔ a ≤ 0 := by
  have h1 : mkRat a d ≤ 0 ↔ 0 ≤ mkRat (-a) d := by
    rw [← Rat.neg_mkRat]
    constructor
    · intro h; have := Rat.neg_le_neg h; simpa using this
    · intro h; have := Rat.neg_le_neg h; simpa using this
  rw [h1, mk_ge hd]; omega
theorem mk_one {a : Int} {d : Nat} (hd : d ≠ 0) : mkRat a d - 1 = mkRat (a - d) d := by
  have h1 : (1 : Rat) = mkRat d d := by
    rw [← Rat.divInt_ofNat]
    exact (Rat.divInt_self' (by omega)).symm
  rw [h1, Rat.sub_eq_add_neg, Rat.neg_mkRat, Rat.mkRat_add_mkRat _ _ hd hd, ← Int.add_mul, Rat.mkRat_mul_right (by omega)]
  rfl
/-- Prob, said by signs. -/
theorem prob_sgn {r : Rw} (hw : r.Ok) : probR r = (validR r && (decide (0 ≤ sgnR (ratOf r)) && decide (sgnR (ratOf r - ((1 : Int) : Rat)) ≤ 0))) := by
  have e1 : (((1 : Int) : Rat)) = 1 := rfl
  rw [e1]
  cases hv : validR r with
  | false => unfold probR; rw [hv]; rfl
  | true =>
    unfold probR
    rw [hv, Bool.true_and, Bool.true_and]
    have hok := partsR_ok hw
    by_cases hn : r.num = []
    · have hz : ratOf r = 0 := by
        unfold ratOf partsR
        rw [if_neg (fun h => h.2 hn)]
        simp [sg_zero, nv, Rat.zero_mkRat]
      have h2 : r.neg = false := by
        unfold validR at hv
        by_cases hd : r.den = []
        · rw [if_pos ⟨hn, hd⟩] at hv; simpa using hv
        · rw [if_neg (fun h => hd h.2), hn] at hv; simp [plainW] at hv
      rw [hz, h2, hn]
      have a1 : sgnR 0 = 0 := rfl
      have a2 : sgnR (0 - 1) ≤ 0 := by
        have h1 : mkRat 0 1 - 1 = mkRat (0 - (1 : Nat)) 1 := mk_one (by omega)
        rw [Rat.zero_mkRat] at h1
        rw [h1]
        exact (sgn_le _).2 ((mk_le (by omega)).2 (by omega))
      rw [a1, nv_nil]
      simp [a2]
    · have hp : partsR r = (r.neg, r.num, r.den) := by unfold partsR; rw [if_pos ⟨hv, hn⟩]
      rw [hp] at hok
      simp only at hok
      have hn0 : nv r.num ≠ 0 := by
        intro h
        have := nw_nv hok.1 hok.2.2.2.1
        rw [h, nw_zero] at this
        exact hn this.symm
      have hr : ratOf r = mkRat (sg r.neg (nv r.num)) (nv r.den) := by unfold ratOf; rw [hp]
      have d1 : decide (0 ≤ sgnR (ratOf r)) = !r.neg := by
        have h : 0 ≤ sgnR (ratOf r) ↔ r.neg = false := by
          rw [hr]
          refine (sgn_ge _).trans ((mk_ge hok.2.2.1).trans ?_)
          unfold sg
          split
          · rename_i h1; rw [h1]; simp; omega
          · rename_i h1
            have : r.neg = false := by simpa using h1
            simp [this]
        rw [Bool.eq_iff_iff, decide_eq_true_iff, h]
        simp
      rw [d1]
      cases hg : r.neg with
      | true => rfl
      | false =>
        simp only [Bool.not_false, Bool.true_and]
        refine decide_eq_decide.2 ?_
        rw [hr, mk_one hok.2.2.1]
        refine Iff.symm ((sgn_le _).trans ((mk_le hok.2.2.1).trans ?_))
        unfold sg
        rw [hg, if_neg (by simp)]
        omega
theorem plain_last {xs : List Nat} {m : Nat} (h : xs.length = m + 1) : plainW xs = !(((xs.getD m 0 : Nat) : Int) == 0) := by
  unfold plainW
  rw [h, Nat.add_sub_cancel]
  by_cases h2 : xs.getD m 0 = 0
  · rw [h2]; simp
  · have : (((xs.getD m 0 : Nat) : Int) == 0) = false := by simp only [beq_eq_false_iff_ne, ne_eq]; omega
    rw [this]
    simp only [bne, beq_eq_false_iff_ne.2 h2]
    simp
set_option maxRecDepth 100000 in
set_option maxHeartbeats 4000000 in
theorem refvalid_any (v : Value) (r : Rw) (w : World) (hv : RatAt w v r) (hs : r.Short 137438953472) : Calls Tryz.prog 51 #[v] w fun e w' => e = .returned (.bool (validR r)) ∧ Kept w w' := by
  obtain ⟨neg, num, den⟩ := r
  obtain ⟨u1, u2, rfl, h1, h2⟩ := hv
  obtain ⟨hs1, hs2⟩ := hs
  simp only at h1 h2 hs1 hs2
  obtain ⟨a1, c1, rfl⟩ := h1.shape
  obtain ⟨a2, c2, rfl⟩ := h2.shape
  obtain ⟨n1, hn1⟩ : ∃ n1, n1 = num.length := ⟨_, rfl⟩
  obtain ⟨n2, hn2⟩ : ∃ n2, n2 = den.length := ⟨_, rfl⟩
  have hl1 : n1 ≤ 137438953472 := by omega
  have hl2 : n2 ≤ 137438953472 := by omega
  rw [← hn1] at h1 ⊢
  rw [← hn2] at h2 ⊢
  have HK0 : Hid (Kept w (w.alloc (.cells #[.bool neg, .slice a1 n1 c1, .slice a2 n2 c2] 38))) := Lib.hid ((Kept.refl w).alloc _)
  have e1n : n1 = 0 → num = [] := fun h => List.eq_nil_of_length_eq_zero (hn1.symm.trans h)
  have e2n : n2 = 0 → den = [] := fun h => List.eq_nil_of_length_eq_zero (hn2.symm.trans h)
  by_cases e1 : n1 = 0
  · by_cases e2 : n2 = 0
    · have hV : validR ⟨neg, num, den⟩ = !neg := by unfold validR; rw [if_pos ⟨e1n e1, e2n e2⟩]
      rw [hV]
      subst e1 e2
      clear h1 h2 hn1 hn2 hV e1n e2n
      go_enter Tryz.func51, Tryz.ntmps51
      go_wp2_with fail
      go_quiet (fail)
      go_wp2
      go_ret
      exact ⟨rfl, HK0.out.drewN _⟩
    · have hV : validR ⟨neg, num, den⟩ = false := by
        unfold validR
        rw [if_neg (fun h => e2 (hn2.trans (congrArg List.length h.2))), e1n e1]
        simp [plainW]
      rw [hV]
      have hb2 : ((n2 : Int) == 0) = false := by simp; exact e2
      subst e1
      clear h1 h2 hn1 hn2 hV e1n e2n e2
      go_enter Tryz.func51, Tryz.ntmps51
      go_wp2_with fail
      go_quiet (fail)
      go_wp2
      go_ret
      exact ⟨rfl, HK0.out.drewN _⟩
  · by_cases e2 : n2 = 0
    · have hV : validR ⟨neg, num, den⟩ = false := by
        unfold validR
        rw [if_neg (fun h => e1 (hn1.trans (congrArg List.length h.1))), e2n e2]
        simp [plainW]
      rw [hV]
      have hb1 : ((n1 : Int) == 0) = false := by simp; exact e1
      subst e2
      clear h1 h2 hn1 hn2 hV e1n e2n e1
      go_enter Tryz.func51, Tryz.ntmps51
      go_wp2_with fail
      go_quiet (fail)
      go_wp2
      go_ret
      exact ⟨rfl, HK0.out.drewN _⟩
    · have hV : validR ⟨neg, num, den⟩ = (plainW num && plainW den && (Nat.gcd (nv num) (nv den) == 1)) := by unfold validR; rw [if_neg (fun h => e1 (hn1.trans (congrArg List.length h.1)))]
      rw [hV]
      have hb1 : ((n1 : Int) == 0) = false := by simp; exact e1
      have hb2 : ((n2 : Int) == 0) = false := by simp; exact e2
      obtain ⟨m1, hm1⟩ : ∃ m1, n1 = m1 + 1 := ⟨n1 - 1, by omega⟩
      obtain ⟨m2, hm2⟩ : ∃ m2, n2 = m2 + 1 := ⟨n2 - 1, by omega⟩
      have hp1 := plain_last (hn1.symm.trans hm1)
      have hp2 := plain_last (hn2.symm.trans hm2)
      have HGC : Hid (plainW num = true → ∀ W, Kept w W → Calls Tryz.prog 93 #[.slice a1 n1 c1, .slice a2 n2 c2] W fun e w' => (∃ v, e = .returned v ∧ WdsAt w' v (nw (Nat.gcd (nv num) (nv den)))) ∧ Kept W w') := Lib.hid (fun hpl W hk => refgcd_any _ _ num den W (h1.kept hk) (h2.kept hk) hs1 hs2 (nv_ne_zero h1.wd hpl))
      obtain ⟨b1, o1, rfl, hc1⟩ := h1.get m1 (by omega)
      obtain ⟨b2, o2, rfl, hc2⟩ := h2.get m2 (by omega)
      obtain ⟨x1, hx1⟩ : ∃ x1, x1 = num.getD m1 0 := ⟨_, rfl⟩
      obtain ⟨x2, hx2⟩ : ∃ x2, x2 = den.getD m2 0 := ⟨_, rfl⟩
      rw [← hx1] at hc1 hp1
      rw [← hx2] at hc2 hp2
      have d1 := fun k => (HK0.out.drewN k).cell hc1
      have d2 := fun k => (HK0.out.drewN k).cell hc2
      have t1 : (n1 : Int) - 1 = (m1 : Int) := by omega
      have t2 : (n2 : Int) - 1 = (m2 : Int) := by omega
      have q1 : (m1 : Int) < (n1 : Int) := by omega
      have q2 : (m2 : Int) < (n2 : Int) := by omega
      have q1' : m1 < n1 := by omega
      have q2' : m2 < n2 := by omega
      generalize plainW num = p1 at *
      generalize plainW den = p2 at *
      generalize Nat.gcd (nv num) (nv den) = g at *
      obtain ⟨bg, hbg⟩ : ∃ bg, (g == 1) = bg := ⟨_, rfl⟩
      have HG1 : Hid (∀ W v1, WdsAt W v1 (nw g) → Calls Tryz.prog 92 #[v1] W fun e w' => (∃ k : Nat, e = .returned (.int .i64 k) ∧ ((k : Int) == 1) = bg) ∧ w' = W) := Lib.hid fun W v1 k1 =>
        (refbits_any v1 _ W k1).mono fun _ _ ⟨⟨k, h3, h4⟩, h5⟩ => ⟨⟨k, h3, by
          rw [nv_nw] at h4
          rw [← hbg]
          have := h4.iff1
          by_cases hg : g = 1
          · rw [this.2 hg, hg]; rfl
          · have hk : k ≠ 1 := fun e => hg (this.1 e)
            rw [show (g == 1) = false by simp; exact hg]
            simp only [beq_eq_false_iff_ne, ne_eq]; omega⟩, h5⟩
      rw [hbg]
      obtain ⟨z1, hz1⟩ : ∃ z1, ((x1 : Int) == 0) = z1 := ⟨_, rfl⟩
      obtain ⟨z2, hz2⟩ : ∃ z2, ((x2 : Int) == 0) = z2 := ⟨_, rfl⟩
      have y1 : ((x1 : Int) != 0) = !z1 := by simp only [bne, hz1]
      have y2 : ((x2 : Int) != 0) = !z2 := by simp only [bne, hz2]
      rw [hz1] at hp1
      rw [hz2] at hp2
      subst hp1 hp2
      clear h1 h2 hn1 hn2 hV e1n e2n e1 e2 hx1 hx2 hbg hm1 hm2 hs1 hs2
      cases z1 with
      | true =>
        simp only [Bool.not_true] at y1 ⊢
        go_enter Tryz.func51, Tryz.ntmps51
        go_wp2_with fail
        go_quiet (fail)
        go_wp2
        go_ret
        exact ⟨by simp, HK0.out.drewN _⟩
      | false =>
        have HGT := Lib.hid (HGC.out rfl)
        simp only [Bool.not_false] at y1 ⊢
        cases z2 with
        | true =>
          simp only [Bool.not_true] at y2 ⊢
          go_enter Tryz.func51, Tryz.ntmps51
          go_wp2_with fail
          go_quiet (fail)
          go_wp2
          go_ret
          exact ⟨by simp, HK0.out.drewN _⟩
        | false =>
          simp only [Bool.not_false] at y2 ⊢
          go_enter Tryz.func51, Tryz.ntmps51
          go_wp2_with fail
          go_quiet (fail)
          go_wp2_with (first
            | (go_at_call 93; (with_reducible refine (HGT.out _ (HK0.out.drewN _)).mono ?_); rintro e w2 ⟨⟨vg, rfl, hvg⟩, hk2⟩; have HVG := Lib.hid hvg; have HK2 := Lib.hid ((HK0.out.drewN _).trans hk2); clear hvg hk2)
            | (go_at_call 92; (with_reducible refine (HG1.out _ _ HVG.out).mono ?_); rintro e w4 ⟨⟨kb, rfl, hkb⟩, rfl⟩))
          go_ret
          exact ⟨by simp, HK2.out⟩
end Go.Proofs.YtpaedhlacbpmpaaGreatDoor

/-
  Walks: faultlineref02.Parts, From.
-/
namespace Go.Proofs.YtpaedhlacbpmpaaGreatDoor
open Go.RowKit

set_option maxRecDepth 100000 in
set_option maxHeartbeats 4000000 in
theorem refparts_any (v : Value) (r : Rw) (w : World) (hv : RatAt w v r) (hs : r.Short 137438953472) : Calls Tryz.prog 94 #[v] w fun e w' => (∃ u1 u2, e = .returned (.tuple #[.bool (partsR r).1, u1, u2]) ∧ WdsAt w' u1 (partsR r).2.1 ∧ WdsAt w' u2 (partsR r).2.2) ∧ Kept w w' := by
  have HVA := Lib.hid (fun W (hk : Kept w W) => refvalid_any v r W (hv.kept hk) hs)
  obtain ⟨neg, num, den⟩ := r
  obtain ⟨u1, u2, rfl, h1, h2⟩ := hv
  simp only at h1 h2
  obtain ⟨a1, c1, rfl⟩ := h1.shape
  obtain ⟨a2, c2, rfl⟩ := h2.shape
  obtain ⟨n1, hn1⟩ : ∃ n1, n1 = num.length := ⟨_, rfl⟩
  obtain ⟨n2, hn2⟩ : ∃ n2, n2 = den.length := ⟨_, rfl⟩
  rw [← hn1] at h1 HVA ⊢
  rw [← hn2] at h2 HVA ⊢
  have H1 := Lib.hid h1
  have H2 := Lib.hid h2
  obtain ⟨w1, hw1⟩ : ∃ w1, w1 = w.alloc (.cells #[.bool neg, .slice a1 n1 c1, .slice a2 n2 c2] 38) := ⟨_, rfl⟩
  have HR : Hid (RowAt w1 w.heap.size 38 [.bool neg, .slice a1 n1 c1, .slice a2 n2 c2]) := Lib.hid (by rw [hw1]; exact RowAt.made w #[.bool neg, .slice a1 n1 c1, .slice a2 n2 c2] 38)
  have HK0 : Hid (Kept w w1) := Lib.hid (by rw [hw1]; exact (Kept.refl w).alloc _)
  have q0 := HR.out.cell (i := 0) (by simp)
  have q1 := HR.out.cell (i := 1) (by simp)
  have q2 := HR.out.cell (i := 2) (by simp)
  simp only [List.getElem_cons_succ, List.getElem_cons_zero] at q0 q1 q2
  have HW1 := Lib.hid hw1
  clear hw1
  by_cases hg : validR ⟨neg, num, den⟩ = true ∧ num ≠ []
  · have hP : partsR ⟨neg, num, den⟩ = (neg, num, den) := by unfold partsR; rw [if_pos hg]
    rw [hP]
    rw [hg.1] at HVA
    have hb1 : ((n1 : Int) == 0) = false := by
      have : n1 ≠ 0 := fun h => hg.2 (List.eq_nil_of_length_eq_zero (hn1.symm.trans h))
      simp; exact this
    clear h1 h2 hP hg hn1 hn2 hs
    go_enter Tryz.func94, Tryz.ntmps94
    go_wp2_with fail
    rw [← HW1.out]
    refine (HVA.out _ HK0.out).mono ?_
    rintro e w2 ⟨rfl, hk2⟩
    have y0 := hk2.cell q0
    have y1 := hk2.cell q1
    have y2 := hk2.cell q2
    have HK2 := Lib.hid (HK0.out.trans hk2)
    clear hk2 q0 q1 q2
    go_wp2_with fail
    go_quiet (fail)
    go_wp2
    go_ret3
    exact ⟨⟨_, _, rfl, H1.out.kept (HK2.out.drewN _), H2.out.kept (HK2.out.drewN _)⟩, HK2.out.drewN _⟩
  · have hP : partsR ⟨neg, num, den⟩ = (false, [], [1]) := by unfold partsR; rw [if_neg hg]
    rw [hP]
    by_cases hvv : validR ⟨neg, num, den⟩ = true
    · have h0 : n1 = 0 := by
        rw [hn1]
        by_cases h : num = []
        · rw [h]; rfl
        · exact absurd ⟨hvv, h⟩ hg
      rw [hvv] at HVA
      subst h0
      clear h1 h2 hP hg hn1 hn2 hs hvv
      go_enter Tryz.func94, Tryz.ntmps94
      go_wp2_with fail
      rw [← HW1.out]
      refine (HVA.out _ HK0.out).mono ?_
      rintro e w2 ⟨rfl, hk2⟩
      have y1 := hk2.cell q1
      have HK2 := Lib.hid (HK0.out.trans hk2)
      clear hk2 q0 q1 q2
      go_wp2
      go_ret3
      exact ⟨⟨_, _, rfl, WdsAt.nil _, wds_new1 _ 1 (by omega)⟩, HK2.out.alloc _⟩
    · have hvf : validR ⟨neg, num, den⟩ = false := by simpa using hvv
      rw [hvf] at HVA
      clear h1 h2 hP hg hn1 hn2 hs hvv hvf
      go_enter Tryz.func94, Tryz.ntmps94
      go_wp2_with fail
      rw [← HW1.out]
      refine (HVA.out _ HK0.out).mono ?_
      rintro e w2 ⟨rfl, hk2⟩
      have HK2 := Lib.hid (HK0.out.trans hk2)
      clear hk2 q0 q1 q2
      go_wp2
      go_ret3
      exact ⟨⟨_, _, rfl, WdsAt.nil _, wds_new1 _ 1 (by omega)⟩, HK2.out.alloc _⟩
set_option maxRecDepth 100000 in
set_option maxHeartbeats 4000000 in
theorem reffrom_any (neg : Bool) (va vb : Value) (xs ys : List Nat) (w : World) (ha : WdsAt w va xs) (hb : WdsAt w vb ys) (hla : xs.length ≤ 137438953472) (hlb : ys.length ≤ 137438953472) (hd : nv ys ≠ 0) :
    Calls Tryz.prog 99 #[.bool neg, va, vb] w fun e w' => (∃ v, e = .returned (.tuple #[v, .int .i64 0]) ∧ RatAt w' v (formR neg (nv xs) (nv ys))) ∧ Kept w w' := by
  have HGL : Hid ((nw (Nat.gcd (nv xs) (nv ys))).length ≤ 137438953472) := Lib.hid (Nat.le_trans (nw_mono_len (Nat.le_of_dvd (by omega) (Nat.gcd_dvd_right _ _))) (Nat.le_trans (nw_length_le hb.wd) hlb))
  have HBD := Lib.hid (fun W (hk : Kept w W) => refbits_any vb ys W (hb.kept hk))
  have HB := Lib.hid (fun W (hk : Kept w W) => refbits_any va xs W (ha.kept hk))
  have HG := Lib.hid (fun W (hk : Kept w W) (h0 : nv xs ≠ 0) => refgcd_any va vb xs ys W (ha.kept hk) (hb.kept hk) hla hlb h0)
  have HD1 : Hid (∀ W vg, Kept w W → WdsAt W vg (nw (Nat.gcd (nv xs) (nv ys))) → nv xs ≠ 0 → Calls Tryz.prog 127 #[va, vg] W fun e w' => (∃ v1 v2, e = .returned (.tuple #[v1, v2, .int .i64 0]) ∧ WdsAt w' v1 (nw (nv xs / Nat.gcd (nv xs) (nv ys)))) ∧ Kept W w') := Lib.hid fun W vg hk hg h0 =>
    (refdiv_any va vg xs _ W (ha.kept hk) hg hla (HGL.out) h0 (by rw [nv_nw]; exact fun h => hd (Nat.eq_zero_of_gcd_eq_zero_right h))).mono fun _ _ ⟨⟨v1, v2, h1, h2, _⟩, h3⟩ => ⟨⟨v1, v2, h1, by rw [nv_nw] at h2; exact h2⟩, h3⟩
  have HD2 : Hid (∀ W vg, Kept w W → WdsAt W vg (nw (Nat.gcd (nv xs) (nv ys))) → Calls Tryz.prog 127 #[vb, vg] W fun e w' => (∃ v1 v2, e = .returned (.tuple #[v1, v2, .int .i64 0]) ∧ WdsAt w' v1 (nw (nv ys / Nat.gcd (nv xs) (nv ys)))) ∧ Kept W w') := Lib.hid fun W vg hk hg =>
    (refdiv_any vb vg ys _ W (hb.kept hk) hg hlb (HGL.out) hd (by rw [nv_nw]; exact fun h => hd (Nat.eq_zero_of_gcd_eq_zero_right h))).mono fun _ _ ⟨⟨v1, v2, h1, h2, _⟩, h3⟩ => ⟨⟨v1, v2, h1, by rw [nv_nw] at h2; exact h2⟩, h3⟩
  obtain ⟨a0, c0, rfl⟩ := ha.shape
  obtain ⟨a1, c1, rfl⟩ := hb.shape
  generalize xs.length = n0 at *
  generalize ys.length = n1 at *
  obtain ⟨w1, hw1⟩ : ∃ w1, w1 = w.alloc (.cells #[.bool false, .slice none 0 0, .slice none 0 0] 38) := ⟨_, rfl⟩
  have HR : Hid (RowAt w1 w.heap.size 38 [.bool false, .slice none 0 0, .slice none 0 0]) := Lib.hid (by rw [hw1]; exact RowAt.made w #[.bool false, .slice none 0 0, .slice none 0 0] 38)
  have HK0 : Hid (Kept w w1) := Lib.hid (by rw [hw1]; exact (Kept.refl w).alloc _)
  have HFX : Hid (FixAt w1 w.heap.size [.bool false, .slice none 0 0, .slice none 0 0]) := Lib.hid (by rw [hw1]; exact FixAt.made w #[.bool false, .slice none 0 0, .slice none 0 0] 38)
  have HW1 := Lib.hid hw1
  have HD0 := Lib.hid hd
  clear hw1 ha hb hla hlb hd
  by_cases h0 : nv xs = 0
  · have hF : formR neg (nv xs) (nv ys) = ⟨false, [], []⟩ := by unfold formR; rw [if_pos h0]
    rw [hF]
    have H0 := Lib.hid h0
    clear hF h0
    go_enter Tryz.func99, Tryz.ntmps99
    go_wp2_with fail
    rw [← HW1.out]
    refine (HBD.out _ HK0.out).mono ?_
    rintro e w2 ⟨⟨kd, rfl, hkd⟩, rfl⟩
    have hkd0 : ((kd : Int) == 0) = false := by
      have : kd ≠ 0 := fun h => HD0.out (hkd.iff0.1 h)
      simp; exact this
    clear hkd
    go_wp2_with fail
    refine (HB.out _ HK0.out).mono ?_
    rintro e w2 ⟨⟨k, rfl, hk⟩, rfl⟩
    have hk0 : k = 0 := hk.iff0.2 H0.out
    subst hk0
    clear hk
    have g0 := HR.out.cell (i := 0) (by simp)
    have g1 := HR.out.cell (i := 1) (by simp)
    have g2 := HR.out.cell (i := 2) (by simp)
    have f0 := HR.out.free 0
    have f1 := HR.out.free 1
    have f2 := HR.out.free 2
    go_wp2
    have hF := (((HR.out.store 0 (.bool false)).store 1 (.slice none 0 0)).store 2 (.slice none 0 0))
    have y0 := hF.cell (i := 0) (by simp)
    have y1 := hF.cell (i := 1) (by simp)
    have y2 := hF.cell (i := 2) (by simp)
    simp only [List.set_cons_zero, List.set_cons_succ, List.getElem_cons_succ, List.getElem_cons_zero] at y0 y1 y2
    refine bodyPost_ret (v := .tuple #[.agg #[.bool false, .slice none 0 0, .slice none 0 0], .int .i64 0]) ?_ rfl ⟨⟨_, rfl, RatAt.zero _⟩, ?_⟩
    · simp [results, Tryz.results99, go_sem, y0, y1, y2]
    · exact ((HK0.out.store (Nat.le_refl _) _ _).store (Nat.le_refl _) _ _).store (Nat.le_refl _) _ _
  · have hF : formR neg (nv xs) (nv ys) = ⟨neg, nw (nv xs / Nat.gcd (nv xs) (nv ys)), nw (nv ys / Nat.gcd (nv xs) (nv ys))⟩ := by unfold formR; rw [if_neg h0]
    rw [hF]
    have H0 := Lib.hid h0
    clear hF h0
    generalize nw (nv xs / Nat.gcd (nv xs) (nv ys)) = P at *
    generalize nw (nv ys / Nat.gcd (nv xs) (nv ys)) = Q at *
    generalize nw (Nat.gcd (nv xs) (nv ys)) = G at *
    go_enter Tryz.func99, Tryz.ntmps99
    go_wp2_with fail
    rw [← HW1.out]
    refine (HBD.out _ HK0.out).mono ?_
    rintro e w2 ⟨⟨kd, rfl, hkd⟩, rfl⟩
    have hkd0 : ((kd : Int) == 0) = false := by
      have : kd ≠ 0 := fun h => HD0.out (hkd.iff0.1 h)
      simp; exact this
    clear hkd
    go_wp2_with fail
    refine (HB.out _ HK0.out).mono ?_
    rintro e w2 ⟨⟨k, rfl, hk⟩, rfl⟩
    have hk0 : ((k : Int) == 0) = false := by
      have : k ≠ 0 := fun h => H0.out (hk.iff0.1 h)
      simp; exact this
    clear hk
    go_wp2_with fail
    refine (HG.out _ HK0.out H0.out).mono ?_
    rintro e w3 ⟨⟨v3, rfl, hv3⟩, hk3⟩
    have HV3 := Lib.hid hv3
    have HK3 := Lib.hid (HK0.out.trans hk3)
    have HR3 := Lib.hid (HR.out.kept hk3)
    have HFX3 := Lib.hid (HFX.out.kept hk3)
    clear hv3 hk3 hk0
    go_wp2_with fail
    refine (HD1.out _ _ HK3.out HV3.out H0.out).mono ?_
    rintro e w4 ⟨⟨v4, v5, rfl, hv4⟩, hk4⟩
    have HV4 := Lib.hid hv4
    have HV3' := Lib.hid (HV3.out.kept hk4)
    have HK4 := Lib.hid (HK3.out.trans hk4)
    have HR4 := Lib.hid (HR3.out.kept hk4)
    have HFX4 := Lib.hid (HFX3.out.kept hk4)
    clear hv4 hk4
    go_wp2_with fail
    refine (HD2.out _ _ HK4.out HV3'.out).mono ?_
    rintro e w5 ⟨⟨v6, v7, rfl, hv6⟩, hk5⟩
    have HV6 := Lib.hid hv6
    have HV4' := Lib.hid (HV4.out.kept hk5)
    have HK5 := Lib.hid (HK4.out.trans hk5)
    have HR5 := Lib.hid (HR4.out.kept hk5)
    have HFX5 := Lib.hid (HFX4.out.kept hk5)
    clear hv6 hk5
    obtain ⟨a4, c4, rfl⟩ := HV4'.out.shape
    obtain ⟨a6, c6, rfl⟩ := HV6.out.shape
    have g0 := HR5.out.cell (i := 0) (by simp)
    have g1 := HR5.out.cell (i := 1) (by simp)
    have g2 := HR5.out.cell (i := 2) (by simp)
    have f0 := HR5.out.free 0
    have f1 := HR5.out.free 1
    have f2 := HR5.out.free 2
    go_wp2
    have hF := (((HR5.out.store 0 (.bool neg)).store 1 (.slice a4 P.length c4)).store 2 (.slice a6 Q.length c6))
    have y0 := hF.cell (i := 0) (by simp)
    have y1 := hF.cell (i := 1) (by simp)
    have y2 := hF.cell (i := 2) (by simp)
    simp only [List.set_cons_zero, List.set_cons_succ, List.getElem_cons_succ, List.getElem_cons_zero] at y0 y1 y2
    have hO := (((OnlyAt.refl w.heap.size w5).store 0 (.bool neg)).store 1 (.slice a4 P.length c4)).store 2 (.slice a6 Q.length c6)
    have z1 := HV4'.out.apart HFX5.out (by simp) hO
    have z2 := HV6.out.apart HFX5.out (by simp) hO
    refine bodyPost_ret (v := .tuple #[.agg #[.bool neg, .slice a4 P.length c4, .slice a6 Q.length c6], .int .i64 0]) ?_ rfl ⟨⟨_, rfl, ⟨_, _, rfl, z1, z2⟩⟩, ?_⟩
    · simp [results, Tryz.results99, go_sem, y0, y1, y2]
    · exact ((HK5.out.store (Nat.le_refl _) _ _).store (Nat.le_refl _) _ _).store (Nat.le_refl _) _ _
end Go.Proofs.YtpaedhlacbpmpaaGreatDoor

/-
  Walks: faultlineref02.size, Make (of a whole number), Of.
-/
namespace Go.Proofs.YtpaedhlacbpmpaaGreatDoor
open Go.RowKit

/-- As rat_stored, with a block that was made besides. -/
theorem rat_stored2 {w : World} {g : Nat} {T : TypeId} {v1 v2 : Value} {r : Rw} (C : Obj) (hr : RowAt w g T [.bool false, .slice none 0 0, .slice none 0 0]) (hf : FixAt w g [.bool false, .slice none 0 0, .slice none 0 0]) (h1 : WdsAt w v1 r.num) (h2 : WdsAt w v2 r.den) :
    ((((w.setCell ⟨g, 0, none⟩ (.bool r.neg)).setCell ⟨g, 1, none⟩ v1).setCell ⟨g, 2, none⟩ v2).alloc C).cell? ⟨g, 0, none⟩ = some (.bool r.neg) ∧
    ((((w.setCell ⟨g, 0, none⟩ (.bool r.neg)).setCell ⟨g, 1, none⟩ v1).setCell ⟨g, 2, none⟩ v2).alloc C).cell? ⟨g, 1, none⟩ = some v1 ∧
    ((((w.setCell ⟨g, 0, none⟩ (.bool r.neg)).setCell ⟨g, 1, none⟩ v1).setCell ⟨g, 2, none⟩ v2).alloc C).cell? ⟨g, 2, none⟩ = some v2 ∧
    RatAt ((((w.setCell ⟨g, 0, none⟩ (.bool r.neg)).setCell ⟨g, 1, none⟩ v1).setCell ⟨g, 2, none⟩ v2).alloc C) (.agg #[.bool r.neg, v1, v2]) r := by
  obtain ⟨y0, y1, y2, hra⟩ := rat_stored hr hf h1 h2
  have hk := (Kept.refl (((w.setCell ⟨g, 0, none⟩ (.bool r.neg)).setCell ⟨g, 1, none⟩ v1).setCell ⟨g, 2, none⟩ v2)).alloc C
  exact ⟨hk.cell y0, hk.cell y1, hk.cell y2, hra.kept hk⟩
set_option maxRecDepth 100000 in
set_option maxHeartbeats 2000000 in
theorem refsz_any (n : Nat) (w : World) (hn : n < 9223372036854775808) : Calls Tryz.prog 138 #[.int .i64 n] w fun e w' => (∃ v' xs, e = .returned v' ∧ WdsAt w' v' xs ∧ nv xs = n ∧ xs.length = 2) ∧ Kept w w' := by
  obtain ⟨x, hx⟩ : ∃ x, x = n % 4294967296 := ⟨_, rfl⟩
  obtain ⟨y, hy⟩ : ∃ y, y = n / 4294967296 := ⟨_, rfl⟩
  have hx9 : x < 4294967296 := by omega
  have hy9 : y < 4294967296 := by omega
  have HV : Hid (nv [x, y] = n) := Lib.hid (by simp [nv]; omega)
  have e0 : IntKind.u64.wrap (n : Int) = (n : Int) := by rw [IntKind.wrap_u64]; omega
  have e1 : IntKind.u32.wrap (n : Int) = (x : Int) := by rw [IntKind.wrap_u32]; omega
  have e2 : (n : Int) / 4294967296 = (y : Int) := by omega
  have e3 : IntKind.u32.wrap (y : Int) = (y : Int) := by rw [IntKind.wrap_u32]; omega
  have hp : ¬ (n : Int) < 0 := by omega
  clear hx hy
  go_enter Tryz.func138, Tryz.ntmps138
  go_wp2
  go_ret
  exact ⟨⟨_, rfl, [x, y], wds_new2 w x y hx9 hy9, HV.out, rfl⟩, (Kept.refl _).alloc _⟩
set_option maxRecDepth 100000 in
set_option maxHeartbeats 4000000 in
theorem refmake_any (n : Nat) (w : World) (hn : n < 9223372036854775808) : Calls Tryz.prog 110 #[.int .i64 n, .int .i64 1] w fun e w' => (∃ v', e = .returned (.tuple #[v', .int .i64 0]) ∧ RatAt w' v' (canR ((n : Int) : Rat))) ∧ Kept w w' := by
  have HS1 := Lib.hid (fun W => refsz_any n W hn)
  have HS2 : Hid (∀ W, Calls Tryz.prog 138 #[.int .i64 1] W fun e w' => (∃ v' xs, e = .returned v' ∧ WdsAt w' v' xs ∧ nv xs = 1 ∧ xs.length = 2) ∧ Kept W w') := Lib.hid fun W => refsz_any 1 W (by omega)
  obtain ⟨R, hR⟩ : ∃ R, R = canR ((n : Int) : Rat) := ⟨_, rfl⟩
  have HFO : Hid (∀ W u1 u2 xs ys, WdsAt W u1 xs → WdsAt W u2 ys → nv xs = n → nv ys = 1 → xs.length = 2 → ys.length = 2 → Calls Tryz.prog 99 #[.bool false, u1, u2] W fun e w' => (∃ v, e = .returned (.tuple #[v, .int .i64 0]) ∧ RatAt w' v R) ∧ Kept W w') := Lib.hid fun W u1 u2 xs ys k1 k2 n1 n2 l1 l2 => by
    have h := reffrom_any false u1 u2 xs ys W k1 k2 (by omega) (by omega) (by omega)
    rw [n1, n2, form_can _ _ _ (by omega), show sg false n = (n : Int) from rfl, Rat.mkRat_one, ← hR] at h
    exact h
  rw [← hR]
  obtain ⟨w2, hw2⟩ : ∃ w2, w2 = w.alloc (.cells #[.bool false, .slice none 0 0, .slice none 0 0] 38) := ⟨_, rfl⟩
  have HR : Hid (RowAt w2 w.heap.size 38 [.bool false, .slice none 0 0, .slice none 0 0]) := Lib.hid (by rw [hw2]; exact RowAt.made w #[.bool false, .slice none 0 0, .slice none 0 0] 38)
  have HFX : Hid (FixAt w2 w.heap.size [.bool false, .slice none 0 0, .slice none 0 0]) := Lib.hid (by rw [hw2]; exact FixAt.made w #[.bool false, .slice none 0 0, .slice none 0 0] 38)
  have HK0 : Hid (Kept w w2) := Lib.hid (by rw [hw2]; exact (Kept.refl w).alloc _)
  have HW2 := Lib.hid hw2
  have hn0 : ¬ (n : Int) < 0 := by omega
  clear hw2 hR
  go_enter Tryz.func110, Tryz.ntmps110
  go_wp2_with fail
  rw [← HW2.out]
  refine (HS1.out _).mono ?_
  rintro e w3 ⟨⟨v3, xs, rfl, hv3, hn3, hl3⟩, hk3⟩
  have HV3 := Lib.hid hv3
  have HN3 := Lib.hid (And.intro hn3 hl3)
  have HR3 := Lib.hid (HR.out.kept hk3)
  have HF3 := Lib.hid (HFX.out.kept hk3)
  have HK3 := Lib.hid (HK0.out.trans hk3)
  clear hv3 hk3 hn3 hl3
  go_wp2_with fail
  refine (HS2.out _).mono ?_
  rintro e w4 ⟨⟨v4, ys, rfl, hv4, hn4, hl4⟩, hk4⟩
  have HV4 := Lib.hid hv4
  have HN4 := Lib.hid (And.intro hn4 hl4)
  have HV3' := Lib.hid (HV3.out.kept hk4)
  have HR4 := Lib.hid (HR3.out.kept hk4)
  have HF4 := Lib.hid (HF3.out.kept hk4)
  have HK4 := Lib.hid (HK3.out.trans hk4)
  clear hv4 hk4 hn4 hl4
  go_wp2_with fail
  refine (HFO.out _ _ _ _ _ HV3'.out HV4.out HN3.out.1 HN4.out.1 HN3.out.2 HN4.out.2).mono ?_
  rintro e w10 ⟨⟨v10, rfl, hv10⟩, hk10⟩
  have hr10 := HR4.out.kept hk10
  have HF10 := Lib.hid (HF4.out.kept hk10)
  have HK10 := Lib.hid (HK4.out.trans hk10)
  obtain ⟨u7, u8, rfl, k7, k8⟩ := hv10
  obtain ⟨a7, c7, rfl⟩ := k7.shape
  obtain ⟨a8, c8, rfl⟩ := k8.shape
  obtain ⟨y0, y1, y2, hra⟩ := rat_stored hr10 HF10.out k7 k8
  have g0 := hr10.cell (i := 0) (by simp)
  have g1 := hr10.cell (i := 1) (by simp)
  have g2 := hr10.cell (i := 2) (by simp)
  have f0 := hr10.free 0
  have f1 := hr10.free 1
  have f2 := hr10.free 2
  have HRA := Lib.hid hra
  have Y0 := Lib.hid y0
  have Y1 := Lib.hid y1
  have Y2 := Lib.hid y2
  clear hra y0 y1 y2 k7 k8 hr10 hk10
  generalize R.num.length = n7 at *
  generalize R.den.length = n8 at *
  go_wp2
  refine bodyPost_ret (v := .tuple #[.agg #[.bool R.neg, .slice a7 n7 c7, .slice a8 n8 c8], .int .i64 0]) ?_ rfl ⟨⟨_, rfl, HRA.out⟩, ?_⟩
  · simp [results, Tryz.results110, go_sem, Y0.out, Y1.out, Y2.out]
  · exact ((HK10.out.store (by omega) _ _).store (by omega) _ _).store (by omega) _ _
set_option maxRecDepth 100000 in
set_option maxHeartbeats 4000000 in
theorem refof_any (n : Nat) (w : World) (hn : n < 9223372036854775808) : Calls Tryz.prog 74 #[.int .i64 n] w fun e w' => (∃ v', e = .returned v' ∧ RatAt w' v' (canR ((n : Int) : Rat))) ∧ Kept w w' := by
  have HMA := Lib.hid (fun W => refmake_any n W hn)
  generalize canR ((n : Int) : Rat) = R at *
  obtain ⟨w2, hw2⟩ : ∃ w2, w2 = w.alloc (.cells #[.bool false, .slice none 0 0, .slice none 0 0] 38) := ⟨_, rfl⟩
  have HR : Hid (RowAt w2 w.heap.size 38 [.bool false, .slice none 0 0, .slice none 0 0]) := Lib.hid (by rw [hw2]; exact RowAt.made w #[.bool false, .slice none 0 0, .slice none 0 0] 38)
  have HFX : Hid (FixAt w2 w.heap.size [.bool false, .slice none 0 0, .slice none 0 0]) := Lib.hid (by rw [hw2]; exact FixAt.made w #[.bool false, .slice none 0 0, .slice none 0 0] 38)
  have HK0 : Hid (Kept w w2) := Lib.hid (by rw [hw2]; exact (Kept.refl w).alloc _)
  have HW2 := Lib.hid hw2
  clear hw2
  go_enter Tryz.func74, Tryz.ntmps74
  go_wp2_with fail
  rw [← HW2.out]
  refine (HMA.out _).mono ?_
  rintro e w10 ⟨⟨v10, rfl, hv10⟩, hk10⟩
  have hr10 := HR.out.kept hk10
  have HF10 := Lib.hid (HFX.out.kept hk10)
  have HK10 := Lib.hid (HK0.out.trans hk10)
  obtain ⟨u7, u8, rfl, k7, k8⟩ := hv10
  obtain ⟨a7, c7, rfl⟩ := k7.shape
  obtain ⟨a8, c8, rfl⟩ := k8.shape
  obtain ⟨y0, y1, y2, hra⟩ := rat_stored2 (.cells #[.bool R.neg, .slice a7 R.num.length c7, .slice a8 R.den.length c8] 38) hr10 HF10.out k7 k8
  have hlt := hr10.lt
  have HRA := Lib.hid hra
  have Y0 := Lib.hid y0
  have Y1 := Lib.hid y1
  have Y2 := Lib.hid y2
  have g0 := hr10.cell (i := 0) (by simp)
  have g1 := hr10.cell (i := 1) (by simp)
  have g2 := hr10.cell (i := 2) (by simp)
  have f0 := hr10.free 0
  have f1 := hr10.free 1
  have f2 := hr10.free 2
  clear hra y0 y1 y2 k7 k8 hr10 hk10
  generalize R.num.length = n7 at *
  generalize R.den.length = n8 at *
  go_wp2
  refine bodyPost_ret (v := .agg #[.bool R.neg, .slice a7 n7 c7, .slice a8 n8 c8]) ?_ rfl ⟨⟨_, rfl, HRA.out⟩, ?_⟩
  · simp [results, Tryz.results74, go_sem, Y0.out, Y1.out, Y2.out]
  · exact (((HK10.out.store (by omega) _ _).store (by omega) _ _).store (by omega) _ _).alloc _
end Go.Proofs.YtpaedhlacbpmpaaGreatDoor

/-
  Walks: faultlineref02.Neg, Sign, Mul.
-/
namespace Go.Proofs.YtpaedhlacbpmpaaGreatDoor
open Go.RowKit

set_option maxRecDepth 100000 in
set_option maxHeartbeats 4000000 in
theorem refneg_any (v : Value) (r : Rw) (w : World) (hv : RatAt w v r) (hs : r.Short 137438953472) : Calls Tryz.prog 60 #[v] w fun e w' => (∃ v', e = .returned v' ∧ RatAt w' v' (canR (- ratOf r))) ∧ Kept w w' := by
  have HPA := Lib.hid (fun W (hk : Kept w W) => refparts_any v r W (hv.kept hk) hs)
  have hok := partsR_ok hv.ok
  have hsh := parts_short hs (by omega)
  obtain ⟨R, hR⟩ : ∃ R, R = canR (- ratOf r) := ⟨_, rfl⟩
  have HFO : Hid (∀ W u1 u2, WdsAt W u1 (partsR r).2.1 → WdsAt W u2 (partsR r).2.2 → Calls Tryz.prog 99 #[.bool (!(partsR r).1), u1, u2] W fun e w' => (∃ v, e = .returned (.tuple #[v, .int .i64 0]) ∧ RatAt w' v R) ∧ Kept W w') := Lib.hid fun W u1 u2 k1 k2 => by
    have h := reffrom_any (!(partsR r).1) u1 u2 _ _ W k1 k2 hsh.1 hsh.2 hok.2.2.1
    rw [form_can _ _ _ hok.2.2.1, ratOf_neg, ← hR] at h
    exact h
  rw [← hR]
  obtain ⟨u1, u2, rfl, h1, h2⟩ := hv
  obtain ⟨a1, c1, rfl⟩ := h1.shape
  obtain ⟨a2, c2, rfl⟩ := h2.shape
  obtain ⟨w2, hw2⟩ : ∃ w2, w2 = (w.alloc (.cells #[.bool r.neg, .slice a1 r.num.length c1, .slice a2 r.den.length c2] 38)).alloc (.cells #[.bool false, .slice none 0 0, .slice none 0 0] 38) := ⟨_, rfl⟩
  have HM := Lib.hid (res_made w (.cells #[.bool r.neg, .slice a1 r.num.length c1, .slice a2 r.den.length c2] 38))
  rw [← hw2] at HM
  have HW2 := Lib.hid hw2
  generalize (partsR r).1 = s at *
  generalize (partsR r).2.1 = N at *
  generalize (partsR r).2.2 = D at *
  generalize r.num.length = n1 at *
  generalize r.den.length = n2 at *
  generalize r.neg = neg at *
  clear hok hsh hR h1 h2 hs hw2
  go_enter Tryz.func60, Tryz.ntmps60
  go_wp2_with fail
  rw [← HW2.out]
  refine (HPA.out _ HM.out.2.2).mono ?_
  rintro e w3 ⟨⟨u3, u4, rfl, hu3, hu4⟩, hk3⟩
  have H3 := Lib.hid hu3
  have H4 := Lib.hid hu4
  have HR3 := Lib.hid (HM.out.1.kept hk3)
  have HF3 := Lib.hid (HM.out.2.1.kept hk3)
  have HK3 := Lib.hid (HM.out.2.2.trans hk3)
  clear hu3 hu4 hk3
  go_wp2_with fail
  refine (HFO.out _ _ _ H3.out H4.out).mono ?_
  rintro e w4 ⟨⟨v4, rfl, hv4⟩, hk4⟩
  have HV4 := Lib.hid hv4
  have hr4 := HR3.out.kept hk4
  have HR4 := Lib.hid hr4
  have HF4 := Lib.hid (HF3.out.kept hk4)
  have HK4 := Lib.hid (HK3.out.trans hk4)
  obtain ⟨u5, u6, rfl, k5, k6⟩ := hv4
  obtain ⟨a5, c5, rfl⟩ := k5.shape
  obtain ⟨a6, c6, rfl⟩ := k6.shape
  obtain ⟨y0, y1, y2, hra⟩ := rat_stored2 (.cells #[.bool R.neg, .slice a5 R.num.length c5, .slice a6 R.den.length c6] 38) hr4 HF4.out k5 k6
  have hlt := hr4.lt
  have g0 := hr4.cell (i := 0) (by simp)
  have g1 := hr4.cell (i := 1) (by simp)
  have g2 := hr4.cell (i := 2) (by simp)
  have f0 := hr4.free 0
  have f1 := hr4.free 1
  have f2 := hr4.free 2
  have HRA := Lib.hid hra
  have Y0 := Lib.hid y0
  have Y1 := Lib.hid y1
  have Y2 := Lib.hid y2
  clear hra y0 y1 y2 k5 k6 hr4 hk4
  generalize R.num.length = n5 at *
  generalize R.den.length = n6 at *
  go_wp2
  refine bodyPost_ret (v := .agg #[.bool R.neg, .slice a5 n5 c5, .slice a6 n6 c6]) ?_ rfl ⟨⟨_, rfl, HRA.out⟩, ?_⟩
  · simp [results, Tryz.results60, go_sem, Y0.out, Y1.out, Y2.out]
  · exact (((HK4.out.store (by omega) _ _).store (by omega) _ _).store (by omega) _ _).alloc _
set_option maxRecDepth 100000 in
set_option maxHeartbeats 4000000 in
theorem refsign_any (v : Value) (r : Rw) (w : World) (hv : RatAt w v r) (hs : r.Short 137438953472) : Calls Tryz.prog 52 #[v] w fun e w' => e = .returned (.int .i64 (sgnR (ratOf r))) ∧ Kept w w' := by
  have HPA := Lib.hid (fun W (hk : Kept w W) => refparts_any v r W (hv.kept hk) hs)
  obtain ⟨k1, k2⟩ := sign_ratOf hv.ok
  obtain ⟨u1, u2, rfl, h1, h2⟩ := hv
  obtain ⟨a1, c1, rfl⟩ := h1.shape
  obtain ⟨a2, c2, rfl⟩ := h2.shape
  have HK0 : Hid (Kept w (w.alloc (.cells #[.bool r.neg, .slice a1 r.num.length c1, .slice a2 r.den.length c2] 38))) := Lib.hid ((Kept.refl w).alloc _)
  obtain ⟨ln, hln⟩ : ∃ ln, ln = (partsR r).2.1.length := ⟨_, rfl⟩
  have HLN := Lib.hid hln
  rw [← hln] at k1 k2
  obtain ⟨S, hS⟩ : ∃ S, S = sgnR (ratOf r) := ⟨_, rfl⟩
  rw [← hS]
  have hSS : S = if ln = 0 then 0 else if (partsR r).1 = true then -1 else 1 := by
    rw [hS]
    unfold sgnR
    by_cases h : ln = 0
    · rw [if_pos h, if_pos (k1.1 h)]
    · rw [if_neg h, if_neg (fun e => h (k1.2 e))]
      by_cases h3 : (partsR r).1 = true
      · rw [if_pos h3, if_pos ((k2 h).1 h3)]
      · rw [if_neg h3, if_neg (fun e => h3 ((k2 h).2 e))]
  generalize (partsR r).1 = s at *
  generalize (partsR r).2.1 = N at *
  generalize (partsR r).2.2 = D at *
  generalize r.num.length = n1 at *
  generalize r.den.length = n2 at *
  generalize r.neg = neg at *
  clear h1 h2 hs hS k1 k2 hln
  by_cases h0 : ln = 0
  · have hE : S = 0 := by rw [hSS, if_pos h0]
    subst h0 hE
    clear hSS
    go_enter Tryz.func52, Tryz.ntmps52
    go_wp2_with fail
    refine (HPA.out _ HK0.out).mono ?_
    rintro e w3 ⟨⟨u3, u4, rfl, hu3, hu4⟩, hk3⟩
    obtain ⟨a3, c3, rfl⟩ := hu3.shape
    rw [← HLN.out]
    have HK3 := Lib.hid (HK0.out.trans hk3)
    clear hu3 hu4 hk3
    go_wp2
    go_ret
    exact ⟨rfl, HK3.out⟩
  · have hb : ((ln : Int) == 0) = false := by simp; exact h0
    cases s with
    | true =>
      have hE : S = -1 := by rw [hSS, if_neg h0, if_pos rfl]
      subst hE
      clear hSS h0
      go_enter Tryz.func52, Tryz.ntmps52
      go_wp2_with fail
      refine (HPA.out _ HK0.out).mono ?_
      rintro e w3 ⟨⟨u3, u4, rfl, hu3, hu4⟩, hk3⟩
      obtain ⟨a3, c3, rfl⟩ := hu3.shape
      rw [← HLN.out]
      have HK3 := Lib.hid (HK0.out.trans hk3)
      clear hu3 hu4 hk3
      go_wp2
      go_ret
      exact ⟨rfl, HK3.out⟩
    | false =>
      have hE : S = 1 := by rw [hSS, if_neg h0, if_neg (by simp)]
      subst hE
      clear hSS h0
      go_enter Tryz.func52, Tryz.ntmps52
      go_wp2_with fail
      refine (HPA.out _ HK0.out).mono ?_
      rintro e w3 ⟨⟨u3, u4, rfl, hu3, hu4⟩, hk3⟩
      obtain ⟨a3, c3, rfl⟩ := hu3.shape
      rw [← HLN.out]
      have HK3 := Lib.hid (HK0.out.trans hk3)
      clear hu3 hu4 hk3
      go_wp2
      go_ret
      exact ⟨rfl, HK3.out⟩
set_option maxRecDepth 100000 in
set_option maxHeartbeats 4000000 in
theorem refmul02_any (va vb : Value) (r s : Rw) (w : World) (ha : RatAt w va r) (hb : RatAt w vb s) (hr : r.Short 68719476736) (hs : s.Short 68719476736) : Calls Tryz.prog 61 #[va, vb] w fun e w' => (∃ v', e = .returned v' ∧ RatAt w' v' (canR (ratOf r * ratOf s))) ∧ Kept w w' := by
  have HP1 := Lib.hid (fun W (hk : Kept w W) => refparts_any va r W (ha.kept hk) ⟨Nat.le_trans hr.1 (by omega), Nat.le_trans hr.2 (by omega)⟩)
  have HP2 := Lib.hid (fun W (hk : Kept w W) => refparts_any vb s W (hb.kept hk) ⟨Nat.le_trans hs.1 (by omega), Nat.le_trans hs.2 (by omega)⟩)
  have hok1 := partsR_ok ha.ok
  have hok2 := partsR_ok hb.ok
  have hsh1 := parts_short hr (by omega)
  have hsh2 := parts_short hs (by omega)
  obtain ⟨R, hR⟩ : ∃ R, R = canR (ratOf r * ratOf s) := ⟨_, rfl⟩
  obtain ⟨x, hx⟩ : ∃ x, x = ((partsR r).1 != (partsR s).1) := ⟨_, rfl⟩
  have HFO : Hid (∀ W u1 u2, WdsAt W u1 (nw (nv (partsR r).2.1 * nv (partsR s).2.1)) → WdsAt W u2 (nw (nv (partsR r).2.2 * nv (partsR s).2.2)) → Calls Tryz.prog 99 #[.bool x, u1, u2] W fun e w' => (∃ v, e = .returned (.tuple #[v, .int .i64 0]) ∧ RatAt w' v R) ∧ Kept W w') := Lib.hid fun W u1 u2 k1 k2 => by
    have hd : nv (partsR r).2.2 * nv (partsR s).2.2 ≠ 0 := Nat.mul_ne_zero hok1.2.2.1 hok2.2.2.1
    have h := reffrom_any x u1 u2 _ _ W k1 k2 (Nat.le_trans (nw_mul_len hok1.1 hok2.1) (by omega)) (Nat.le_trans (nw_mul_len hok1.2.1 hok2.2.1) (by omega)) (by rw [nv_nw]; exact hd)
    rw [nv_nw, nv_nw, form_can _ _ _ hd, hx, ratOf_mul, ← hR] at h
    rw [hx]
    exact h
  have HM1 : Hid (∀ W u1 u2, WdsAt W u1 (partsR r).2.1 → WdsAt W u2 (partsR s).2.1 → Calls Tryz.prog 100 #[u1, u2] W fun e w' => (∃ v', e = .returned v' ∧ WdsAt w' v' (nw (nv (partsR r).2.1 * nv (partsR s).2.1))) ∧ Kept W w') := Lib.hid fun W u1 u2 k1 k2 => refmul_any u1 u2 _ _ W k1 k2 (by omega) (by omega)
  have HM2 : Hid (∀ W u1 u2, WdsAt W u1 (partsR r).2.2 → WdsAt W u2 (partsR s).2.2 → Calls Tryz.prog 100 #[u1, u2] W fun e w' => (∃ v', e = .returned v' ∧ WdsAt w' v' (nw (nv (partsR r).2.2 * nv (partsR s).2.2))) ∧ Kept W w') := Lib.hid fun W u1 u2 k1 k2 => refmul_any u1 u2 _ _ W k1 k2 (by omega) (by omega)
  rw [← hR]
  obtain ⟨u1, u2, rfl, h1, h2⟩ := ha
  obtain ⟨u3, u4, rfl, h3, h4⟩ := hb
  obtain ⟨a1, c1, rfl⟩ := h1.shape
  obtain ⟨a2, c2, rfl⟩ := h2.shape
  obtain ⟨a3, c3, rfl⟩ := h3.shape
  obtain ⟨a4, c4, rfl⟩ := h4.shape
  obtain ⟨w2, hw2⟩ : ∃ w2, w2 = ((w.alloc (.cells #[.bool r.neg, .slice a1 r.num.length c1, .slice a2 r.den.length c2] 38)).alloc (.cells #[.bool s.neg, .slice a3 s.num.length c3, .slice a4 s.den.length c4] 38)).alloc (.cells #[.bool false, .slice none 0 0, .slice none 0 0] 38) := ⟨_, rfl⟩
  have HM := Lib.hid (res_made2 w (.cells #[.bool r.neg, .slice a1 r.num.length c1, .slice a2 r.den.length c2] 38) (.cells #[.bool s.neg, .slice a3 s.num.length c3, .slice a4 s.den.length c4] 38))
  rw [← hw2] at HM
  have hb2 := RowAt.made (w.alloc (.cells #[.bool r.neg, .slice a1 r.num.length c1, .slice a2 r.den.length c2] 38)) #[.bool s.neg, .slice a3 s.num.length c3, .slice a4 s.den.length c4] 38
  simp only [World.size_alloc] at hb2
  have HB2 : Hid (RowAt w2 (w.heap.size + 1) 38 [.bool s.neg, .slice a3 s.num.length c3, .slice a4 s.den.length c4]) := Lib.hid (by rw [hw2]; exact hb2.kept ((Kept.refl _).alloc _))
  have HW2 := Lib.hid hw2
  generalize nw (nv (partsR r).2.1 * nv (partsR s).2.1) = NM at *
  generalize nw (nv (partsR r).2.2 * nv (partsR s).2.2) = DE at *
  generalize (partsR r).1 = s1 at *
  generalize (partsR s).1 = s2 at *
  generalize (partsR r).2.1 = N at *
  generalize (partsR r).2.2 = D at *
  generalize (partsR s).2.1 = M at *
  generalize (partsR s).2.2 = E at *
  generalize r.num.length = n1 at *
  generalize r.den.length = n2 at *
  generalize s.num.length = n3 at *
  generalize s.den.length = n4 at *
  generalize r.neg = neg1 at *
  generalize s.neg = neg2 at *
  have hx1 : (s1 != s2) = x := hx.symm
  have hx2 : (s1 == s2) = !x := by rw [hx]; simp [bne]
  clear hok1 hok2 hsh1 hsh2 hR h1 h2 h3 h4 hr hs hw2 hb2 hx
  go_enter Tryz.func61, Tryz.ntmps61
  go_wp2_with fail
  rw [← HW2.out]
  refine (HP1.out _ HM.out.2.2).mono ?_
  rintro e w3 ⟨⟨u3, u4, rfl, hu3, hu4⟩, hk3⟩
  have HN := Lib.hid hu3
  have HD := Lib.hid hu4
  have HR3 := Lib.hid (HM.out.1.kept hk3)
  have HF3 := Lib.hid (HM.out.2.1.kept hk3)
  have hb3 := HB2.out.kept hk3
  have g0 := hb3.cell (i := 0) (by simp)
  have g1 := hb3.cell (i := 1) (by simp)
  have g2 := hb3.cell (i := 2) (by simp)
  simp only [List.getElem_cons_succ, List.getElem_cons_zero] at g0 g1 g2
  have HK3 := Lib.hid (HM.out.2.2.trans hk3)
  clear hu3 hu4 hk3 hb3
  go_wp2_with fail
  refine (HP2.out _ HK3.out).mono ?_
  rintro e w4 ⟨⟨u5, u6, rfl, hu5, hu6⟩, hk4⟩
  have HN' := Lib.hid (HN.out.kept hk4)
  have HD' := Lib.hid (HD.out.kept hk4)
  have HMM := Lib.hid hu5
  have HEE := Lib.hid hu6
  have HR4 := Lib.hid (HR3.out.kept hk4)
  have HF4 := Lib.hid (HF3.out.kept hk4)
  have HK4 := Lib.hid (HK3.out.trans hk4)
  clear hu5 hu6 hk4 g0 g1 g2
  go_wp2_with fail
  refine (HM1.out _ _ _ HN'.out HMM.out).mono ?_
  rintro e w5 ⟨⟨v5, rfl, hv5⟩, hk5⟩
  have HV5 := Lib.hid hv5
  have HR5 := Lib.hid (HR4.out.kept hk5)
  have HF5 := Lib.hid (HF4.out.kept hk5)
  have HD5 := Lib.hid (HD'.out.kept hk5)
  have HE5 := Lib.hid (HEE.out.kept hk5)
  have HK5 := Lib.hid (HK4.out.trans hk5)
  clear hv5 hk5
  go_wp2_with fail
  refine (HM2.out _ _ _ HD5.out HE5.out).mono ?_
  rintro e w6 ⟨⟨v6, rfl, hv6⟩, hk6⟩
  have HV6 := Lib.hid hv6
  have HV5' := Lib.hid (HV5.out.kept hk6)
  have HR6 := Lib.hid (HR5.out.kept hk6)
  have HF6 := Lib.hid (HF5.out.kept hk6)
  have HK6 := Lib.hid (HK5.out.trans hk6)
  clear hv6 hk6
  go_wp2_with fail
  first
    | (refine (HFO.out _ _ _ HV5'.out HV6.out).mono ?_)
    | (rw [hx1]; refine (HFO.out _ _ _ HV5'.out HV6.out).mono ?_)
  rintro e w7 ⟨⟨v7, rfl, hv7⟩, hk7⟩
  have HV7 := Lib.hid hv7
  have hr7 := HR6.out.kept hk7
  have HF7 := Lib.hid (HF6.out.kept hk7)
  have HK7 := Lib.hid (HK6.out.trans hk7)
  obtain ⟨u7, u8, rfl, k7, k8⟩ := hv7
  obtain ⟨a7, c7, rfl⟩ := k7.shape
  obtain ⟨a8, c8, rfl⟩ := k8.shape
  obtain ⟨y0, y1, y2, hra⟩ := rat_stored2 (.cells #[.bool R.neg, .slice a7 R.num.length c7, .slice a8 R.den.length c8] 38) hr7 HF7.out k7 k8
  have hlt := hr7.lt
  have g0 := hr7.cell (i := 0) (by simp)
  have g1 := hr7.cell (i := 1) (by simp)
  have g2 := hr7.cell (i := 2) (by simp)
  have f0 := hr7.free 0
  have f1 := hr7.free 1
  have f2 := hr7.free 2
  have HRA := Lib.hid hra
  have Y0 := Lib.hid y0
  have Y1 := Lib.hid y1
  have Y2 := Lib.hid y2
  clear hra y0 y1 y2 k7 k8 hr7 hk7
  generalize R.num.length = n7 at *
  generalize R.den.length = n8 at *
  go_wp2
  refine bodyPost_ret (v := .agg #[.bool R.neg, .slice a7 n7 c7, .slice a8 n8 c8]) ?_ rfl ⟨⟨_, rfl, HRA.out⟩, ?_⟩
  · simp [results, Tryz.results61, go_sem, Y0.out, Y1.out, Y2.out]
  · exact (((HK7.out.store (by omega) _ _).store (by omega) _ _).store (by omega) _ _).alloc _
end Go.Proofs.YtpaedhlacbpmpaaGreatDoor

/-
  Walks: faultlineref02.Add. Printed by gen_A41.py.
-/
namespace Go.Proofs.YtpaedhlacbpmpaaGreatDoor
open Go.RowKit

set_option maxRecDepth 100000 in
set_option maxHeartbeats 4000000 in
theorem refadd02_same (va vb : Value) (r s : Rw) (w : World) (ha : RatAt w va r) (hb : RatAt w vb s) (hr : r.Short 34359738368) (hs : s.Short 34359738368) (hss : (partsR r).1 = (partsR s).1) : Calls Tryz.prog 77 #[va, vb] w fun e w' => (∃ v', e = .returned v' ∧ RatAt w' v' (canR (ratOf r + ratOf s))) ∧ Kept w w' := by
  have HP1 := Lib.hid (fun W (hk : Kept w W) => refparts_any va r W (ha.kept hk) ⟨Nat.le_trans hr.1 (by omega), Nat.le_trans hr.2 (by omega)⟩)
  have HP2 := Lib.hid (fun W (hk : Kept w W) => refparts_any vb s W (hb.kept hk) ⟨Nat.le_trans hs.1 (by omega), Nat.le_trans hs.2 (by omega)⟩)
  have hok1 := partsR_ok ha.ok
  have hok2 := partsR_ok hb.ok
  have hsh1 := parts_short hr (by omega)
  have hsh2 := parts_short hs (by omega)
  obtain ⟨R, hR⟩ : ∃ R, R = canR (ratOf r + ratOf s) := ⟨_, rfl⟩
  obtain ⟨p, hp⟩ : ∃ p, p = nv (partsR r).2.1 * nv (partsR s).2.2 := ⟨_, rfl⟩
  obtain ⟨q, hq⟩ : ∃ q, q = nv (partsR s).2.1 * nv (partsR r).2.2 := ⟨_, rfl⟩
  obtain ⟨d, hd⟩ : ∃ d, d = nv (partsR r).2.2 * nv (partsR s).2.2 := ⟨_, rfl⟩
  have hlp : (nw p).length ≤ 68719476736 := by rw [hp]; exact Nat.le_trans (nw_mul_len hok1.1 hok2.2.1) (by omega)
  have hlq : (nw q).length ≤ 68719476736 := by rw [hq]; exact Nat.le_trans (nw_mul_len hok2.1 hok1.2.1) (by omega)
  have hld : (nw d).length ≤ 68719476736 := by rw [hd]; exact Nat.le_trans (nw_mul_len hok1.2.1 hok2.2.1) (by omega)
  have hd0 : d ≠ 0 := by rw [hd]; exact Nat.mul_ne_zero hok1.2.2.1 hok2.2.2.1
  have HAD : Hid (∀ W u1 u2, WdsAt W u1 (nw p) → WdsAt W u2 (nw q) → Calls Tryz.prog 112 #[u1, u2] W fun e w' => (∃ v', e = .returned v' ∧ WdsAt w' v' (nw (p + q))) ∧ Kept W w') := Lib.hid fun W u1 u2 k1 k2 => by
    have h := refadd_any u1 u2 _ _ W k1 k2 (by omega) (by omega)
    rw [nv_nw, nv_nw] at h
    exact h
  have HFO : Hid (∀ W u1 u2, WdsAt W u1 (nw (p + q)) → WdsAt W u2 (nw d) → Calls Tryz.prog 99 #[.bool (partsR r).1, u1, u2] W fun e w' => (∃ v, e = .returned (.tuple #[v, .int .i64 0]) ∧ RatAt w' v R) ∧ Kept W w') := Lib.hid fun W u1 u2 k1 k2 => by
    have h := reffrom_any (partsR r).1 u1 u2 _ _ W k1 k2 (Nat.le_trans (nw_add_len hlp hlq) (by omega)) (Nat.le_trans hld (by omega)) (by rw [nv_nw]; exact hd0)
    rw [nv_nw, nv_nw, form_can _ _ _ hd0, hp, hq, hd, ratOf_add ha.ok hb.ok hss, ← hR] at h
    exact h
  have HM1 : Hid (∀ W u1 u2, WdsAt W u1 (partsR r).2.1 → WdsAt W u2 (partsR s).2.2 → Calls Tryz.prog 100 #[u1, u2] W fun e w' => (∃ v', e = .returned v' ∧ WdsAt w' v' (nw p)) ∧ Kept W w') := Lib.hid fun W u1 u2 k1 k2 => by rw [hp]; exact refmul_any u1 u2 _ _ W k1 k2 (by omega) (by omega)
  have HM2 : Hid (∀ W u1 u2, WdsAt W u1 (partsR s).2.1 → WdsAt W u2 (partsR r).2.2 → Calls Tryz.prog 100 #[u1, u2] W fun e w' => (∃ v', e = .returned v' ∧ WdsAt w' v' (nw q)) ∧ Kept W w') := Lib.hid fun W u1 u2 k1 k2 => by rw [hq]; exact refmul_any u1 u2 _ _ W k1 k2 (by omega) (by omega)
  have HM3 : Hid (∀ W u1 u2, WdsAt W u1 (partsR r).2.2 → WdsAt W u2 (partsR s).2.2 → Calls Tryz.prog 100 #[u1, u2] W fun e w' => (∃ v', e = .returned v' ∧ WdsAt w' v' (nw d)) ∧ Kept W w') := Lib.hid fun W u1 u2 k1 k2 => by rw [hd]; exact refmul_any u1 u2 _ _ W k1 k2 (by omega) (by omega)
  rw [← hR]
  obtain ⟨u1, u2, rfl, h1, h2⟩ := ha
  obtain ⟨u3, u4, rfl, h3, h4⟩ := hb
  obtain ⟨a1, c1, rfl⟩ := h1.shape
  obtain ⟨a2, c2, rfl⟩ := h2.shape
  obtain ⟨a3, c3, rfl⟩ := h3.shape
  obtain ⟨a4, c4, rfl⟩ := h4.shape
  obtain ⟨w2, hw2⟩ : ∃ w2, w2 = ((w.alloc (.cells #[.bool r.neg, .slice a1 r.num.length c1, .slice a2 r.den.length c2] 38)).alloc (.cells #[.bool s.neg, .slice a3 s.num.length c3, .slice a4 s.den.length c4] 38)).alloc (.cells #[.bool false, .slice none 0 0, .slice none 0 0] 38) := ⟨_, rfl⟩
  have HM := Lib.hid (res_made2 w (.cells #[.bool r.neg, .slice a1 r.num.length c1, .slice a2 r.den.length c2] 38) (.cells #[.bool s.neg, .slice a3 s.num.length c3, .slice a4 s.den.length c4] 38))
  rw [← hw2] at HM
  have hb2 := RowAt.made (w.alloc (.cells #[.bool r.neg, .slice a1 r.num.length c1, .slice a2 r.den.length c2] 38)) #[.bool s.neg, .slice a3 s.num.length c3, .slice a4 s.den.length c4] 38
  simp only [World.size_alloc] at hb2
  have HB2 : Hid (RowAt w2 (w.heap.size + 1) 38 [.bool s.neg, .slice a3 s.num.length c3, .slice a4 s.den.length c4]) := Lib.hid (by rw [hw2]; exact hb2.kept ((Kept.refl _).alloc _))
  have HW2 := Lib.hid hw2
  generalize nw d = DE at *
  generalize (partsR r).1 = s1 at *
  generalize (partsR s).1 = s2 at *
  generalize (partsR r).2.1 = N at *
  generalize (partsR r).2.2 = D at *
  generalize (partsR s).2.1 = M at *
  generalize (partsR s).2.2 = E at *
  generalize r.num.length = n1 at *
  generalize r.den.length = n2 at *
  generalize s.num.length = n3 at *
  generalize s.den.length = n4 at *
  generalize r.neg = neg1 at *
  generalize s.neg = neg2 at *
  clear hok1 hok2 hsh1 hsh2 hR h1 h2 h3 h4 hr hs hw2 hb2 hp hq hd hlp hlq hld hd0
  have hb : (s1 == s2) = true := by simpa using hss
  clear hss
  go_enter Tryz.func77, Tryz.ntmps77
  go_wp2_with fail
  rw [← HW2.out]
  refine (HP1.out _ HM.out.2.2).mono ?_
  rintro e w3 ⟨⟨u3, u4, rfl, hu3, hu4⟩, hk3⟩
  have HN := Lib.hid hu3
  have HD := Lib.hid hu4
  have HR3 := Lib.hid (HM.out.1.kept hk3)
  have HF3 := Lib.hid (HM.out.2.1.kept hk3)
  have hb3 := HB2.out.kept hk3
  have g0 := hb3.cell (i := 0) (by simp)
  have g1 := hb3.cell (i := 1) (by simp)
  have g2 := hb3.cell (i := 2) (by simp)
  simp only [List.getElem_cons_succ, List.getElem_cons_zero] at g0 g1 g2
  have HK3 := Lib.hid (HM.out.2.2.trans hk3)
  clear hu3 hu4 hk3 hb3
  go_wp2_with fail
  refine (HP2.out _ HK3.out).mono ?_
  rintro e w4 ⟨⟨u5, u6, rfl, hu5, hu6⟩, hk4⟩
  have HN' := Lib.hid (HN.out.kept hk4)
  have HD' := Lib.hid (HD.out.kept hk4)
  have HMM := Lib.hid hu5
  have HEE := Lib.hid hu6
  have HR4 := Lib.hid (HR3.out.kept hk4)
  have HF4 := Lib.hid (HF3.out.kept hk4)
  have HK4 := Lib.hid (HK3.out.trans hk4)
  clear hu5 hu6 hk4 g0 g1 g2
  go_wp2_with fail
  refine (HM1.out _ _ _ HN'.out HEE.out).mono ?_
  rintro e w5 ⟨⟨v5, rfl, hv5⟩, hk5⟩
  have HV5 := Lib.hid hv5
  have HR5 := Lib.hid (HR4.out.kept hk5)
  have HF5 := Lib.hid (HF4.out.kept hk5)
  have HD5 := Lib.hid (HD'.out.kept hk5)
  have HE5 := Lib.hid (HEE.out.kept hk5)
  have HM5 := Lib.hid (HMM.out.kept hk5)
  have HK5 := Lib.hid (HK4.out.trans hk5)
  clear hv5 hk5
  go_wp2_with fail
  refine (HM2.out _ _ _ HM5.out HD5.out).mono ?_
  rintro e w6 ⟨⟨v6, rfl, hv6⟩, hk6⟩
  have HV6 := Lib.hid hv6
  have HV5' := Lib.hid (HV5.out.kept hk6)
  have HR6 := Lib.hid (HR5.out.kept hk6)
  have HF6 := Lib.hid (HF5.out.kept hk6)
  have HD6 := Lib.hid (HD5.out.kept hk6)
  have HE6 := Lib.hid (HE5.out.kept hk6)
  have HK6 := Lib.hid (HK5.out.trans hk6)
  clear hv6 hk6
  go_wp2_with fail
  refine (HM3.out _ _ _ HD6.out HE6.out).mono ?_
  rintro e w7 ⟨⟨v7, rfl, hv7⟩, hk7⟩
  have HVD := Lib.hid hv7
  have HVP := Lib.hid (HV5'.out.kept hk7)
  have HVQ := Lib.hid (HV6.out.kept hk7)
  have HR7 := Lib.hid (HR6.out.kept hk7)
  have HF7 := Lib.hid (HF6.out.kept hk7)
  have HK7 := Lib.hid (HK6.out.trans hk7)
  clear hv7 hk7
  go_wp2_with fail
  refine (HAD.out _ _ _ HVP.out HVQ.out).mono ?_
  rintro e w9 ⟨⟨v9, rfl, hv9⟩, hk9⟩
  have HVD8 := HVD
  have HR8 := HR7
  have HF8 := HF7
  have HK8 := HK7
  have HV9 := Lib.hid hv9
  have HVD9 := Lib.hid (HVD8.out.kept hk9)
  have HR9 := Lib.hid (HR8.out.kept hk9)
  have HF9 := Lib.hid (HF8.out.kept hk9)
  have HK9 := Lib.hid (HK8.out.trans hk9)
  clear hv9 hk9
  go_wp2_with fail
  refine (HFO.out _ _ _ HV9.out HVD9.out).mono ?_
  rintro e w10 ⟨⟨v10, rfl, hv10⟩, hk10⟩
  have hr10 := HR9.out.kept hk10
  have HF10 := Lib.hid (HF9.out.kept hk10)
  have HK10 := Lib.hid (HK9.out.trans hk10)
  obtain ⟨u7, u8, rfl, k7, k8⟩ := hv10
  obtain ⟨a7, c7, rfl⟩ := k7.shape
  obtain ⟨a8, c8, rfl⟩ := k8.shape
  obtain ⟨y0, y1, y2, hra⟩ := rat_stored2 (.cells #[.bool R.neg, .slice a7 R.num.length c7, .slice a8 R.den.length c8] 38) hr10 HF10.out k7 k8
  have hlt := hr10.lt
  have g0 := hr10.cell (i := 0) (by simp)
  have g1 := hr10.cell (i := 1) (by simp)
  have g2 := hr10.cell (i := 2) (by simp)
  have f0 := hr10.free 0
  have f1 := hr10.free 1
  have f2 := hr10.free 2
  have HRA := Lib.hid hra
  have Y0 := Lib.hid y0
  have Y1 := Lib.hid y1
  have Y2 := Lib.hid y2
  clear hra y0 y1 y2 k7 k8 hr10 hk10
  generalize R.num.length = n7 at *
  generalize R.den.length = n8 at *
  go_wp2
  refine bodyPost_ret (v := .agg #[.bool R.neg, .slice a7 n7 c7, .slice a8 n8 c8]) ?_ rfl ⟨⟨_, rfl, HRA.out⟩, ?_⟩
  · simp [results, Tryz.results77, go_sem, Y0.out, Y1.out, Y2.out]
  · exact (((HK10.out.store (by omega) _ _).store (by omega) _ _).store (by omega) _ _).alloc _
set_option maxRecDepth 100000 in
set_option maxHeartbeats 4000000 in
theorem refadd02_ge (va vb : Value) (r s : Rw) (w : World) (ha : RatAt w va r) (hb : RatAt w vb s) (hr : r.Short 34359738368) (hs : s.Short 34359738368) (hss : (partsR r).1 ≠ (partsR s).1) (hle : nv (partsR s).2.1 * nv (partsR r).2.2 ≤ nv (partsR r).2.1 * nv (partsR s).2.2) : Calls Tryz.prog 77 #[va, vb] w fun e w' => (∃ v', e = .returned v' ∧ RatAt w' v' (canR (ratOf r + ratOf s))) ∧ Kept w w' := by
  have HP1 := Lib.hid (fun W (hk : Kept w W) => refparts_any va r W (ha.kept hk) ⟨Nat.le_trans hr.1 (by omega), Nat.le_trans hr.2 (by omega)⟩)
  have HP2 := Lib.hid (fun W (hk : Kept w W) => refparts_any vb s W (hb.kept hk) ⟨Nat.le_trans hs.1 (by omega), Nat.le_trans hs.2 (by omega)⟩)
  have hok1 := partsR_ok ha.ok
  have hok2 := partsR_ok hb.ok
  have hsh1 := parts_short hr (by omega)
  have hsh2 := parts_short hs (by omega)
  obtain ⟨R, hR⟩ : ∃ R, R = canR (ratOf r + ratOf s) := ⟨_, rfl⟩
  obtain ⟨p, hp⟩ : ∃ p, p = nv (partsR r).2.1 * nv (partsR s).2.2 := ⟨_, rfl⟩
  obtain ⟨q, hq⟩ : ∃ q, q = nv (partsR s).2.1 * nv (partsR r).2.2 := ⟨_, rfl⟩
  obtain ⟨d, hd⟩ : ∃ d, d = nv (partsR r).2.2 * nv (partsR s).2.2 := ⟨_, rfl⟩
  have hlp : (nw p).length ≤ 68719476736 := by rw [hp]; exact Nat.le_trans (nw_mul_len hok1.1 hok2.2.1) (by omega)
  have hlq : (nw q).length ≤ 68719476736 := by rw [hq]; exact Nat.le_trans (nw_mul_len hok2.1 hok1.2.1) (by omega)
  have hld : (nw d).length ≤ 68719476736 := by rw [hd]; exact Nat.le_trans (nw_mul_len hok1.2.1 hok2.2.1) (by omega)
  have hd0 : d ≠ 0 := by rw [hd]; exact Nat.mul_ne_zero hok1.2.2.1 hok2.2.2.1
  rw [← hp, ← hq] at hle
  have HCM : Hid (∀ W u1 u2, WdsAt W u1 (nw p) → WdsAt W u2 (nw q) → Calls Tryz.prog 113 #[u1, u2] W fun e w' => e = .returned (.int .i64 (cmpN p q)) ∧ Kept W w') := Lib.hid fun W u1 u2 k1 k2 => by
    have h := refcmp_any u1 u2 _ _ W k1 k2
    rw [nv_nw, nv_nw] at h
    exact h.mono fun _ _ ⟨h1, h2⟩ => ⟨h1, by rw [h2]; exact Kept.refl _⟩
  have HSU : Hid (∀ W u1 u2, WdsAt W u1 (nw p) → WdsAt W u2 (nw q) → Calls Tryz.prog 114 #[u1, u2] W fun e w' => (∃ v', e = .returned (.tuple #[v', .int .i64 0]) ∧ WdsAt w' v' (nw (p - q))) ∧ Kept W w') := Lib.hid fun W u1 u2 k1 k2 => by
    have h := refsub_any u1 u2 _ _ W k1 k2 (by rw [nv_nw, nv_nw]; exact hle)
    rw [nv_nw, nv_nw] at h
    exact h
  obtain ⟨cm, hcm⟩ : ∃ cm, cm = cmpN p q := ⟨_, rfl⟩
  rw [← hcm] at HCM
  have hcm0 : ¬ cm < 0 := by
    rw [hcm]
    rcases Nat.lt_or_ge q p with h | h
    · rw [cmpN_gt h]; omega
    · rw [cmpN_eq (by omega)]; omega
  have HFO : Hid (∀ W u1 u2, WdsAt W u1 (nw (p - q)) → WdsAt W u2 (nw d) → Calls Tryz.prog 99 #[.bool (partsR r).1, u1, u2] W fun e w' => (∃ v, e = .returned (.tuple #[v, .int .i64 0]) ∧ RatAt w' v R) ∧ Kept W w') := Lib.hid fun W u1 u2 k1 k2 => by
    have h := reffrom_any (partsR r).1 u1 u2 _ _ W k1 k2 (Nat.le_trans (nw_mono_len (Nat.sub_le p q)) (by omega)) (Nat.le_trans hld (by omega)) (by rw [nv_nw]; exact hd0)
    rw [nv_nw, nv_nw, form_can _ _ _ hd0, hp, hq, hd, ratOf_sub ha.ok hb.ok hss (by rw [hp, hq] at hle; exact hle), ← hR] at h
    exact h
  have HM1 : Hid (∀ W u1 u2, WdsAt W u1 (partsR r).2.1 → WdsAt W u2 (partsR s).2.2 → Calls Tryz.prog 100 #[u1, u2] W fun e w' => (∃ v', e = .returned v' ∧ WdsAt w' v' (nw p)) ∧ Kept W w') := Lib.hid fun W u1 u2 k1 k2 => by rw [hp]; exact refmul_any u1 u2 _ _ W k1 k2 (by omega) (by omega)
  have HM2 : Hid (∀ W u1 u2, WdsAt W u1 (partsR s).2.1 → WdsAt W u2 (partsR r).2.2 → Calls Tryz.prog 100 #[u1, u2] W fun e w' => (∃ v', e = .returned v' ∧ WdsAt w' v' (nw q)) ∧ Kept W w') := Lib.hid fun W u1 u2 k1 k2 => by rw [hq]; exact refmul_any u1 u2 _ _ W k1 k2 (by omega) (by omega)
  have HM3 : Hid (∀ W u1 u2, WdsAt W u1 (partsR r).2.2 → WdsAt W u2 (partsR s).2.2 → Calls Tryz.prog 100 #[u1, u2] W fun e w' => (∃ v', e = .returned v' ∧ WdsAt w' v' (nw d)) ∧ Kept W w') := Lib.hid fun W u1 u2 k1 k2 => by rw [hd]; exact refmul_any u1 u2 _ _ W k1 k2 (by omega) (by omega)
  rw [← hR]
  obtain ⟨u1, u2, rfl, h1, h2⟩ := ha
  obtain ⟨u3, u4, rfl, h3, h4⟩ := hb
  obtain ⟨a1, c1, rfl⟩ := h1.shape
  obtain ⟨a2, c2, rfl⟩ := h2.shape
  obtain ⟨a3, c3, rfl⟩ := h3.shape
  obtain ⟨a4, c4, rfl⟩ := h4.shape
  obtain ⟨w2, hw2⟩ : ∃ w2, w2 = ((w.alloc (.cells #[.bool r.neg, .slice a1 r.num.length c1, .slice a2 r.den.length c2] 38)).alloc (.cells #[.bool s.neg, .slice a3 s.num.length c3, .slice a4 s.den.length c4] 38)).alloc (.cells #[.bool false, .slice none 0 0, .slice none 0 0] 38) := ⟨_, rfl⟩
  have HM := Lib.hid (res_made2 w (.cells #[.bool r.neg, .slice a1 r.num.length c1, .slice a2 r.den.length c2] 38) (.cells #[.bool s.neg, .slice a3 s.num.length c3, .slice a4 s.den.length c4] 38))
  rw [← hw2] at HM
  have hb2 := RowAt.made (w.alloc (.cells #[.bool r.neg, .slice a1 r.num.length c1, .slice a2 r.den.length c2] 38)) #[.bool s.neg, .slice a3 s.num.length c3, .slice a4 s.den.length c4] 38
  simp only [World.size_alloc] at hb2
  have HB2 : Hid (RowAt w2 (w.heap.size + 1) 38 [.bool s.neg, .slice a3 s.num.length c3, .slice a4 s.den.length c4]) := Lib.hid (by rw [hw2]; exact hb2.kept ((Kept.refl _).alloc _))
  have HW2 := Lib.hid hw2
  generalize nw d = DE at *
  generalize (partsR r).1 = s1 at *
  generalize (partsR s).1 = s2 at *
  generalize (partsR r).2.1 = N at *
  generalize (partsR r).2.2 = D at *
  generalize (partsR s).2.1 = M at *
  generalize (partsR s).2.2 = E at *
  generalize r.num.length = n1 at *
  generalize r.den.length = n2 at *
  generalize s.num.length = n3 at *
  generalize s.den.length = n4 at *
  generalize r.neg = neg1 at *
  generalize s.neg = neg2 at *
  clear hok1 hok2 hsh1 hsh2 hR h1 h2 h3 h4 hr hs hw2 hb2 hp hq hd hlp hlq hld hd0
  have hb : (s1 == s2) = false := by simpa using hss
  clear hss hcm hle
  go_enter Tryz.func77, Tryz.ntmps77
  go_wp2_with fail
  rw [← HW2.out]
  refine (HP1.out _ HM.out.2.2).mono ?_
  rintro e w3 ⟨⟨u3, u4, rfl, hu3, hu4⟩, hk3⟩
  have HN := Lib.hid hu3
  have HD := Lib.hid hu4
  have HR3 := Lib.hid (HM.out.1.kept hk3)
  have HF3 := Lib.hid (HM.out.2.1.kept hk3)
  have hb3 := HB2.out.kept hk3
  have g0 := hb3.cell (i := 0) (by simp)
  have g1 := hb3.cell (i := 1) (by simp)
  have g2 := hb3.cell (i := 2) (by simp)
  simp only [List.getElem_cons_succ, List.getElem_cons_zero] at g0 g1 g2
  have HK3 := Lib.hid (HM.out.2.2.trans hk3)
  clear hu3 hu4 hk3 hb3
  go_wp2_with fail
  refine (HP2.out _ HK3.out).mono ?_
  rintro e w4 ⟨⟨u5, u6, rfl, hu5, hu6⟩, hk4⟩
  have HN' := Lib.hid (HN.out.kept hk4)
  have HD' := Lib.hid (HD.out.kept hk4)
  have HMM := Lib.hid hu5
  have HEE := Lib.hid hu6
  have HR4 := Lib.hid (HR3.out.kept hk4)
  have HF4 := Lib.hid (HF3.out.kept hk4)
  have HK4 := Lib.hid (HK3.out.trans hk4)
  clear hu5 hu6 hk4 g0 g1 g2
  go_wp2_with fail
  refine (HM1.out _ _ _ HN'.out HEE.out).mono ?_
  rintro e w5 ⟨⟨v5, rfl, hv5⟩, hk5⟩
  have HV5 := Lib.hid hv5
  have HR5 := Lib.hid (HR4.out.kept hk5)
  have HF5 := Lib.hid (HF4.out.kept hk5)
  have HD5 := Lib.hid (HD'.out.kept hk5)
  have HE5 := Lib.hid (HEE.out.kept hk5)
  have HM5 := Lib.hid (HMM.out.kept hk5)
  have HK5 := Lib.hid (HK4.out.trans hk5)
  clear hv5 hk5
  go_wp2_with fail
  refine (HM2.out _ _ _ HM5.out HD5.out).mono ?_
  rintro e w6 ⟨⟨v6, rfl, hv6⟩, hk6⟩
  have HV6 := Lib.hid hv6
  have HV5' := Lib.hid (HV5.out.kept hk6)
  have HR6 := Lib.hid (HR5.out.kept hk6)
  have HF6 := Lib.hid (HF5.out.kept hk6)
  have HD6 := Lib.hid (HD5.out.kept hk6)
  have HE6 := Lib.hid (HE5.out.kept hk6)
  have HK6 := Lib.hid (HK5.out.trans hk6)
  clear hv6 hk6
  go_wp2_with fail
  refine (HM3.out _ _ _ HD6.out HE6.out).mono ?_
  rintro e w7 ⟨⟨v7, rfl, hv7⟩, hk7⟩
  have HVD := Lib.hid hv7
  have HVP := Lib.hid (HV5'.out.kept hk7)
  have HVQ := Lib.hid (HV6.out.kept hk7)
  have HR7 := Lib.hid (HR6.out.kept hk7)
  have HF7 := Lib.hid (HF6.out.kept hk7)
  have HK7 := Lib.hid (HK6.out.trans hk7)
  clear hv7 hk7
  go_wp2_with fail
  refine (HCM.out _ _ _ HVP.out HVQ.out).mono ?_
  rintro e w8 ⟨rfl, hk8⟩
  have HVD8 := Lib.hid (HVD.out.kept hk8)
  have HVP8 := Lib.hid (HVP.out.kept hk8)
  have HVQ8 := Lib.hid (HVQ.out.kept hk8)
  have HR8 := Lib.hid (HR7.out.kept hk8)
  have HF8 := Lib.hid (HF7.out.kept hk8)
  have HK8 := Lib.hid (HK7.out.trans hk8)
  clear hk8
  go_wp2_with fail
  refine (HSU.out _ _ _ HVP8.out HVQ8.out).mono ?_
  rintro e w9 ⟨⟨v9, rfl, hv9⟩, hk9⟩
  have HV9 := Lib.hid hv9
  have HVD9 := Lib.hid (HVD8.out.kept hk9)
  have HR9 := Lib.hid (HR8.out.kept hk9)
  have HF9 := Lib.hid (HF8.out.kept hk9)
  have HK9 := Lib.hid (HK8.out.trans hk9)
  clear hv9 hk9
  go_wp2_with fail
  refine (HFO.out _ _ _ HV9.out HVD9.out).mono ?_
  rintro e w10 ⟨⟨v10, rfl, hv10⟩, hk10⟩
  have hr10 := HR9.out.kept hk10
  have HF10 := Lib.hid (HF9.out.kept hk10)
  have HK10 := Lib.hid (HK9.out.trans hk10)
  obtain ⟨u7, u8, rfl, k7, k8⟩ := hv10
  obtain ⟨a7, c7, rfl⟩ := k7.shape
  obtain ⟨a8, c8, rfl⟩ := k8.shape
  obtain ⟨y0, y1, y2, hra⟩ := rat_stored2 (.cells #[.bool R.neg, .slice a7 R.num.length c7, .slice a8 R.den.length c8] 38) hr10 HF10.out k7 k8
  have hlt := hr10.lt
  have g0 := hr10.cell (i := 0) (by simp)
  have g1 := hr10.cell (i := 1) (by simp)
  have g2 := hr10.cell (i := 2) (by simp)
  have f0 := hr10.free 0
  have f1 := hr10.free 1
  have f2 := hr10.free 2
  have HRA := Lib.hid hra
  have Y0 := Lib.hid y0
  have Y1 := Lib.hid y1
  have Y2 := Lib.hid y2
  clear hra y0 y1 y2 k7 k8 hr10 hk10
  generalize R.num.length = n7 at *
  generalize R.den.length = n8 at *
  go_wp2
  refine bodyPost_ret (v := .agg #[.bool R.neg, .slice a7 n7 c7, .slice a8 n8 c8]) ?_ rfl ⟨⟨_, rfl, HRA.out⟩, ?_⟩
  · simp [results, Tryz.results77, go_sem, Y0.out, Y1.out, Y2.out]
  · exact (((HK10.out.store (by omega) _ _).store (by omega) _ _).store (by omega) _ _).alloc _
set_option maxRecDepth 100000 in
set_option maxHeartbeats 4000000 in
theorem refadd02_lt (va vb : Value) (r s : Rw) (w : World) (ha : RatAt w va r) (hb : RatAt w vb s) (hr : r.Short 34359738368) (hs : s.Short 34359738368) (hss : (partsR r).1 ≠ (partsR s).1) (hle : nv (partsR r).2.1 * nv (partsR s).2.2 < nv (partsR s).2.1 * nv (partsR r).2.2) : Calls Tryz.prog 77 #[va, vb] w fun e w' => (∃ v', e = .returned v' ∧ RatAt w' v' (canR (ratOf r + ratOf s))) ∧ Kept w w' := by
  have HP1 := Lib.hid (fun W (hk : Kept w W) => refparts_any va r W (ha.kept hk) ⟨Nat.le_trans hr.1 (by omega), Nat.le_trans hr.2 (by omega)⟩)
  have HP2 := Lib.hid (fun W (hk : Kept w W) => refparts_any vb s W (hb.kept hk) ⟨Nat.le_trans hs.1 (by omega), Nat.le_trans hs.2 (by omega)⟩)
  have hok1 := partsR_ok ha.ok
  have hok2 := partsR_ok hb.ok
  have hsh1 := parts_short hr (by omega)
  have hsh2 := parts_short hs (by omega)
  obtain ⟨R, hR⟩ : ∃ R, R = canR (ratOf r + ratOf s) := ⟨_, rfl⟩
  obtain ⟨p, hp⟩ : ∃ p, p = nv (partsR r).2.1 * nv (partsR s).2.2 := ⟨_, rfl⟩
  obtain ⟨q, hq⟩ : ∃ q, q = nv (partsR s).2.1 * nv (partsR r).2.2 := ⟨_, rfl⟩
  obtain ⟨d, hd⟩ : ∃ d, d = nv (partsR r).2.2 * nv (partsR s).2.2 := ⟨_, rfl⟩
  have hlp : (nw p).length ≤ 68719476736 := by rw [hp]; exact Nat.le_trans (nw_mul_len hok1.1 hok2.2.1) (by omega)
  have hlq : (nw q).length ≤ 68719476736 := by rw [hq]; exact Nat.le_trans (nw_mul_len hok2.1 hok1.2.1) (by omega)
  have hld : (nw d).length ≤ 68719476736 := by rw [hd]; exact Nat.le_trans (nw_mul_len hok1.2.1 hok2.2.1) (by omega)
  have hd0 : d ≠ 0 := by rw [hd]; exact Nat.mul_ne_zero hok1.2.2.1 hok2.2.2.1
  rw [← hp, ← hq] at hle
  have HCM : Hid (∀ W u1 u2, WdsAt W u1 (nw p) → WdsAt W u2 (nw q) → Calls Tryz.prog 113 #[u1, u2] W fun e w' => e = .returned (.int .i64 (cmpN p q)) ∧ Kept W w') := Lib.hid fun W u1 u2 k1 k2 => by
    have h := refcmp_any u1 u2 _ _ W k1 k2
    rw [nv_nw, nv_nw] at h
    exact h.mono fun _ _ ⟨h1, h2⟩ => ⟨h1, by rw [h2]; exact Kept.refl _⟩
  have HSU : Hid (∀ W u1 u2, WdsAt W u1 (nw q) → WdsAt W u2 (nw p) → Calls Tryz.prog 114 #[u1, u2] W fun e w' => (∃ v', e = .returned (.tuple #[v', .int .i64 0]) ∧ WdsAt w' v' (nw (q - p))) ∧ Kept W w') := Lib.hid fun W u1 u2 k1 k2 => by
    have h := refsub_any u1 u2 _ _ W k1 k2 (by rw [nv_nw, nv_nw]; exact Nat.le_of_lt hle)
    rw [nv_nw, nv_nw] at h
    exact h
  obtain ⟨cm, hcm⟩ : ∃ cm, cm = cmpN p q := ⟨_, rfl⟩
  rw [← hcm] at HCM
  have hcm0 : cm < 0 := by
    rw [hcm]
    rw [cmpN_lt hle]; omega
  have HFO : Hid (∀ W u1 u2, WdsAt W u1 (nw (q - p)) → WdsAt W u2 (nw d) → Calls Tryz.prog 99 #[.bool (partsR s).1, u1, u2] W fun e w' => (∃ v, e = .returned (.tuple #[v, .int .i64 0]) ∧ RatAt w' v R) ∧ Kept W w') := Lib.hid fun W u1 u2 k1 k2 => by
    have h := reffrom_any (partsR s).1 u1 u2 _ _ W k1 k2 (Nat.le_trans (nw_mono_len (Nat.sub_le q p)) (by omega)) (Nat.le_trans hld (by omega)) (by rw [nv_nw]; exact hd0)
    rw [nv_nw, nv_nw, form_can _ _ _ hd0, hp, hq, hd, ratOf_sub' ha.ok hb.ok hss (by rw [hp, hq] at hle; exact Nat.le_of_lt hle), ← hR] at h
    exact h
  have HM1 : Hid (∀ W u1 u2, WdsAt W u1 (partsR r).2.1 → WdsAt W u2 (partsR s).2.2 → Calls Tryz.prog 100 #[u1, u2] W fun e w' => (∃ v', e = .returned v' ∧ WdsAt w' v' (nw p)) ∧ Kept W w') := Lib.hid fun W u1 u2 k1 k2 => by rw [hp]; exact refmul_any u1 u2 _ _ W k1 k2 (by omega) (by omega)
  have HM2 : Hid (∀ W u1 u2, WdsAt W u1 (partsR s).2.1 → WdsAt W u2 (partsR r).2.2 → Calls Tryz.prog 100 #[u1, u2] W fun e w' => (∃ v', e = .returned v' ∧ WdsAt w' v' (nw q)) ∧ Kept W w') := Lib.hid fun W u1 u2 k1 k2 => by rw [hq]; exact refmul_any u1 u2 _ _ W k1 k2 (by omega) (by omega)
  have HM3 : Hid (∀ W u1 u2, WdsAt W u1 (partsR r).2.2 → WdsAt W u2 (partsR s).2.2 → Calls Tryz.prog 100 #[u1, u2] W fun e w' => (∃ v', e = .returned v' ∧ WdsAt w' v' (nw d)) ∧ Kept W w') := Lib.hid fun W u1 u2 k1 k2 => by rw [hd]; exact refmul_any u1 u2 _ _ W k1 k2 (by omega) (by omega)
  rw [← hR]
  obtain ⟨u1, u2, rfl, h1, h2⟩ := ha
  obtain ⟨u3, u4, rfl, h3, h4⟩ := hb
  obtain ⟨a1, c1, rfl⟩ := h1.shape
  obtain ⟨a2, c2, rfl⟩ := h2.shape
  obtain ⟨a3, c3, rfl⟩ := h3.shape
  obtain ⟨a4, c4, rfl⟩ := h4.shape
  obtain ⟨w2, hw2⟩ : ∃ w2, w2 = ((w.alloc (.cells #[.bool r.neg, .slice a1 r.num.length c1, .slice a2 r.den.length c2] 38)).alloc (.cells #[.bool s.neg, .slice a3 s.num.length c3, .slice a4 s.den.length c4] 38)).alloc (.cells #[.bool false, .slice none 0 0, .slice none 0 0] 38) := ⟨_, rfl⟩
  have HM := Lib.hid (res_made2 w (.cells #[.bool r.neg, .slice a1 r.num.length c1, .slice a2 r.den.length c2] 38) (.cells #[.bool s.neg, .slice a3 s.num.length c3, .slice a4 s.den.length c4] 38))
  rw [← hw2] at HM
  have hb2 := RowAt.made (w.alloc (.cells #[.bool r.neg, .slice a1 r.num.length c1, .slice a2 r.den.length c2] 38)) #[.bool s.neg, .slice a3 s.num.length c3, .slice a4 s.den.length c4] 38
  simp only [World.size_alloc] at hb2
  have HB2 : Hid (RowAt w2 (w.heap.size + 1) 38 [.bool s.neg, .slice a3 s.num.length c3, .slice a4 s.den.length c4]) := Lib.hid (by rw [hw2]; exact hb2.kept ((Kept.refl _).alloc _))
  have HW2 := Lib.hid hw2
  generalize nw d = DE at *
  generalize (partsR r).1 = s1 at *
  generalize (partsR s).1 = s2 at *
  generalize (partsR r).2.1 = N at *
  generalize (partsR r).2.2 = D at *
  generalize (partsR s).2.1 = M at *
  generalize (partsR s).2.2 = E at *
  generalize r.num.length = n1 at *
  generalize r.den.length = n2 at *
  generalize s.num.length = n3 at *
  generalize s.den.length = n4 at *
  generalize r.neg = neg1 at *
  generalize s.neg = neg2 at *
  clear hok1 hok2 hsh1 hsh2 hR h1 h2 h3 h4 hr hs hw2 hb2 hp hq hd hlp hlq hld hd0
  have hb : (s1 == s2) = false := by simpa using hss
  clear hss hcm hle
  go_enter Tryz.func77, Tryz.ntmps77
  go_wp2_with fail
  rw [← HW2.out]
  refine (HP1.out _ HM.out.2.2).mono ?_
  rintro e w3 ⟨⟨u3, u4, rfl, hu3, hu4⟩, hk3⟩
  have HN := Lib.hid hu3
  have HD := Lib.hid hu4
  have HR3 := Lib.hid (HM.out.1.kept hk3)
  have HF3 := Lib.hid (HM.out.2.1.kept hk3)
  have hb3 := HB2.out.kept hk3
  have g0 := hb3.cell (i := 0) (by simp)
  have g1 := hb3.cell (i := 1) (by simp)
  have g2 := hb3.cell (i := 2) (by simp)
  simp only [List.getElem_cons_succ, List.getElem_cons_zero] at g0 g1 g2
  have HK3 := Lib.hid (HM.out.2.2.trans hk3)
  clear hu3 hu4 hk3 hb3
  go_wp2_with fail
  refine (HP2.out _ HK3.out).mono ?_
  rintro e w4 ⟨⟨u5, u6, rfl, hu5, hu6⟩, hk4⟩
  have HN' := Lib.hid (HN.out.kept hk4)
  have HD' := Lib.hid (HD.out.kept hk4)
  have HMM := Lib.hid hu5
  have HEE := Lib.hid hu6
  have HR4 := Lib.hid (HR3.out.kept hk4)
  have HF4 := Lib.hid (HF3.out.kept hk4)
  have HK4 := Lib.hid (HK3.out.trans hk4)
  clear hu5 hu6 hk4 g0 g1 g2
  go_wp2_with fail
  refine (HM1.out _ _ _ HN'.out HEE.out).mono ?_
  rintro e w5 ⟨⟨v5, rfl, hv5⟩, hk5⟩
  have HV5 := Lib.hid hv5
  have HR5 := Lib.hid (HR4.out.kept hk5)
  have HF5 := Lib.hid (HF4.out.kept hk5)
  have HD5 := Lib.hid (HD'.out.kept hk5)
  have HE5 := Lib.hid (HEE.out.kept hk5)
  have HM5 := Lib.hid (HMM.out.kept hk5)
  have HK5 := Lib.hid (HK4.out.trans hk5)
  clear hv5 hk5
  go_wp2_with fail
  refine (HM2.out _ _ _ HM5.out HD5.out).mono ?_
  rintro e w6 ⟨⟨v6, rfl, hv6⟩, hk6⟩
  have HV6 := Lib.hid hv6
  have HV5' := Lib.hid (HV5.out.kept hk6)
  have HR6 := Lib.hid (HR5.out.kept hk6)
  have HF6 := Lib.hid (HF5.out.kept hk6)
  have HD6 := Lib.hid (HD5.out.kept hk6)
  have HE6 := Lib.hid (HE5.out.kept hk6)
  have HK6 := Lib.hid (HK5.out.trans hk6)
  clear hv6 hk6
  go_wp2_with fail
  refine (HM3.out _ _ _ HD6.out HE6.out).mono ?_
  rintro e w7 ⟨⟨v7, rfl, hv7⟩, hk7⟩
  have HVD := Lib.hid hv7
  have HVP := Lib.hid (HV5'.out.kept hk7)
  have HVQ := Lib.hid (HV6.out.kept hk7)
  have HR7 := Lib.hid (HR6.out.kept hk7)
  have HF7 := Lib.hid (HF6.out.kept hk7)
  have HK7 := Lib.hid (HK6.out.trans hk7)
  clear hv7 hk7
  go_wp2_with fail
  refine (HCM.out _ _ _ HVP.out HVQ.out).mono ?_
  rintro e w8 ⟨rfl, hk8⟩
  have HVD8 := Lib.hid (HVD.out.kept hk8)
  have HVP8 := Lib.hid (HVP.out.kept hk8)
  have HVQ8 := Lib.hid (HVQ.out.kept hk8)
  have HR8 := Lib.hid (HR7.out.kept hk8)
  have HF8 := Lib.hid (HF7.out.kept hk8)
  have HK8 := Lib.hid (HK7.out.trans hk8)
  clear hk8
  go_wp2_with fail
  refine (HSU.out _ _ _ HVQ8.out HVP8.out).mono ?_
  rintro e w9 ⟨⟨v9, rfl, hv9⟩, hk9⟩
  have HV9 := Lib.hid hv9
  have HVD9 := Lib.hid (HVD8.out.kept hk9)
  have HR9 := Lib.hid (HR8.out.kept hk9)
  have HF9 := Lib.hid (HF8.out.kept hk9)
  have HK9 := Lib.hid (HK8.out.trans hk9)
  clear hv9 hk9
  go_wp2_with fail
  refine (HFO.out _ _ _ HV9.out HVD9.out).mono ?_
  rintro e w10 ⟨⟨v10, rfl, hv10⟩, hk10⟩
  have hr10 := HR9.out.kept hk10
  have HF10 := Lib.hid (HF9.out.kept hk10)
  have HK10 := Lib.hid (HK9.out.trans hk10)
  obtain ⟨u7, u8, rfl, k7, k8⟩ := hv10
  obtain ⟨a7, c7, rfl⟩ := k7.shape
  obtain ⟨a8, c8, rfl⟩ := k8.shape
  obtain ⟨y0, y1, y2, hra⟩ := rat_stored2 (.cells #[.bool R.neg, .slice a7 R.num.length c7, .slice a8 R.den.length c8] 38) hr10 HF10.out k7 k8
  have hlt := hr10.lt
  have g0 := hr10.cell (i := 0) (by simp)
  have g1 := hr10.cell (i := 1) (by simp)
  have g2 := hr10.cell (i := 2) (by simp)
  have f0 := hr10.free 0
  have f1 := hr10.free 1
  have f2 := hr10.free 2
  have HRA := Lib.hid hra
  have Y0 := Lib.hid y0
  have Y1 := Lib.hid y1
  have Y2 := Lib.hid y2
  clear hra y0 y1 y2 k7 k8 hr10 hk10
  generalize R.num.length = n7 at *
  generalize R.den.length = n8 at *
  go_wp2
  refine bodyPost_ret (v := .agg #[.bool R.neg, .slice a7 n7 c7, .slice a8 n8 c8]) ?_ rfl ⟨⟨_, rfl, HRA.out⟩, ?_⟩
  · simp [results, Tryz.results77, go_sem, Y0.out, Y1.out, Y2.out]
  · exact (((HK10.out.store (by omega) _ _).store (by omega) _ _).store (by omega) _ _).alloc _
theorem refadd02_any (va vb : Value) (r s : Rw) (w : World) (ha : RatAt w va r) (hb : RatAt w vb s) (hr : r.Short 34359738368) (hs : s.Short 34359738368) : Calls Tryz.prog 77 #[va, vb] w fun e w' => (∃ v', e = .returned v' ∧ RatAt w' v' (canR (ratOf r + ratOf s))) ∧ Kept w w' := by
  by_cases h : (partsR r).1 = (partsR s).1
  · exact refadd02_same va vb r s w ha hb hr hs h
  · rcases Nat.lt_or_ge (nv (partsR r).2.1 * nv (partsR s).2.2) (nv (partsR s).2.1 * nv (partsR r).2.2) with h2 | h2
    · exact refadd02_lt va vb r s w ha hb hr hs h h2
    · exact refadd02_ge va vb r s w ha hb hr hs h h2
end Go.Proofs.YtpaedhlacbpmpaaGreatDoor

/-
  Walks: faultlineref02.Sub, Cmp, Prob.
-/
namespace Go.Proofs.YtpaedhlacbpmpaaGreatDoor
open Go.RowKit

set_option maxRecDepth 100000 in
set_option maxHeartbeats 4000000 in
theorem refsub02_any (va vb : Value) (r s : Rw) (w : World) (ha : RatAt w va r) (hb : RatAt w vb s) (hr : r.Short 34359738368) (hs : s.Short 34359738368) : Calls Tryz.prog 116 #[va, vb] w fun e w' => (∃ v', e = .returned v' ∧ RatAt w' v' (canR (ratOf r - ratOf s))) ∧ Kept w w' := by
  have HNE := Lib.hid (fun W (hk : Kept w W) => refneg_any vb s W (hb.kept hk) ⟨Nat.le_trans hs.1 (by omega), Nat.le_trans hs.2 (by omega)⟩)
  obtain ⟨R, hR⟩ : ∃ R, R = canR (ratOf r - ratOf s) := ⟨_, rfl⟩
  have HAD : Hid (∀ W v, Kept w W → RatAt W v (canR (- ratOf s)) → Calls Tryz.prog 77 #[va, v] W fun e w' => (∃ v', e = .returned v' ∧ RatAt w' v' R) ∧ Kept W w') := Lib.hid fun W v hk hv => by
    have h := refadd02_any va v r _ W (ha.kept hk) hv hr (short_neg hb.ok hs (by omega))
    rw [ratOf_can, ← Rat.sub_eq_add_neg, ← hR] at h
    exact h
  rw [← hR]
  obtain ⟨u1, u2, rfl, h1, h2⟩ := ha
  obtain ⟨u3, u4, rfl, h3, h4⟩ := hb
  obtain ⟨a1, c1, rfl⟩ := h1.shape
  obtain ⟨a2, c2, rfl⟩ := h2.shape
  obtain ⟨a3, c3, rfl⟩ := h3.shape
  obtain ⟨a4, c4, rfl⟩ := h4.shape
  generalize r.num.length = n1 at *
  generalize r.den.length = n2 at *
  generalize s.num.length = n3 at *
  generalize s.den.length = n4 at *
  generalize r.neg = neg1 at *
  generalize s.neg = neg2 at *
  obtain ⟨w2, hw2⟩ : ∃ w2, w2 = ((w.alloc (.cells #[.bool neg1, .slice a1 n1 c1, .slice a2 n2 c2] 38)).alloc (.cells #[.bool neg2, .slice a3 n3 c3, .slice a4 n4 c4] 38)).alloc (.cells #[.bool false, .slice none 0 0, .slice none 0 0] 38) := ⟨_, rfl⟩
  have HM := Lib.hid (res_made2 w (.cells #[.bool neg1, .slice a1 n1 c1, .slice a2 n2 c2] 38) (.cells #[.bool neg2, .slice a3 n3 c3, .slice a4 n4 c4] 38))
  rw [← hw2] at HM
  have ha2 := RowAt.made w #[.bool neg1, .slice a1 n1 c1, .slice a2 n2 c2] 38
  have HA2 : Hid (RowAt w2 w.heap.size 38 [.bool neg1, .slice a1 n1 c1, .slice a2 n2 c2]) := Lib.hid (by rw [hw2]; exact ha2.kept (((Kept.refl _).alloc _).alloc _))
  have hb2 := RowAt.made (w.alloc (.cells #[.bool neg1, .slice a1 n1 c1, .slice a2 n2 c2] 38)) #[.bool neg2, .slice a3 n3 c3, .slice a4 n4 c4] 38
  simp only [World.size_alloc] at hb2
  have HB2 : Hid (RowAt w2 (w.heap.size + 1) 38 [.bool neg2, .slice a3 n3 c3, .slice a4 n4 c4]) := Lib.hid (by rw [hw2]; exact hb2.kept ((Kept.refl _).alloc _))
  have HW2 := Lib.hid hw2
  clear hR h1 h2 h3 h4 hr hs hw2 ha2 hb2
  have p0 := HA2.out.cell (i := 0) (by simp)
  have p1 := HA2.out.cell (i := 1) (by simp)
  have p2 := HA2.out.cell (i := 2) (by simp)
  have g0 := HB2.out.cell (i := 0) (by simp)
  have g1 := HB2.out.cell (i := 1) (by simp)
  have g2 := HB2.out.cell (i := 2) (by simp)
  simp only [List.getElem_cons_succ, List.getElem_cons_zero] at p0 p1 p2 g0 g1 g2
  go_enter Tryz.func116, Tryz.ntmps116
  go_wp2_with fail
  rw [← HW2.out]
  go_region_with (first
    | (go_at_call 60; (with_reducible refine (HNE.out _ HM.out.2.2.drew).mono ?_); rintro e w3 ⟨⟨v3, rfl, hv3⟩, hk3⟩; have hkd := (Kept.refl w2).drew.trans hk3; have x0 := hkd.cell p0; have x1 := hkd.cell p1; have x2 := hkd.cell p2; have HV3 := Lib.hid hv3; have HKD := Lib.hid hkd; have HR3 := Lib.hid (HM.out.1.kept hkd); have HF3 := Lib.hid (HM.out.2.1.kept hkd); clear hv3 hk3 hkd)
    | (go_at_call 77; (with_reducible refine (HAD.out _ _ (HM.out.2.2.trans HKD.out) HV3.out).mono ?_); rintro e w4 ⟨⟨v4, rfl, hv4⟩, hk4⟩; have hr4 := HR3.out.kept hk4; have HR4 := Lib.hid hr4; have HF4 := Lib.hid (HF3.out.kept hk4); have HK4 := Lib.hid ((HM.out.2.2.trans HKD.out).trans hk4); obtain ⟨u5, u6, rfl, k5, k6⟩ := hv4; obtain ⟨a5, c5, rfl⟩ := k5.shape; obtain ⟨a6, c6, rfl⟩ := k6.shape; have K5 := Lib.hid k5; have K6 := Lib.hid k6; have z0 := hr4.cell (i := 0) (by simp); have z1 := hr4.cell (i := 1) (by simp); have z2 := hr4.cell (i := 2) (by simp); have f0 := hr4.free 0; have f1 := hr4.free 1; have f2 := hr4.free 2; clear k5 k6 hr4 hk4))
  all_goals
    obtain ⟨y0, y1, y2, hra⟩ := rat_stored HR4.out HF4.out K5.out K6.out
    generalize R.num.length = n7 at *
    generalize R.den.length = n8 at *
    go_wp2
    refine bodyPost_ret (v := .agg #[.bool R.neg, .slice a5 n7 c5, .slice a6 n8 c6]) ?_ rfl ⟨⟨_, rfl, hra⟩, ?_⟩
    · simp [results, Tryz.results116, go_sem, y0, y1, y2]
    · exact ((HK4.out.store (by omega) _ _).store (by omega) _ _).store (by omega) _ _
set_option maxRecDepth 100000 in
set_option maxHeartbeats 4000000 in
theorem refcmp02_any (va vb : Value) (r s : Rw) (w : World) (ha : RatAt w va r) (hb : RatAt w vb s) (hr : r.Short 34359738368) (hs : s.Short 34359738368) : Calls Tryz.prog 83 #[va, vb] w fun e w' => e = .returned (.int .i64 (sgnR (ratOf r - ratOf s))) ∧ Kept w w' := by
  have HSU := Lib.hid (fun W (hk : Kept w W) => refsub02_any va vb r s W (ha.kept hk) (hb.kept hk) hr hs)
  have hsh : (canR (ratOf r - ratOf s)).Short 137438953472 := by
    have h := short_add ha.ok (canR_ok _) hr (short_neg hb.ok hs (by omega)) (by omega) (by omega)
    rw [ratOf_can, ← Rat.sub_eq_add_neg] at h
    exact ⟨Nat.le_trans h.1 (by omega), Nat.le_trans h.2 (by omega)⟩
  have HSG : Hid (∀ W v, RatAt W v (canR (ratOf r - ratOf s)) → Calls Tryz.prog 52 #[v] W fun e w' => e = .returned (.int .i64 (sgnR (ratOf r - ratOf s))) ∧ Kept W w') := Lib.hid fun W v hv => by
    have h := refsign_any v _ W hv hsh
    rw [ratOf_can] at h
    exact h
  obtain ⟨u1, u2, rfl, h1, h2⟩ := ha
  obtain ⟨u3, u4, rfl, h3, h4⟩ := hb
  obtain ⟨a1, c1, rfl⟩ := h1.shape
  obtain ⟨a2, c2, rfl⟩ := h2.shape
  obtain ⟨a3, c3, rfl⟩ := h3.shape
  obtain ⟨a4, c4, rfl⟩ := h4.shape
  generalize canR (ratOf r - ratOf s) = R at *
  generalize sgnR (ratOf r - ratOf s) = S at *
  generalize r.num.length = n1 at *
  generalize r.den.length = n2 at *
  generalize s.num.length = n3 at *
  generalize s.den.length = n4 at *
  generalize r.neg = neg1 at *
  generalize s.neg = neg2 at *
  have HK0 : Hid (Kept w ((w.alloc (.cells #[.bool neg1, .slice a1 n1 c1, .slice a2 n2 c2] 38)).alloc (.cells #[.bool neg2, .slice a3 n3 c3, .slice a4 n4 c4] 38))) := Lib.hid (((Kept.refl w).alloc _).alloc _)
  clear h1 h2 h3 h4 hr hs hsh
  go_enter Tryz.func83, Tryz.ntmps83
  go_wp2_with fail
  refine (HSU.out _ HK0.out).mono ?_
  rintro e w3 ⟨⟨v3, rfl, hv3⟩, hk3⟩
  have HV3 := Lib.hid hv3
  have HK3 := Lib.hid (HK0.out.trans hk3)
  clear hv3 hk3
  go_wp2_with fail
  refine (HSG.out _ _ HV3.out).mono ?_
  rintro e w4 ⟨rfl, hk4⟩
  have HK4 := Lib.hid (HK3.out.trans hk4)
  clear hk4
  go_wp2
  go_ret
  exact ⟨rfl, HK4.out⟩
theorem one_short : (canR ((1 : Int) : Rat)).Short 1 := by
  have h1 : (nw 1).length ≤ 1 := nw_len_lt.2 (by omega)
  have h := canR_short false (n := 1) (d := 1) (k := 1) (l := 1) (by omega) h1 h1
  rw [show sg false 1 = (1 : Int) from rfl, Rat.mkRat_one] at h
  exact h
set_option maxRecDepth 100000 in
set_option maxHeartbeats 4000000 in
theorem refprob_any (v : Value) (r : Rw) (w : World) (hv : RatAt w v r) (hs : r.Short 34359738368) : Calls Tryz.prog 43 #[v] w fun e w' => e = .returned (.bool (probR r)) ∧ Kept w w' := by
  have HVA := Lib.hid (fun W (hk : Kept w W) => refvalid_any v r W (hv.kept hk) ⟨Nat.le_trans hs.1 (by omega), Nat.le_trans hs.2 (by omega)⟩)
  have HSG := Lib.hid (fun W (hk : Kept w W) => refsign_any v r W (hv.kept hk) ⟨Nat.le_trans hs.1 (by omega), Nat.le_trans hs.2 (by omega)⟩)
  have HOF : Hid (∀ W, Calls Tryz.prog 74 #[.int .i64 1] W fun e w' => (∃ v', e = .returned v' ∧ RatAt w' v' (canR ((1 : Int) : Rat))) ∧ Kept W w') := Lib.hid fun W => refof_any 1 W (by omega)
  have HCM : Hid (∀ W u, Kept w W → RatAt W u (canR ((1 : Int) : Rat)) → Calls Tryz.prog 83 #[v, u] W fun e w' => e = .returned (.int .i64 (sgnR (ratOf r - ((1 : Int) : Rat)))) ∧ Kept W w') := Lib.hid fun W u hk hu => by
    have h := refcmp02_any v u r _ W (hv.kept hk) hu hs ⟨Nat.le_trans one_short.1 (by omega), Nat.le_trans one_short.2 (by omega)⟩
    rw [ratOf_can] at h
    exact h
  rw [prob_sgn hv.ok]
  obtain ⟨neg, num, den⟩ := r
  obtain ⟨u1, u2, rfl, h1, h2⟩ := hv
  simp only at h1 h2
  obtain ⟨a1, c1, rfl⟩ := h1.shape
  obtain ⟨a2, c2, rfl⟩ := h2.shape
  generalize sgnR (ratOf ⟨neg, num, den⟩ - ((1 : Int) : Rat)) = T at *
  generalize sgnR (ratOf ⟨neg, num, den⟩) = S at *
  generalize canR ((1 : Int) : Rat) = ONE at *
  generalize validR ⟨neg, num, den⟩ = vb at *
  simp only at HVA HSG HCM ⊢
  generalize num.length = n1 at *
  generalize den.length = n2 at *
  obtain ⟨w1, hw1⟩ : ∃ w1, w1 = w.alloc (.cells #[.bool neg, .slice a1 n1 c1, .slice a2 n2 c2] 38) := ⟨_, rfl⟩
  have HR : Hid (RowAt w1 w.heap.size 38 [.bool neg, .slice a1 n1 c1, .slice a2 n2 c2]) := Lib.hid (by rw [hw1]; exact RowAt.made w #[.bool neg, .slice a1 n1 c1, .slice a2 n2 c2] 38)
  have HK0 : Hid (Kept w w1) := Lib.hid (by rw [hw1]; exact (Kept.refl w).alloc _)
  have HW1 := Lib.hid hw1
  have q0 := HR.out.cell (i := 0) (by simp)
  have q1 := HR.out.cell (i := 1) (by simp)
  have q2 := HR.out.cell (i := 2) (by simp)
  simp only [List.getElem_cons_succ, List.getElem_cons_zero] at q0 q1 q2
  clear h1 h2 hs hw1
  cases vb with
  | false =>
    go_enter Tryz.func43, Tryz.ntmps43
    go_wp2_with fail
    rw [← HW1.out]
    go_region_with (go_at_call 51; (with_reducible refine (HVA.out _ HK0.out.drew).mono ?_); rintro e w3 ⟨rfl, hk3⟩; have HKD := Lib.hid (HK0.out.drew.trans hk3); clear hk3)
    all_goals
      go_wp2
      go_ret
      exact ⟨by first | rfl | (simp [Act.put]; done) | (simp [go_sem]; done), HKD.out⟩
  | true =>
    by_cases hS : 0 ≤ S
    · have dS : decide (0 ≤ S) = true := by simp; exact hS
      have dS' : decide (S ≥ 0) = true := by simp; exact hS
      go_enter Tryz.func43, Tryz.ntmps43
      go_wp2_with fail
      rw [← HW1.out]
      go_region_with (first
        | (go_at_call 51; (with_reducible refine (HVA.out _ HK0.out.drew).mono ?_); rintro e w3 ⟨rfl, hk3⟩; have hkd := (Kept.refl w1).drew.trans hk3; have x0 := hkd.cell q0; have x1 := hkd.cell q1; have x2 := hkd.cell q2; have HKD := Lib.hid (HK0.out.trans hkd); clear hk3 hkd)
        | (go_at_call 52; (with_reducible refine (HSG.out _ HKD.out).mono ?_); rintro e w4 ⟨rfl, hk4⟩; have y0 := hk4.cell x0; have y1 := hk4.cell x1; have y2 := hk4.cell x2; have HK4 := Lib.hid (HKD.out.trans hk4); clear hk4)
        | (go_at_call 74; (with_reducible refine (HOF.out _).mono ?_); rintro e w5 ⟨⟨v5, rfl, hv5⟩, hk5⟩; have z0 := hk5.cell y0; have z1 := hk5.cell y1; have z2 := hk5.cell y2; have HK5 := Lib.hid (HK4.out.trans hk5); have HV5 := Lib.hid hv5; clear hk5 hv5)
        | (go_at_call 83; (with_reducible refine (HCM.out _ _ HK5.out HV5.out).mono ?_); rintro e w6 ⟨rfl, hk6⟩; have HK6 := Lib.hid (HK5.out.trans hk6); clear hk6))
      all_goals
        go_wp2
        go_ret
        exact ⟨by first | (simp [hS, Act.put]; done) | (simp [hS, go_sem]; done), HK6.out⟩
    · have dS : decide (0 ≤ S) = false := by simp; omega
      have dS' : decide (S ≥ 0) = false := by simp; omega
      go_enter Tryz.func43, Tryz.ntmps43
      go_wp2_with fail
      rw [← HW1.out]
      go_region_with (first
        | (go_at_call 51; (with_reducible refine (HVA.out _ HK0.out.drew).mono ?_); rintro e w3 ⟨rfl, hk3⟩; have hkd := (Kept.refl w1).drew.trans hk3; have x0 := hkd.cell q0; have x1 := hkd.cell q1; have x2 := hkd.cell q2; have HKD := Lib.hid (HK0.out.trans hkd); clear hk3 hkd)
        | (go_at_call 52; (with_reducible refine (HSG.out _ HKD.out).mono ?_); rintro e w4 ⟨rfl, hk4⟩; have HK4 := Lib.hid (HKD.out.trans hk4); clear hk4))
      all_goals
        go_wp2
        go_ret
        exact ⟨by simp [Act.put]; omega, HK4.out⟩
end Go.Proofs.YtpaedhlacbpmpaaGreatDoor

/-
  Lists of fractions in memory; arguments that are read as such.
-/
namespace Go.Proofs.YtpaedhlacbpmpaaGreatDoor
open Go.RowKit Go.ChangeShapes Go.WideShapes Go.ChangeAt Go.Joins Go.Deep

/-- Words that can be read, however many. -/
def WdRaw (w : World) (v : Value) (xs : List Nat) : Prop :=
  ∃ (a : Option Addr) (c : Nat), v = .slice a xs.length c ∧ (xs.length ≤ c ∧ (a = none → c = 0)) ∧ xs.length ≤ 140737488355328 ∧ Wd xs ∧
    ∀ i (_ : i < xs.length), ∃ b o, a = some ⟨b, o, none⟩ ∧ w.cell? ⟨b, o + i, none⟩ = some (.int .u32 ((xs.getD i 0 : Nat) : Int))
theorem WdRaw.kept {w w' : World} {v : Value} {xs : List Nat} (h : WdRaw w v xs) (hk : Kept w w') : WdRaw w' v xs := by
  obtain ⟨a, c, h1, h2, h3, h4, h5⟩ := h
  exact ⟨a, c, h1, h2, h3, h4, fun i hi => let ⟨b, o, h6, h7⟩ := h5 i hi; ⟨b, o, h6, hk.cell h7⟩⟩
theorem WdRaw.small {w : World} {v : Value} {xs : List Nat} (h : WdRaw w v xs) (hl : xs.length ≤ 1099511627776) : WdsAt w v xs := by
  obtain ⟨a, c, h1, h2, _, h4, h5⟩ := h
  exact ⟨a, c, h1, h2, hl, h4, h5⟩
theorem WdRaw.shape {w : World} {v : Value} {xs : List Nat} (h : WdRaw w v xs) : ∃ a c, v = .slice a xs.length c ∧ xs.length ≤ 140737488355328 := by
  obtain ⟨a, c, h1, _, h3, _⟩ := h
  exact ⟨a, c, h1, h3⟩
theorem WdRaw.nil (w : World) : WdRaw w (.slice none 0 0) [] := ⟨none, 0, rfl, ⟨by simp, fun _ => rfl⟩, by simp, Wd.nil, fun i h => by simp at h⟩
/-- A list of fractions. -/
def RatsRaw (w : World) (v : Value) (ps : List Rw) : Prop :=
  ∃ (a : Option Addr) (c : Nat), v = .slice a ps.length c ∧ (ps.length ≤ c ∧ (a = none → c = 0)) ∧ ps.length ≤ 140737488355328 ∧
    ∀ i (h : i < ps.length), ∃ b o u1 u2, a = some ⟨b, o, none⟩ ∧ w.rangeAt b (o + i * 3) [.bool ps[i].neg, u1, u2] ∧ WdRaw w u1 ps[i].num ∧ WdRaw w u2 ps[i].den
def RatsAt (w : World) (v : Value) (ps : List Rw) : Prop :=
  ∃ (a : Option Addr) (c : Nat), v = .slice a ps.length c ∧ (ps.length ≤ c ∧ (a = none → c = 0)) ∧ ps.length ≤ 140737488355328 ∧
    ∀ i (h : i < ps.length), ∃ b o u1 u2, a = some ⟨b, o, none⟩ ∧ w.rangeAt b (o + i * 3) [.bool ps[i].neg, u1, u2] ∧ WdsAt w u1 ps[i].num ∧ WdsAt w u2 ps[i].den
theorem range_same {w w' : World} {b o : Nat} {cs : List Value} (h : w.rangeAt b o cs) (hk : Kept w w') : w'.rangeAt b o cs := fun j v hj => hk.cell (h j v hj)
theorem RatsAt.shape {w : World} {v : Value} {ps : List Rw} (h : RatsAt w v ps) : ∃ a c, v = .slice a ps.length c := by obtain ⟨a, c, h1, _⟩ := h; exact ⟨a, c, h1⟩
theorem RatsAt.get {w : World} {a : Option Addr} {n c : Nat} {ps : List Rw} (h : RatsAt w (.slice a n c) ps) (i : Nat) (hi : i < ps.length) : ∃ b o u1 u2, a = some ⟨b, o, none⟩ ∧ w.rangeAt b (o + i * 3) [.bool (ps.getD i default).neg, u1, u2] ∧ WdsAt w u1 (ps.getD i default).num ∧ WdsAt w u2 (ps.getD i default).den := by
  obtain ⟨a', c', h1, _, _, h4⟩ := h
  injection h1 with e1 e2 e3
  subst e1
  have e : ps.getD i default = ps[i] := by simp [List.getD_eq_getElem?_getD, hi]
  rw [e]
  exact h4 i hi
theorem cells_rat : Tryz.prog.cellsOf 38 = 3 := by kernel_rfl
theorem cells_words : Tryz.prog.cellsOf 36 = 1 := by kernel_rfl
theorem cells_u32 : Tryz.prog.cellsOf 34 = 1 := by kernel_rfl
theorem cells_bool : Tryz.prog.cellsOf 4 = 1 := by kernel_rfl
theorem bytes_rat : Tryz.prog.bytesOf 38 = 56 := by kernel_rfl
theorem bytes_u32 : Tryz.prog.bytesOf 34 = 4 := by kernel_rfl
theorem bounds_u32 {n : Int} (h : (Lit.int .u32 n).wf = true) : 0 ≤ n ∧ n < 4294967296 := by
  simp [Lit.wf, IntKind.min, IntKind.max, IntKind.signed, IntKind.bits] at h
  omega
section
variable {H : Type} {enc : TypeId × Value → H} {W : World} {base : Nat}
/-- Words of a slice, read. -/
theorem words_open {fuel : Nat} {cs : List Value} {x : DataW H × List MemPlace} (hb : ∀ n ∈ x.1.weights Tryz.prog 36, n ≤ reachBytes)
    (h : DataW.trod enc Tryz.prog W base (fun _ => true) true fuel 36 cs = some x) : ∃ u xs, cs = [u] ∧ WdRaw W u xs := by
  rcases open_ints Tryz.underlying36 Tryz.underlying34 cells_u32 h with ⟨rfl, rfl⟩ | ⟨a, len, cap, zs, rfl, _, hl, hm, hz, rfl, hcell, hwz⟩
  · exact ⟨_, [], rfl, WdRaw.nil _⟩
  · simp only [if_true] at hz
    have hbb := hb ((zs.take len).length * 4 + (zs.drop len).length * 4) (by
      simp only [DataW.weights, Tryz.underlying36, bytes_u32, List.mem_cons]
      exact .inl (by simp [lits]; omega))
    simp [reachBytes] at hbb
    have hlen : ((zs.take len).map Int.toNat).length = len := by simp; omega
    refine ⟨_, (zs.take len).map Int.toNat, rfl, some a, cap, by rw [hlen], ⟨by rw [hlen]; exact hl, fun h => by cases h⟩, by rw [hlen]; omega, fun z hz => ?_, fun i hi => ?_⟩
    · obtain ⟨y, hy, rfl⟩ := List.mem_map.1 hz
      have := bounds_u32 (hwz y (List.mem_of_mem_take hy))
      omega
    · rw [hlen] at hi
      have hc := hcell i (by omega)
      obtain ⟨b, o, spot⟩ := a
      have hspot : spot = none := World.cell?_spot (hcell 0 (by omega))
      subst hspot
      refine ⟨b, o, rfl, ?_⟩
      have e : ((((zs.take len).map Int.toNat).getD i 0 : Nat) : Int) = zs.getD i 0 := by
        have h1 : i < zs.length := by omega
        have h2 := bounds_u32 (hwz zs[i] (List.getElem_mem _))
        simp [List.getD_eq_getElem?_getD, h1, hi]
        omega
      rw [e, ← hc]
      congr 1
      by_cases h0 : i = 0
      · subst h0; rfl
      · simp [Addr.add, h0]
set_option maxRecDepth 100000 in
theorem rats_open {fuel : Nat} {cs : List Value} {x : DataW H × List MemPlace} (hb : ∀ n ∈ x.1.weights Tryz.prog 55, n ≤ reachBytes)
    (h : DataW.trod enc Tryz.prog W base (fun _ => true) true fuel 55 cs = some x) : ∃ u ps, cs = [u] ∧ RatsRaw W u ps := by
  rcases open_slice Tryz.underlying55 h with ⟨rfl, rfl⟩ | ⟨a, len, cap, m, n, D, Pl, rfl, _, hl, hm, hmm, rfl, hx⟩
  · exact ⟨_, [], rfl, none, 0, rfl, ⟨by simp, fun _ => rfl⟩, by simp, fun i h => by simp at h⟩
  · simp only [if_true] at hmm
    have hmc := hmm.symm
    subst hmc
    have hbb := hb (cap * 56) (by
      simp only [DataW.weights, Tryz.underlying55, bytes_rat, List.mem_cons]
      refine .inl ?_
      simp; omega)
    simp [reachBytes] at hbb
    have each : ∀ i, i < len → ∃ y : Rw, ∃ b o u1 u2, a = ⟨b, o, none⟩ ∧ W.rangeAt b (o + i * 3) [.bool y.neg, u1, u2] ∧ WdRaw W u1 y.num ∧ WdRaw W u2 y.den := by
      intro i hi
      obtain ⟨cs', hc, ht⟩ := hx i (by omega)
      rw [cells_rat] at hc
      obtain ⟨_, hcl, hat⟩ := World.cells?_some hc
      obtain ⟨y0, y1, y2, n', hy, hlen, g0, g1, g2⟩ := trod_struct3 Tryz.underlying38 ht
      match cs', hcl with
      | [c0, c1, c2], _ =>
        have q0 := hat 0 (by omega)
        have q1 := hat 1 (by omega)
        have q2 := hat 2 (by omega)
        simp only [List.getElem?_cons_zero, List.getElem?_cons_succ] at q0 q1 q2
        have k0 : Tryz.prog.cellsOf 4 = 1 := cells_bool
        have k2 : Tryz.prog.cellsOf 36 = 1 := cells_words
        simp only [k0, k2, List.drop_zero, List.drop_succ_cons, List.take_succ_cons, List.take_zero] at g0 g1 g2
        obtain ⟨ng, e0, hy0⟩ := DataW.trod_bool Tryz.underlying4 g0
        simp at e0
        subst e0
        have hdi : D i = .agg [y0.1, y1.1, y2.1] := by simpa using congrArg Prod.fst hy
        obtain ⟨u1, xs1, e1, hu1⟩ := words_open (fun n hn => hb n (by
          simp only [DataW.weights, Tryz.underlying55, List.mem_cons, List.mem_append]
          refine .inr (.inl (weightsAll_mem (d := D i) (List.mem_map.2 ⟨i, by simpa using hi, rfl⟩) n ?_))
          rw [hdi]
          simp only [DataW.weights, Tryz.underlying38]
          simp only [List.map_cons, DataW.weightsEach, List.mem_append]
          exact .inr (.inl hn))) g1
        obtain ⟨u2, xs2, e2, hu2⟩ := words_open (fun n hn => hb n (by
          simp only [DataW.weights, Tryz.underlying55, List.mem_cons, List.mem_append]
          refine .inr (.inl (weightsAll_mem (d := D i) (List.mem_map.2 ⟨i, by simpa using hi, rfl⟩) n ?_))
          rw [hdi]
          simp only [DataW.weights, Tryz.underlying38]
          simp only [List.map_cons, DataW.weightsEach, List.mem_append]
          exact .inr (.inr (.inl hn)))) g2
        simp at e1 e2
        subst e1 e2
        obtain ⟨b, o, spot⟩ := a
        have hspot : spot = none := by
          obtain ⟨cs0, hc0, _⟩ := hx 0 (by omega)
          rw [cells_rat] at hc0
          obtain ⟨_, hcl0, hat0⟩ := World.cells?_some hc0
          have h1 := hat0 0 (by omega)
          rw [List.getElem?_eq_getElem (by omega)] at h1
          exact World.cell?_spot (a := ⟨b, o, spot⟩) (by simpa [Addr.add] using h1)
        subst hspot
        refine ⟨⟨ng, xs1, xs2⟩, b, o, c1, c2, rfl, ?_, hu1, hu2⟩
        intro j v hj
        match j, hj with
        | 0, hj => simp at hj; subst hj; rw [← q0, addP, addP]
        | 1, hj => simp at hj; subst hj; rw [← q1, addP, addP]
        | 2, hj => simp at hj; subst hj; rw [← q2, addP, addP]
    obtain ⟨g, hg⟩ := choose_lt each
    refine ⟨_, (List.range len).map g, rfl, some a, cap, by simp, ⟨by simp; omega, fun h => by cases h⟩, by simp; omega, fun i hi => ?_⟩
    simp only [List.length_map, List.length_range] at hi
    obtain ⟨b, o, u1, u2, rfl, h1, h2, h3⟩ := hg i hi
    exact ⟨b, o, u1, u2, rfl, by simpa using h1, by simpa using h2, by simpa using h3⟩
end
end Go.Proofs.YtpaedhlacbpmpaaGreatDoor

/-
  Walk: faultlinelaw35.Large. Printed by gen_A44.py.
-/
namespace Go.Proofs.YtpaedhlacbpmpaaGreatDoor
open Go.RowKit

/-- What Large's answer says. -/
def LargeV (u : Value) (ps : List Rw) : Prop := ∃ b, u = .bool b ∧ (b = false → ps.length ≤ 30 ∧ ∀ r ∈ ps, r.Short 3)
end Go.Proofs.YtpaedhlacbpmpaaGreatDoor

/-
  Walks: slices.ContainsFunc over fractions; truncate.bad, faultlineref35.Bad.
-/
namespace Go.Proofs.YtpaedhlacbpmpaaGreatDoor
open Go.RowKit

def DecidesQ (g : Nat) (lb : Array Value) (p : Rw → Bool) (w : World) : Prop :=
  ∀ (W : World) (u : Value) (x : Rw), Kept w W → RatAt W u x → x.Short 34359738368 → Calls Tryz.prog g (#[u] ++ lb) W fun e W' => e = .returned (.bool (p x)) ∧ Kept W W'
/-- Whether one of some fractions is no probability. -/
def badR (ps : List Rw) : Bool := ps.any fun r => !probR r
end Go.Proofs.YtpaedhlacbpmpaaGreatDoor

/-
  Elements of sets: sets.Has, Greatest and the reference's Has, Elements, Greatest.
-/
namespace Go.Proofs.YtpaedhlacbpmpaaGreatDoor
open Go.RowKit

/-- The elements of a set, ascending. -/
def elemsK (s : Nat) : List Nat := (List.range 24).filter fun i => s.testBit i
/-- The greatest element, or -1. -/
def gtK (s : Nat) : Int := (Lib.bitLen s : Int) - 1
theorem bitLen_topA {x n : Nat} (h1 : 2 ^ n ≤ x) (h2 : x < 2 ^ (n + 1)) (hn : n < 60) : Lib.bitLen x = n + 1 := by
  have h64 : x < 2 ^ 64 := Nat.lt_of_lt_of_le h2 (Nat.pow_le_pow_right (by omega) (by omega))
  have h3 := Lib.bitLen_le x (n + 1) (by omega) h2
  have h4 := bitLen_lt h64
  have h5 : n < Lib.bitLen x := (Nat.pow_lt_pow_iff_right (by omega : 1 < 2)).1 (Nat.lt_of_le_of_lt h1 h4)
  omega
theorem bit_high {s i : Nat} (hs : s < 16777216) (hi : 24 ≤ i) : s.testBit i = false := by
  cases h : s.testBit i with
  | false => rfl
  | true =>
    exfalso
    have h1 : 2 ^ i ≤ s := Nat.ge_two_pow_of_testBit h
    have h2 : 2 ^ 24 ≤ 2 ^ i := Nat.pow_le_pow_right (by omega) hi
    have e : (2 : Nat) ^ 24 = 16777216 := rfl
    omega
set_option maxRecDepth 100000 in
theorem hasS_any (c i : Nat) (hc : c < 16777216) (w : World) : Calls Tryz.prog 73 #[.int .i64 c, .int .i64 i] w fun e w' => e = .returned (.bool (c.testBit i)) ∧ w' = w := by
  by_cases hi : i < 24
  · have e := bit_val c i hc
    have h1 : (0 : Int) ≤ (i : Int) := by omega
    have h2 : (i : Int) < 24 := by omega
    have E := Lib.hid e
    clear e hc
    go_enter Tryz.func73, Tryz.ntmps73
    go_wp2
    go_ret
    exact ⟨by rw [← E.out]; rfl, rfl⟩
  · rw [bit_high hc (by omega)]
    have h1 : (0 : Int) ≤ (i : Int) := by omega
    have h2 : ¬ (i : Int) < 24 := by omega
    have d2 : decide ((i : Int) < 24) = false := decide_eq_false h2
    clear hc hi
    go_enter Tryz.func73, Tryz.ntmps73
    go_wp2
    go_ret
    exact ⟨by first | rfl | simp, rfl⟩
set_option maxRecDepth 100000 in
theorem hasR05_any (c i : Nat) (hc : c < 16777216) (w : World) : Calls Tryz.prog 79 #[.int .i64 c, .int .i64 i] w fun e w' => e = .returned (.bool (c.testBit i)) ∧ w' = w := by
  by_cases hi : i < 24
  · have e := bit_val c i hc
    have h1 : (0 : Int) ≤ (i : Int) := by omega
    have h2 : (i : Int) < 24 := by omega
    have E := Lib.hid e
    clear e hc
    go_enter Tryz.func79, Tryz.ntmps79
    go_wp2
    go_ret
    exact ⟨by rw [← E.out]; rfl, rfl⟩
  · rw [bit_high hc (by omega)]
    have h1 : (0 : Int) ≤ (i : Int) := by omega
    have h2 : ¬ (i : Int) < 24 := by omega
    have d2 : decide ((i : Int) < 24) = false := decide_eq_false h2
    clear hc hi
    go_enter Tryz.func79, Tryz.ntmps79
    go_wp2
    go_ret
    exact ⟨by first | rfl | simp, rfl⟩
set_option maxRecDepth 100000 in
theorem great_any (s : Nat) (hs : s < 16777216) (w : World) : Calls Tryz.prog 75 #[.int .i64 s] w fun e w' => e = .returned (.int .i64 (gtK s)) ∧ w' = w := by
  have HC : Hid (∀ W, Calls Tryz.prog 105 #[.int .i64 s] W fun e w' => e = .returned (.int .i64 s) ∧ W = w') := Lib.hid fun W => cutk_any (by unfold Mk; omega) W
  have ew : IntKind.u64.wrap (s : Int) = (s : Int) := by rw [IntKind.wrap_u64]; omega
  obtain ⟨z, hz⟩ : ∃ z, z = Lib.bitLen s := ⟨_, rfl⟩
  have hz9 : z ≤ 24 := by rw [hz]; exact Lib.bitLen_le s 24 (by omega) (by rw [show (2 : Nat) ^ 24 = 16777216 from rfl]; exact hs)
  have HL : Hid (∀ W, Calls Tryz.prog 111 #[.int .u64 (s : Int)] W fun e w' => e = .returned (.int .i64 z) ∧ w' = W) := Lib.hid fun W => by
    have h := Tryz.bits_Len (s : Int) W (by omega) (by omega)
    rw [Int.toNat_natCast, ← hz] at h
    exact h
  have hg : gtK s = (z : Int) - 1 := by unfold gtK; rw [hz]
  rw [hg]
  clear hz hg hs
  go_enter Tryz.func75, Tryz.ntmps75
  go_wp2_with (first | (go_at_call 105; refine (HC.out _).mono ?_; rintro e w2 ⟨rfl, rfl⟩) | (go_at_call 111; refine (HL.out _).mono ?_; rintro e w2 ⟨rfl, rfl⟩))
  go_ret
  exact ⟨rfl, rfl⟩
theorem elems_step (s k : Nat) : ((List.range (k + 1)).filter fun i => s.testBit i) = ((List.range k).filter fun i => s.testBit i) ++ (if s.testBit k then [k] else []) := by
  rw [List.range_succ, List.filter_append]
  congr 1
  cases h : s.testBit k <;> simp [h]
theorem elems_len (s n : Nat) : ((List.range n).filter fun i => s.testBit i).length ≤ n := by
  have := List.length_filter_le (fun i => s.testBit i) (List.range n)
  simpa using this
set_option maxRecDepth 100000 in
set_option maxHeartbeats 2000000 in
theorem elems_own (s : Nat) (hs : s < 16777216) (w : World) : Calls Tryz.prog 76 #[.int .i64 s] w fun e w' => (∃ v, e = .returned v ∧ OwnInts w' w.heap.size v (ofN (elemsK s))) ∧ Kept w w' := by
  have HH := Lib.hid (fun (i : Nat) W => hasR05_any s i hs W)
  clear hs
  go_enter Tryz.func76, Tryz.ntmps76
  go_wp2_with fail
  go_loopg [3, 5] 24 (fun kx s3 s5 wr => ∃ k : Nat, k ≤ 24 ∧ s5 = .int .i64 k ∧ 24 - k ≤ kx ∧ Hid (OwnInts wr w.heap.size s3 (ofN ((List.range k).filter fun i => s.testBit i))) ∧ Hid (Kept w wr))
  case atStart => exact ⟨0, Nat.zero_le _, rfl, by omega, Lib.hid (OwnInts.nil _ _), Lib.hid (Kept.refl _)⟩
  case round =>
    obtain ⟨k, hk, rfl, hkx, HO, HK⟩ := hrel
    obtain ⟨a3, n3, c3, rfl⟩ := HO.out.ints.shape
    by_cases hlt : k < 24
    · have hkn : (k : Int) < 24 := by omega
      have HST := Lib.hid (elems_step s k)
      have HLN := Lib.hid (elems_len s k)
      cases hb : s.testBit k with
      | false =>
        have HC : Hid (∀ W, Calls Tryz.prog 79 #[.int .i64 s, .int .i64 k] W fun e w' => e = .returned (.bool false) ∧ w' = W) := Lib.hid fun W => by have h := HH.out k W; rw [hb] at h; exact h
        rw [hb] at HST
        clear hb
        go_wp2_with (go_at_call 79; refine (HC.out _).mono ?_; rintro e w2 ⟨rfl, rfl⟩)
        go_roundg (24 - (k + 1))
        case measure => omega
        case rel => exact ⟨k + 1, by omega, by go_num, Nat.le_refl _, Lib.hid (by rw [HST.out]; simpa using HO.out), HK⟩
      | true =>
        have HC : Hid (∀ W, Calls Tryz.prog 79 #[.int .i64 s, .int .i64 k] W fun e w' => e = .returned (.bool true) ∧ w' = W) := Lib.hid fun W => by have h := HH.out k W; rw [hb] at h; exact h
        rw [hb] at HST
        obtain ⟨L, hL⟩ : ∃ L, L = ((List.range k).filter fun i => s.testBit i) := ⟨_, rfl⟩
        rw [← hL] at HO HLN HST
        clear hb hL
        go_wp2_with (first
          | (go_at_call 79; refine (HC.out _).mono ?_; rintro e w2 ⟨rfl, rfl⟩)
          | (at_builtin; refine app_int rfl _ _ rfl w.heap.size _ (ofN L) rfl (HO.out.kept ((Kept.refl _).alloc _)) _ (k : Int) rfl (by simp) (by have := HLN.out; unfold ofN; rw [List.length_map]; omega) (by have := HK.out.size; simp; omega) ?_; intro v' w' h5 _ h6; have H5 := Lib.hid h5; have H6 := Lib.hid h6; clear h5 h6))
        obtain ⟨a5, n5, c5, rfl⟩ := H5.out.ints.shape
        go_roundg (24 - (k + 1))
        case measure => omega
        case rel => exact ⟨k + 1, by omega, by go_num, Nat.le_refl _, Lib.hid (by rw [HST.out]; simpa [ofN] using H5.out), Lib.hid ((HK.out.alloc _).app H6.out)⟩
    · have hke : k = 24 := by omega
      have HE : Hid (OwnInts wr w.heap.size (.slice a3 n3 c3) (ofN (elemsK s))) := Lib.hid (by have h := HO.out; rw [hke] at h; exact h)
      have hkn : ¬ (k : Int) < 24 := by omega
      clear hke
      go_wp2
      go_ret
      exact ⟨⟨_, rfl, HE.out⟩, HK.out⟩
theorem elems_any (s : Nat) (hs : s < 16777216) (w : World) : Calls Tryz.prog 76 #[.int .i64 s] w fun e w' => (∃ v, e = .returned v ∧ IntsAt w' v (ofN (elemsK s))) ∧ Kept w w' :=
  (elems_own s hs w).mono fun _ _ ⟨⟨v, h1, h2⟩, h3⟩ => ⟨⟨v, h1, h2.ints⟩, h3⟩
end Go.Proofs.YtpaedhlacbpmpaaGreatDoor

/-
  A fraction in a variable's cells; truncate.product, faultlineref35.Product.
-/
namespace Go.Proofs.YtpaedhlacbpmpaaGreatDoor
open Go.RowKit

theorem FixAt.store {w : World} {g : Nat} {xs : List Value} (h : FixAt w g xs) (i : Nat) (u : Value) : FixAt (w.setCell ⟨g, i, none⟩ u) g (xs.set i u) := by
  obtain ⟨cur, e, h1, h2⟩ := h
  refine ⟨cur.setIfInBounds i u, e, by simp [World.setCell, Array.getElem?_modify, h1], ?_⟩
  rw [Array.toList_setIfInBounds, h2]
/-- A variable that holds a fraction. -/
def RatCell (w : World) (g : Nat) (r : Rw) : Prop := ∃ a1 c1 a2 c2, RowAt w g 38 [.bool r.neg, .slice a1 r.num.length c1, .slice a2 r.den.length c2] ∧ FixAt w g [.bool r.neg, .slice a1 r.num.length c1, .slice a2 r.den.length c2] ∧ WdsAt w (.slice a1 r.num.length c1) r.num ∧ WdsAt w (.slice a2 r.den.length c2) r.den
theorem RatCell.kept {w w' : World} {g : Nat} {r : Rw} (h : RatCell w g r) (hk : Kept w w') : RatCell w' g r := by
  obtain ⟨a1, c1, a2, c2, h1, h2, h3, h4⟩ := h
  exact ⟨a1, c1, a2, c2, h1.kept hk, h2.kept hk, h3.kept hk, h4.kept hk⟩
theorem RatCell.made {w : World} {r : Rw} {a1 a2 : Option Addr} {c1 c2 : Nat} (h1 : WdsAt w (.slice a1 r.num.length c1) r.num) (h2 : WdsAt w (.slice a2 r.den.length c2) r.den) :
    RatCell (w.alloc (.cells #[.bool r.neg, .slice a1 r.num.length c1, .slice a2 r.den.length c2] 38)) w.heap.size r :=
  ⟨a1, c1, a2, c2, RowAt.made w #[.bool r.neg, .slice a1 r.num.length c1, .slice a2 r.den.length c2] 38, FixAt.made w #[.bool r.neg, .slice a1 r.num.length c1, .slice a2 r.den.length c2] 38, h1.kept ((Kept.refl _).alloc _), h2.kept ((Kept.refl _).alloc _)⟩
theorem RatCell.store {w : World} {g : Nat} {r r' : Rw} {a1 a2 : Option Addr} {c1 c2 : Nat} (h : RatCell w g r) (h1 : WdsAt w (.slice a1 r'.num.length c1) r'.num) (h2 : WdsAt w (.slice a2 r'.den.length c2) r'.den) :
    RatCell (((w.setCell ⟨g, 0, none⟩ (.bool r'.neg)).setCell ⟨g, 1, none⟩ (.slice a1 r'.num.length c1)).setCell ⟨g, 2, none⟩ (.slice a2 r'.den.length c2)) g r' := by
  obtain ⟨a3, c3, a4, c4, h3, h4, _, _⟩ := h
  have hr := ((h3.store 0 (.bool r'.neg)).store 1 (.slice a1 r'.num.length c1)).store 2 (.slice a2 r'.den.length c2)
  have hf := ((h4.store 0 (.bool r'.neg)).store 1 (.slice a1 r'.num.length c1)).store 2 (.slice a2 r'.den.length c2)
  simp only [List.set_cons_zero, List.set_cons_succ] at hr hf
  have hO := (((OnlyAt.refl g w).store 0 (.bool r'.neg)).store 1 (.slice a1 r'.num.length c1)).store 2 (.slice a2 r'.den.length c2)
  exact ⟨a1, c1, a2, c2, hr, hf, h1.apart h4 (by simp) hO, h2.apart h4 (by simp) hO⟩
theorem RatCell.at {w : World} {g : Nat} {r : Rw} (h : RatCell w g r) : ∃ a1 c1 a2 c2, (w.cell? ⟨g, 0, none⟩ = some (.bool r.neg) ∧ w.cell? ⟨g, 1, none⟩ = some (.slice a1 r.num.length c1) ∧ w.cell? ⟨g, 2, none⟩ = some (.slice a2 r.den.length c2)) ∧ (w.frozen? ⟨g, 0, none⟩ = false ∧ w.frozen? ⟨g, 1, none⟩ = false ∧ w.frozen? ⟨g, 2, none⟩ = false) ∧ g < w.heap.size ∧ RatAt w (.agg #[.bool r.neg, .slice a1 r.num.length c1, .slice a2 r.den.length c2]) r := by
  obtain ⟨a1, c1, a2, c2, h1, h2, h3, h4⟩ := h
  refine ⟨a1, c1, a2, c2, ⟨?_, ?_, ?_⟩, ⟨h1.free 0, h1.free 1, h1.free 2⟩, h1.lt, _, _, rfl, h3, h4⟩
  · have := h1.cell (i := 0) (by simp); simpa using this
  · have := h1.cell (i := 1) (by simp); simpa using this
  · have := h1.cell (i := 2) (by simp); simpa using this
/-- The product of the probabilities of the events below n of a set. -/
def prodQ (s : Nat) (ps : List Rw) : Nat → Rat
  | 0 => 1
  | k + 1 => if s.testBit k = true then prodQ s ps k * ratOf (ps.getD k default) else prodQ s ps k
theorem prodQ_succ (s : Nat) (ps : List Rw) (k : Nat) : prodQ s ps (k + 1) = if s.testBit k = true then prodQ s ps k * ratOf (ps.getD k default) else prodQ s ps k := rfl
theorem RatsAt.ok {w : World} {v : Value} {ps : List Rw} (h : RatsAt w v ps) : ∀ r ∈ ps, r.Ok := by
  obtain ⟨a, c, _, _, _, h4⟩ := h
  intro r hr
  obtain ⟨i, hi, rfl⟩ := List.getElem_of_mem hr
  obtain ⟨_, _, _, _, _, _, h7, h8⟩ := h4 i hi
  exact ⟨h7.wd, h8.wd⟩
end Go.Proofs.YtpaedhlacbpmpaaGreatDoor

/-
  Walk: faultlineref35.Product.
-/
namespace Go.Proofs.YtpaedhlacbpmpaaGreatDoor
open Go.RowKit

/-- The product over the first elements of a list. -/
def prodE (L : List Nat) (ps : List Rw) (j : Nat) : Rat := (L.take j).foldl (fun (q : Rat) (i : Nat) => q * ratOf (ps.getD i default)) 1
end Go.Proofs.YtpaedhlacbpmpaaGreatDoor

/-
  Walks: faultlineref05.Valid, Cut, Count, Compare.
-/
namespace Go.Proofs.YtpaedhlacbpmpaaGreatDoor
open Go.RowKit

theorem and_pred (n : Nat) : 0 < n → n &&& (n - 1) < n ∧ pc n = pc (n &&& (n - 1)) + 1 := by
  induction n using Nat.strongRecOn with
  | ind n ih =>
    intro h0
    have bits : ∀ a b : Nat, a = b ↔ a % 2 = b % 2 ∧ a / 2 = b / 2 := fun a b => by omega
    by_cases h : n % 2 = 1
    · have e : n &&& (n - 1) = n - 1 := by
        rw [bits]
        have e1 : (n &&& (n - 1)) % 2 = 0 := by
          rw [show (2 : Nat) = 2 ^ 1 from rfl, Nat.and_mod_two_pow, show (n - 1) % 2 ^ 1 = 0 by omega]; simp
        have e2 : (n &&& (n - 1)) / 2 = n / 2 := by
          rw [show (2 : Nat) = 2 ^ 1 from rfl, Nat.and_div_two_pow, show (n - 1) / 2 ^ 1 = n / 2 ^ 1 by omega, Nat.and_self]
        omega
      rw [e]
      refine ⟨by omega, ?_⟩
      rw [pc_one n, pc_one (n - 1), show (n - 1) / 2 = n / 2 by omega]
      omega
    · have h2 := ih (n / 2) (by omega) (by omega)
      have e1 : (n &&& (n - 1)) % 2 = 0 := by
        rw [show (2 : Nat) = 2 ^ 1 from rfl, Nat.and_mod_two_pow, show n % 2 ^ 1 = 0 by omega]; simp
      have e2 : (n &&& (n - 1)) / 2 = n / 2 &&& (n / 2 - 1) := by
        rw [show (2 : Nat) = 2 ^ 1 from rfl, Nat.and_div_two_pow, show (n - 1) / 2 ^ 1 = n / 2 ^ 1 - 1 by omega]
      refine ⟨by omega, ?_⟩
      rw [pc_one n, pc_one (n &&& (n - 1)), e1, e2]
      omega
theorem rcut_any {n : Nat} (h : Mk n) (w : World) : Calls Tryz.prog 95 #[.int .i64 n] w fun e w' => e = .returned (.int .i64 n) ∧ w = w' := by
  have hc := cut_mk h
  go_enter Tryz.func95, Tryz.ntmps95
  go_wp2
  go_ret
  exact ⟨rfl, rfl⟩
theorem rvalid_any (s : Int) (w : World) : Calls Tryz.prog 50 #[.int .i64 s] w fun e w' => e = .returned (.bool (decide (0 ≤ s ∧ s ≤ 16777215))) ∧ w = w' := by
  by_cases h : 0 ≤ s
  · by_cases h2 : s < 16777216
    all_goals
      go_enter Tryz.func50, Tryz.ntmps50
      go_wp2
      go_ret
      exact ⟨by congr 2; simp; omega, rfl⟩
  · go_enter Tryz.func50, Tryz.ntmps50
    go_wp2
    go_ret
    exact ⟨by congr 2; simp; omega, rfl⟩
theorem rcount_any {n : Nat} (h : Mk n) (w : World) : Calls Tryz.prog 96 #[.int .i64 n] w fun e w' => e = .returned (.int .i64 (pc n)) ∧ w = w' := by
  obtain ⟨r, hr⟩ : ∃ r, r = pc n := ⟨_, rfl⟩
  rw [← hr]
  have HR := Lib.hid hr
  have h' := h
  clear hr
  go_enter Tryz.func96, Tryz.ntmps96
  go_wp2_with (go_at_call 95; refine (rcut_any h' _).mono ?_; rintro e w' ⟨rfl, rfl⟩)
  go_loop [0, 3] (fun s k => ∃ m q : Nat, s = .int .i64 m ∧ k = .int .i64 q ∧ m < 16777216 ∧ q ≤ 16777216 - m ∧ Hid (pc m + q = r)) (fun s _ => (intOf s).toNat)
  case atStart => exact ⟨n, 0, rfl, rfl, h, by omega, Lib.hid (by rw [HR.out]; rfl)⟩
  case round =>
    obtain ⟨m, q, rfl, rfl, hm, hq, HI⟩ := hrel
    by_cases h0 : 0 < m
    · have hp := and_pred m h0
      have e1 : bits .and .i64 (m : Int) ((m : Int) - 1) = ((m &&& (m - 1) : Nat) : Int) := by
        rw [show (m : Int) - 1 = ((m - 1 : Nat) : Int) by omega]
        exact and_i64 _ _ (by omega) (by omega)
      have hne : ((m : Int) == 0) = false := by simp; omega
      have hne2 : ((m : Int) != 0) = true := by simp; omega
      have HP := Lib.hid hp
      clear hp
      go_wp2
      go_round
      case rel => exact ⟨m &&& (m - 1), q + 1, rfl, by go_num, by have := HP.out; omega, by have := HP.out; omega, Lib.hid (by have := HP.out; have := HI.out; omega)⟩
      case measure => have := HP.out; simp [intOf]; omega
    · obtain rfl : m = 0 := by omega
      go_wp2
      go_ret
      have hqr : q = r := by have := HI.out; rw [pc_zero] at this; omega
      exact ⟨by rw [hqr]; rfl, rfl⟩
def cmpR (a b : Nat) : Int := if a = b then 0 else if ltK a b then -1 else 1
set_option maxHeartbeats 1000000 in
theorem rcompare_any {a b : Nat} (ha : Mk a) (hb : Mk b) (w : World) : Calls Tryz.prog 53 #[.int .i64 a, .int .i64 b] w fun e w' => e = .returned (.int .i64 (cmpR a b)) ∧ w = w' := by
  obtain ⟨r, hr⟩ : ∃ r, r = cmpR a b := ⟨_, rfl⟩
  rw [← hr]
  obtain ⟨x, hx⟩ : ∃ x, x = pc a := ⟨_, rfl⟩
  obtain ⟨y, hy⟩ : ∃ x, x = pc b := ⟨_, rfl⟩
  have HR := Lib.hid hr
  have HA : Hid (∀ W, Calls Tryz.prog 96 #[.int .i64 a] W fun e w' => e = .returned (.int .i64 x) ∧ W = w') := Lib.hid (hx ▸ fun W => rcount_any ha W)
  have HB : Hid (∀ W, Calls Tryz.prog 96 #[.int .i64 b] W fun e w' => e = .returned (.int .i64 y) ∧ W = w') := Lib.hid (hy ▸ fun W => rcount_any hb W)
  have CA : Hid (∀ W, Calls Tryz.prog 95 #[.int .i64 a] W fun e w' => e = .returned (.int .i64 a) ∧ W = w') := Lib.hid fun W => rcut_any ha W
  have CB : Hid (∀ W, Calls Tryz.prog 95 #[.int .i64 b] W fun e w' => e = .returned (.int .i64 b) ∧ W = w') := Lib.hid fun W => rcut_any hb W
  have HX := Lib.hid hx
  have HY := Lib.hid hy
  clear hr hx hy ha hb
  by_cases e : a = b
  · have h0 : r = 0 := by rw [HR.out, cmpR, if_pos e]
    subst h0
    have ee : ((a : Int) == (b : Int)) = true := by simp; omega
    clear HX HY
    clear e
    go_enter Tryz.func53, Tryz.ntmps53
    go_wp2_with (first
      | (go_at_call_of 95 (Value.int .i64 (a : Int)); refine (CA.out _).mono ?_; rintro e w' ⟨rfl, rfl⟩)
      | (go_at_call_of 95 (Value.int .i64 (b : Int)); refine (CB.out _).mono ?_; rintro e w' ⟨rfl, rfl⟩))
    go_ret
    exact ⟨rfl, rfl⟩
  · have ee : ((a : Int) == (b : Int)) = false := by simp; omega
    have HE := Lib.hid e
    clear e
    by_cases h1 : x < y
    · have h0 : r = -1 := by rw [HR.out, cmpR, if_neg HE.out, if_pos (.inl (by rw [← HX.out, ← HY.out]; exact h1))]
      subst h0
      have h1' : (x : Int) < (y : Int) := by omega
      go_enter Tryz.func53, Tryz.ntmps53
      go_wp2_with (first
        | (go_at_call_of 95 (Value.int .i64 (a : Int)); refine (CA.out _).mono ?_; rintro e w' ⟨rfl, rfl⟩)
        | (go_at_call_of 95 (Value.int .i64 (b : Int)); refine (CB.out _).mono ?_; rintro e w' ⟨rfl, rfl⟩)
        | (go_at_call_of 96 (Value.int .i64 (a : Int)); refine (HA.out _).mono ?_; rintro e w' ⟨rfl, rfl⟩)
        | (go_at_call_of 96 (Value.int .i64 (b : Int)); refine (HB.out _).mono ?_; rintro e w' ⟨rfl, rfl⟩))
      go_ret
      exact ⟨rfl, rfl⟩
    · have h1' : ¬ (x : Int) < (y : Int) := by omega
      by_cases h2 : x = y
      · have h2' : ((x : Int) == (y : Int)) = true := by simp; omega
        by_cases h3 : a < b
        · have h0 : r = -1 := by rw [HR.out, cmpR, if_neg HE.out, if_pos (.inr ⟨by rw [← HX.out, ← HY.out]; exact h2, h3⟩)]
          subst h0
          have h3' : (a : Int) < (b : Int) := by omega
          clear HX HY h1
          clear h2
          go_enter Tryz.func53, Tryz.ntmps53
          go_wp2_with (first
            | (go_at_call_of 95 (Value.int .i64 (a : Int)); refine (CA.out _).mono ?_; rintro e w' ⟨rfl, rfl⟩)
            | (go_at_call_of 95 (Value.int .i64 (b : Int)); refine (CB.out _).mono ?_; rintro e w' ⟨rfl, rfl⟩)
            | (go_at_call_of 96 (Value.int .i64 (a : Int)); refine (HA.out _).mono ?_; rintro e w' ⟨rfl, rfl⟩)
            | (go_at_call_of 96 (Value.int .i64 (b : Int)); refine (HB.out _).mono ?_; rintro e w' ⟨rfl, rfl⟩))
          go_ret
          exact ⟨rfl, rfl⟩
        · have h0 : r = 1 := by
            rw [HR.out, cmpR, if_neg HE.out, if_neg]
            rintro (h | h)
            · rw [← HX.out, ← HY.out] at h; exact h1 h
            · exact h3 h.2
          subst h0
          have h3' : ¬ (a : Int) < (b : Int) := by omega
          clear HX HY h1
          clear h2
          go_enter Tryz.func53, Tryz.ntmps53
          go_wp2_with (first
            | (go_at_call_of 95 (Value.int .i64 (a : Int)); refine (CA.out _).mono ?_; rintro e w' ⟨rfl, rfl⟩)
            | (go_at_call_of 95 (Value.int .i64 (b : Int)); refine (CB.out _).mono ?_; rintro e w' ⟨rfl, rfl⟩)
            | (go_at_call_of 96 (Value.int .i64 (a : Int)); refine (HA.out _).mono ?_; rintro e w' ⟨rfl, rfl⟩)
            | (go_at_call_of 96 (Value.int .i64 (b : Int)); refine (HB.out _).mono ?_; rintro e w' ⟨rfl, rfl⟩))
          go_ret
          exact ⟨rfl, rfl⟩
      · have h2' : ((x : Int) == (y : Int)) = false := by simp; omega
        have h0 : r = 1 := by
          rw [HR.out, cmpR, if_neg HE.out, if_neg]
          rintro (h | h)
          · rw [← HX.out, ← HY.out] at h; exact h1 h
          · rw [← HX.out, ← HY.out] at h; exact h2 h.1
        subst h0
        clear HX HY h1
        clear h2
        go_enter Tryz.func53, Tryz.ntmps53
        go_wp2_with (first
          | (go_at_call_of 95 (Value.int .i64 (a : Int)); refine (CA.out _).mono ?_; rintro e w' ⟨rfl, rfl⟩)
          | (go_at_call_of 95 (Value.int .i64 (b : Int)); refine (CB.out _).mono ?_; rintro e w' ⟨rfl, rfl⟩)
          | (go_at_call_of 96 (Value.int .i64 (a : Int)); refine (HA.out _).mono ?_; rintro e w' ⟨rfl, rfl⟩)
          | (go_at_call_of 96 (Value.int .i64 (b : Int)); refine (HB.out _).mono ?_; rintro e w' ⟨rfl, rfl⟩))
        go_ret
        exact ⟨rfl, rfl⟩
end Go.Proofs.YtpaedhlacbpmpaaGreatDoor

/-
  Walks: faultlineref05.Sort.
-/
namespace Go.Proofs.YtpaedhlacbpmpaaGreatDoor
open Go.RowKit

def lenV : Value → Nat | .slice _ n _ => n | _ => 0
/-- What a merge has taken, and what is left. -/
structure MInv (ns zs xs ys : List Nat) : Prop where
  left : (zs ++ xs).Pairwise ltK
  right : (zs ++ ys).Pairwise ltK
  mem : ∀ z, z ∈ ns ↔ z ∈ zs ∨ z ∈ xs ∨ z ∈ ys
  len : zs.length + xs.length + ys.length ≤ ns.length
/-- l[1:] of a list with a head. -/
abbrev restV (b o n c : Nat) : Value := .slice (if c = 1 then some ⟨b, o, none⟩ else some ⟨b, o + 1, none⟩) n (c - 1)
end Go.Proofs.YtpaedhlacbpmpaaGreatDoor

/-
  Walks: faultlineref06.Error, Both, part, Least, limited.
-/
namespace Go.Proofs.YtpaedhlacbpmpaaGreatDoor
open Go.RowKit

def partN (a b : Nat) : Bool := decide (a ≠ b) && subN a b
end Go.Proofs.YtpaedhlacbpmpaaGreatDoor

/-
  Walks: family.Covers, family.Check; slices.Equal of equal lists.
-/
namespace Go.Proofs.YtpaedhlacbpmpaaGreatDoor
open Go.RowKit

def covB (l : List Nat) (s : Nat) : Bool := l.any fun t => subN t s
end Go.Proofs.YtpaedhlacbpmpaaGreatDoor

/-
  Walks: family.lists of one list, family.Check, and the reference's Error and Check, of whatever list.
-/
namespace Go.Proofs.YtpaedhlacbpmpaaGreatDoor
open Go.RowKit

def okI (xs : List Int) : Bool := xs.all fun x => decide (0 ≤ x ∧ x ≤ 16777215)
def errI (xs : List Int) : Nat := if 1024 < xs.length then 4 else if okI xs = true then 0 else 3
def natsI (xs : List Int) : List Nat := xs.map Int.toNat
/-- The number of Check's error. -/
def chkI (xs : List Int) : Nat := if errI xs ≠ 0 then errI xs else if natsI xs ≠ sortK (natsI xs) then 13 else if natsI xs ≠ minK (natsI xs) then 2 else 0
end Go.Proofs.YtpaedhlacbpmpaaGreatDoor

/-
  Walk: truncate.Left. Printed by gen_A51.py.
-/
namespace Go.Proofs.YtpaedhlacbpmpaaGreatDoor
open Go.RowKit

/-- The sum of the first products. -/
def sumQ (ss : List Nat) (ps : List Rw) : Nat → Rat
  | 0 => 0
  | k + 1 => sumQ ss ps k + prodQ (ss.getD k 0) ps ps.length
/-- What Left answers: the error's number, the sum. -/
def leftQ (xs ys : List Int) (ps : List Rw) : Nat × Rat :=
  if chkI xs ≠ 0 then (chkI xs, 0) else if chkI ys ≠ 0 then (chkI ys, 0) else if (natsI ys).any (fun s => decide ((ps.length : Int) ≤ gtK s)) = true then (11, 0) else if badR ps = true then (3, 0) else (0, sumQ (natsI ys) ps (natsI ys).length)
end Go.Proofs.YtpaedhlacbpmpaaGreatDoor

/-
  Walks: faultlinebase.Words, Rat of equal ones.
-/
namespace Go.Proofs.YtpaedhlacbpmpaaGreatDoor
open Go.RowKit

set_option maxRecDepth 100000 in
set_option maxHeartbeats 2000000 in
theorem words_true (xs : List Nat) (va vb : Value) (w : World) (ha : WdsAt w va xs) (hb : WdsAt w vb xs) :
    Calls Tryz.prog 78 #[va, vb] w fun e w' => e = .returned (.bool true) ∧ Kept w w' := by
  have HA := Lib.hid ha
  have HB := Lib.hid hb
  have hl := ha.len
  obtain ⟨a0, c0, rfl⟩ := ha.shape
  obtain ⟨a1, c1, rfl⟩ := hb.shape
  obtain ⟨n, hn⟩ : ∃ n, n = xs.length := ⟨_, rfl⟩
  rw [← hn] at HA HB hl ⊢
  have HN := Lib.hid hn
  clear ha hb hn
  go_enter Tryz.func78, Tryz.ntmps78
  go_wp2
  go_loopg [13] n (fun kx s13 wr => ∃ k : Nat, k ≤ n ∧ s13 = .int .i64 k ∧ n - k ≤ kx ∧ Hid (Kept w wr))
  case atStart => exact ⟨0, Nat.zero_le _, rfl, by omega, Lib.hid (Kept.refl _)⟩
  case round =>
    obtain ⟨k, hk, rfl, hkx, HK⟩ := hrel
    by_cases hlt : k < n
    · have hkl : k < xs.length := by have := HN.out; omega
      obtain ⟨b1, o1, rfl, h1⟩ := HA.out.get k hkl
      obtain ⟨b2, o2, rfl, h2⟩ := HB.out.get k hkl
      have c1' := HK.out.cell h1
      have c2' := HK.out.cell h2
      generalize xs.getD k 0 = x at *
      have hki : (k : Int) < (n : Int) := by omega
      have e1 : ((x : Int) == (x : Int)) = true := by simp
      have e2 : ((x : Int) != (x : Int)) = false := by simp
      clear h1 h2 hkl
      go_wp2
      go_quiet (fail)
      go_wp2
      go_roundg (n - (k + 1))
      case measure => omega
      case rel => exact ⟨k + 1, by omega, by go_num, Nat.le_refl _, Lib.hid (HK.out.drewN _)⟩
    · have hki : ¬ (k : Int) < (n : Int) := by omega
      go_wp2
      go_ret
      exact ⟨rfl, HK.out⟩
set_option maxRecDepth 100000 in
set_option maxHeartbeats 2000000 in
theorem rat_true (va vb : Value) (r : Rw) (w : World) (ha : RatAt w va r) (hb : RatAt w vb r) :
    Calls Tryz.prog 36 #[va, vb] w fun e w' => e = .returned (.bool true) ∧ Kept w w' := by
  obtain ⟨u1, u2, rfl, h1, h2⟩ := ha
  obtain ⟨u3, u4, rfl, h3, h4⟩ := hb
  have HW1 := Lib.hid (fun W (hk : Kept w W) => words_true r.num u1 u3 W (h1.kept hk) (h3.kept hk))
  have HW2 := Lib.hid (fun W (hk : Kept w W) => words_true r.den u2 u4 W (h2.kept hk) (h4.kept hk))
  obtain ⟨a1, c1, rfl⟩ := h1.shape
  obtain ⟨a2, c2, rfl⟩ := h2.shape
  obtain ⟨a3, c3, rfl⟩ := h3.shape
  obtain ⟨a4, c4, rfl⟩ := h4.shape
  generalize r.num.length = n1 at *
  generalize r.den.length = n2 at *
  generalize r.neg = neg at *
  obtain ⟨w2, hw2⟩ : ∃ w2, w2 = (w.alloc (.cells #[.bool neg, .slice a1 n1 c1, .slice a2 n2 c2] 38)).alloc (.cells #[.bool neg, .slice a3 n1 c3, .slice a4 n2 c4] 38) := ⟨_, rfl⟩
  have HK0 : Hid (Kept w w2) := Lib.hid (by rw [hw2]; exact ((Kept.refl w).alloc _).alloc _)
  have p := (RowAt.made w #[.bool neg, .slice a1 n1 c1, .slice a2 n2 c2] 38).kept ((Kept.refl _).alloc (.cells #[.bool neg, .slice a3 n1 c3, .slice a4 n2 c4] 38))
  have q := RowAt.made (w.alloc (.cells #[.bool neg, .slice a1 n1 c1, .slice a2 n2 c2] 38)) #[.bool neg, .slice a3 n1 c3, .slice a4 n2 c4] 38
  rw [World.size_alloc] at q
  rw [← hw2] at p q
  have p0 := p.cell (i := 0) (by simp)
  have p1 := p.cell (i := 1) (by simp)
  have p2 := p.cell (i := 2) (by simp)
  have q0 := q.cell (i := 0) (by simp)
  have q1 := q.cell (i := 1) (by simp)
  have q2 := q.cell (i := 2) (by simp)
  simp only [List.getElem_cons_succ, List.getElem_cons_zero] at p0 p1 p2 q0 q1 q2
  have HW := Lib.hid hw2
  clear h1 h2 h3 h4 hw2 p q
  go_enter Tryz.func36, Tryz.ntmps36
  go_wp2_with fail
  rw [← HW.out]
  refine (HW1.out _ HK0.out).mono ?_
  rintro e w3 ⟨rfl, hk3⟩
  have r2 := hk3.cell p2
  have s2 := hk3.cell q2
  have HK3 := Lib.hid (HK0.out.trans hk3)
  clear hk3
  go_wp2_with fail
  refine (HW2.out _ HK3.out).mono ?_
  rintro e w4 ⟨rfl, hk4⟩
  have HK4 := Lib.hid (HK3.out.trans hk4)
  clear hk4
  go_wp2
  go_ret
  exact ⟨rfl, HK4.out⟩
end Go.Proofs.YtpaedhlacbpmpaaGreatDoor

/-
  Plain: a formula in which an event is replaced by a constant, which is node 0; Restrict.
-/
namespace Go.Proofs.YtpaedhlacbpmpaaGreatDoor

def mvA (V e : Nat) (a : Int) : Int := if a = e then V else if a < V then a else a + 1
def mvN (V e : Nat) (x : Nd) : Nd := ⟨x.kind, x.k, x.args.map (mvA V e)⟩
def mvF (V e : Nat) (k : Int) (f : Fm) (T : Nat) : Fm := ⟨V, ⟨0, k, []⟩ :: f.nodes.map (mvN V e), mvA V e T⟩
/-- s with the bit e put to b. -/
def putBit (s e : Nat) (b : Bool) : Nat := if b then s ||| 2 ^ e else sdiff s (2 ^ e)
/-- Restrict. -/
def restrictK (l : List Nat) (fl wk : Nat) : List Nat := minK ((l.filter fun s => s &&& wk == 0).map fun s => sdiff s fl)
theorem sdiff_bit (a b i : Nat) : (sdiff a b).testBit i = (a.testBit i && !b.testBit i) := by
  unfold sdiff
  rw [Nat.testBit_xor, Nat.testBit_and]
  cases a.testBit i <;> cases b.testBit i <;> rfl
end Go.Proofs.YtpaedhlacbpmpaaGreatDoor

/-
  Plain: disjoint cubes of a family; how many of them a state lies in.
-/
namespace Go.Proofs.YtpaedhlacbpmpaaGreatDoor
open Go.RowKit

/-- The cubes of a cube without the states with all of some events. -/
def lessL (y n : Nat) : List Nat → List (Nat × Nat)
  | [] => []
  | i :: is => (y, n ||| 2 ^ i) :: lessL (y ||| 2 ^ i) n is
def lessK (c : Nat × Nat) (s : Nat) : List (Nat × Nat) := if s &&& c.2 ≠ 0 then [c] else lessL c.1 c.2 (elemsK (sdiff s c.1))
def withK (l : List (Nat × Nat)) (s : Nat) : List (Nat × Nat) := l.flatMap fun c => lessK c s
def ownC (most : Nat) : List Nat → List (Nat × Nat) → Option (List (Nat × Nat))
  | [], l => some l
  | b :: bs, l => if most < (withK l b).length then none else ownC most bs (withK l b)
def cubesC (pre : List Nat) (out : List (Nat × Nat)) : List Nat → Option (List (Nat × Nat))
  | [] => some out
  | s :: r => match ownC (1024 - out.length) pre [(s, 0)] with
    | none => none
    | some l => cubesC (pre ++ [s]) (out ++ l) r
def cubesK (L : List Nat) : Option (List (Nat × Nat)) := cubesC [] [] L
/-- A state is in a cube. -/
def inC (c : Nat × Nat) (s : Nat) : Bool := subN c.1 s && (c.2 &&& s == 0)
def cnt (l : List (Nat × Nat)) (s : Nat) : Nat := (l.filter fun c => inC c s).length
theorem and_zero_iff {a b : Nat} : (a &&& b == 0) = true ↔ ∀ i, a.testBit i = true → b.testBit i = false := by
  rw [beq_iff_eq]
  constructor
  · intro h i hi
    have : (a &&& b).testBit i = false := by rw [h]; exact Nat.zero_testBit i
    rw [Nat.testBit_and, hi] at this
    simpa using this
  · intro h
    apply Nat.eq_of_testBit_eq
    intro i
    rw [Nat.testBit_and, Nat.zero_testBit]
    cases ha : a.testBit i with
    | false => rfl
    | true => rw [h i ha]; rfl
theorem inC_iff {c : Nat × Nat} {s : Nat} : inC c s = true ↔ (∀ i, c.1.testBit i = true → s.testBit i = true) ∧ ∀ i, c.2.testBit i = true → s.testBit i = false := by
  unfold inC
  rw [Bool.and_eq_true, subN_iff, and_zero_iff]
theorem cnt_nil (s : Nat) : cnt [] s = 0 := rfl
theorem cnt_cons (c : Nat × Nat) (l : List (Nat × Nat)) (s : Nat) : cnt (c :: l) s = (if inC c s = true then 1 else 0) + cnt l s := by
  unfold cnt
  rw [List.filter_cons]
  split
  · rw [List.length_cons, Nat.add_comm]
  · omega
/-- A valid cube. -/
def CbOk (c : Nat × Nat) : Prop := c.1 < 16777216 ∧ c.2 < 16777216 ∧ c.1 &&& c.2 = 0
theorem and_eq_zero {a b : Nat} : a &&& b = 0 ↔ ∀ i, a.testBit i = true → b.testBit i = false := by
  rw [← beq_iff_eq]; exact and_zero_iff
/-- Two cubes have a common state. -/
def meetC (a b : Nat × Nat) : Bool := a.1 &&& b.2 == 0 && a.2 &&& b.1 == 0
end Go.Proofs.YtpaedhlacbpmpaaGreatDoor

/-
  Cubes in memory: slices of pairs of ints that can be read, rows of the call's own, append.
-/
namespace Go.Proofs.YtpaedhlacbpmpaaGreatDoor
open Go.RowKit

def ccells (c : Int × Int) : List Value := [.int .i64 c.1, .int .i64 c.2]
abbrev cubV (c : Int × Int) : Value := .agg #[.int .i64 c.1, .int .i64 c.2]
def ofC (c : Nat × Nat) : Int × Int := ((c.1 : Int), (c.2 : Int))
def ofCs (l : List (Nat × Nat)) : List (Int × Int) := l.map ofC
/-- A slice of cubes that can be read. -/
def CbsAt (w : World) (v : Value) (L : List (Int × Int)) : Prop :=
  ∃ (a : Option Addr) (c : Nat), v = .slice a L.length c ∧ (L.length ≤ c ∧ (a = none → c = 0)) ∧ L.length ≤ 1099511627776 ∧
    ∀ i (h : i < L.length), ∃ b o, a = some ⟨b, o, none⟩ ∧ w.rangeAt b (o + i * 2) (ccells L[i])
end Go.Proofs.YtpaedhlacbpmpaaGreatDoor

/-
  Rows of the call's own in whose blocks no word lies; slices of fractions of the call's own.
-/
namespace Go.Proofs.YtpaedhlacbpmpaaGreatDoor
open Go.RowKit

/-- A cell that is no word. -/
def NotW (u : Value) : Prop := ∀ x, u ≠ .int .u32 x
/-- No cell of block g is a word. -/
def NoW (w : World) (g : Nat) : Prop := ∀ cur e fr, w.heap[g]? = some (.cells cur e fr) → ∀ u ∈ cur.toList, NotW u
theorem noW_of {w : World} {g : Nat} {cur : Array Value} {e : TypeId} {fr : Nat × Nat} (h : w.heap[g]? = some (.cells cur e fr)) (hc : ∀ u ∈ cur.toList, NotW u) : NoW w g := by
  intro c e2 f2 h2
  rw [h] at h2
  cases h2
  exact hc
theorem noW_new (w : World) (cs : Array Value) (e : TypeId) (hc : ∀ u ∈ cs.toList, NotW u) : NoW (w.alloc (.cells cs e)) w.heap.size := noW_of (heap_alloc_new w _) hc
theorem NoW.same {w w' : World} {g : Nat} (h : NoW w g) (hk : w'.heap[g]? = w.heap[g]?) : NoW w' g := fun cur e fr h2 => h cur e fr (by rw [← hk]; exact h2)
theorem NoW.cell {w : World} {g i : Nat} {u : Value} (h : NoW w g) (hc : w.cell? ⟨g, i, none⟩ = some u) : NotW u := by
  simp only [World.cell?] at hc
  cases hg : w.heap[g]? with
  | none => rw [hg] at hc; simp at hc
  | some o =>
    cases o with
    | cells cur e fr =>
      rw [hg] at hc
      simp only at hc
      exact h cur e fr hg u (by
        have := Array.getElem?_eq_some_iff.1 hc
        obtain ⟨h1, h2⟩ := this
        rw [← h2]
        exact Array.mem_toList_iff.2 (Array.getElem_mem h1))
    | _ => rw [hg] at hc; simp at hc
theorem mem_zeroCells {z : Array Value} {n : Nat} {u : Value} (h : u ∈ (Builtin.zeroCells z n).toList) : u ∈ z.toList := by
  unfold Builtin.zeroCells at h
  simp at h
  obtain ⟨k, hk, e⟩ := h
  have hz : 0 < z.size := by
    rcases Nat.eq_zero_or_pos z.size with h0 | h0
    · rw [h0] at hk; omega
    · exact h0
  have hlt : k % z.size < z.size := Nat.mod_lt _ hz
  rw [← e, getElem!_pos z _ hlt]
  exact Array.mem_toList_iff.2 (Array.getElem_mem hlt)
/-- append to a row of the call's own whose block holds no word: neither does the new one. -/
theorem run_append_noW {P : Program} (w : World) (base : Nat) (t ty e : TypeId) (i : TypeInfo) (z : Value) (size bytes : Nat) (ht : P.underlying t = some (.slice e)) (hi : P.info? e = some i) (hz : i.zero = some z)
    (hsize : i.size = size) (hby : i.bytes = bytes) (hzs : z.cells.size = size) (hsz : 0 < size)
    (v : Value) (n : Nat) (xs : List Value) (hown : w.ownsRow base e size v n xs)
    (a : Addr) (m c : Nat) (news : List Value) (hl : news.length = m * size) (hnews : ∀ j u, news[j]? = some u → w.cell? (a.add j) = some u) (h1 : ∀ u ∈ news, u.oneCell' = true)
    (h63 : n + m ≤ maxLen) (hbytes : (n + m) * bytes ≤ 140737488355328) (hbase : base ≤ w.heap.size)
    (hno : ∀ g, v.ownBlock = some g → NoW w g) (hnw : ∀ u ∈ news, NotW u) (hzw : ∀ u ∈ z.cells.toList, NotW u) :
    ∃ v' w', (Builtin.append_ #[t, t] ty #[v, .slice (some a) m c]).run P w = .ok v' w' ∧ w'.ownsRow base e size v' (n + m) (xs ++ news) ∧ w.grownBy w' v.ownBlock ∧ ∀ g, v'.ownBlock = some g → NoW w' g := by
  obtain ⟨v', w', hr, h2, h3, h4⟩ := run_append_own (P := P) w base t ty e i z size bytes ht hi hz hsize hby hzs hsz v n xs hown a m c news hl hnews h1 h63 hbytes hbase
  refine ⟨v', w', hr, h2, h3, ?_⟩
  subst hsize
  subst hby
  have hsmall : n + m ≤ 9223372036854775807 := by simp only [maxLen] at h63; omega
  intro k hk
  rcases hown.2 with ⟨rfl, rfl⟩ | ⟨g, cap, cur, rfl, hbg, hg, hnc, hcm, hcs, htake⟩
  · have hx : xs = [] := List.eq_nil_of_length_eq_zero (by simpa using hown.1)
    subst hx
    by_cases hm : m = 0
    · subst hm
      have := h4.2 ⟨rfl, rfl⟩
      subst this
      simp [Value.ownBlock] at hk
    · have hr2 := run_append_nil (P := P) w t ty e i z ht hi hz a m c news hl hnews (by omega) (by omega) (by have hb := hbytes; simp only [Nat.zero_add] at hb; omega)
      have e1 := hr.symm.trans hr2
      injection e1 with e2 e3
      subst e2 e3
      simp only [Value.ownBlock, Option.some.injEq] at hk
      subst hk
      refine noW_of (cur := news.toArray ++ Builtin.zeroCells z.cells (grownCap w m 0 e - m)) (e := e) (fr := (0, 0)) (by have := heap_alloc_new w.drew (.cells (news.toArray ++ Builtin.zeroCells z.cells (grownCap w m 0 e - m)) e); exact this) fun u hu => ?_
      rw [Array.toList_append] at hu
      rcases List.mem_append.1 hu with hu | hu
      · exact hnw u (by simpa using hu)
      · exact hzw u (mem_zeroCells hu)
  · have hno2 := hno g (by simp [Value.ownBlock]) cur e (0, 0) hg
    by_cases hroom : n + m ≤ cap
    · have hfit : n * i.size + news.length ≤ cur.size := by rw [hl, hcs, ← Nat.add_mul]; exact Nat.mul_le_mul_right _ hroom
      have hr2 := run_append_room (P := P) w t ty e i ht hi g n cap cur hg a m c news hl hnews h1 hroom hfit
      have e1 := hr.symm.trans hr2
      injection e1 with e2 e3
      subst e2 e3
      simp only [Value.ownBlock, Option.some.injEq] at hk
      subst hk
      refine noW_of (setRow_heap w g cur _ e _ hg) fun u hu => ?_
      rcases List.mem_append.1 hu with hu | hu
      · rcases List.mem_append.1 hu with hu | hu
        · exact hno2 u (List.mem_of_mem_take hu)
        · exact hnw u hu
      · exact hno2 u (List.mem_of_mem_drop hu)
    · have holds : ∀ j u, xs[j]? = some u → w.cell? ((⟨g, 0, none⟩ : Addr).add j) = some u := hown.cells (g := g) rfl
      have hr2 := run_append_grow (P := P) w t ty e i z ht hi hz ⟨g, 0, none⟩ n cap xs hown.1 holds a m c news hl hnews (by omega) (by omega) (growslice_fits (by omega) hbytes)
      have e1 := hr.symm.trans hr2
      injection e1 with e2 e3
      subst e2 e3
      simp only [Value.ownBlock, Option.some.injEq] at hk
      subst hk
      refine noW_of (heap_alloc_new w.drew _) fun u hu => ?_
      rw [Array.toList_append, Array.toList_append] at hu
      rcases List.mem_append.1 hu with hu | hu
      · rcases List.mem_append.1 hu with hu | hu
        · have hu : u ∈ xs := by simpa using hu
          rw [← htake] at hu
          exact hno2 u (List.mem_of_mem_take hu)
        · exact hnw u (by simpa using hu)
      · exact hzw u (mem_zeroCells hu)
theorem wp_append_noW {P : Program} {o : Oper} {a : Act} {K : Act → World → Prop} {Q : Exit → Act → World → Prop} (w : World) (s x : Operand) (t : TypeId)
    (ho : o.op = .call { callee := .builtin .append, args := #[s, x], argTypes := #[t, t] })
    (base : Nat) (e : TypeId) (i : TypeInfo) (z : Value) (size bytes : Nat) (ht : P.underlying t = some (.slice e)) (hi : P.info? e = some i) (hz : i.zero = some z)
    (hsize : i.size = size) (hby : i.bytes = bytes) (hzs : z.cells.size = size) (hsz : 0 < size)
    (v : Value) (n : Nat) (xs : List Value) (hs : a.eval s = v) (hown : w.ownsRow base e size v n xs)
    (ad : Addr) (m c : Nat) (news : List Value) (hx : a.eval x = .slice (some ad) m c) (hl : news.length = m * size) (hnews : ∀ j u, news[j]? = some u → w.cell? (ad.add j) = some u) (h1 : ∀ u ∈ news, u.oneCell' = true)
    (h63 : n + m ≤ maxLen) (hbytes : (n + m) * bytes ≤ 140737488355328) (hbase : base ≤ w.heap.size)
    (hno : ∀ g, v.ownBlock = some g → NoW w g) (hnw : ∀ u ∈ news, NotW u) (hzw : ∀ u ∈ z.cells.toList, NotW u)
    (h : ∀ v' w', w'.ownsRow base e size v' (n + m) (xs ++ news) → w.grownBy w' v.ownBlock → (∀ g, v'.ownBlock = some g → NoW w' g) → K (a.put o.dst v') w') : o.wp P a w K Q := by
  obtain ⟨v', w', hr, h2, h3, h4⟩ := run_append_noW (P := P) w base t o.type e i z size bytes ht hi hz hsize hby hzs hsz v n xs hown ad m c news hl hnews h1 h63 hbytes hbase hno hnw hzw
  unfold Oper.wp execOp
  simp only [ho, resolve, invoke, builtin, Sem.run_bind, Sem.run_pure, Result.andThen_ok, List.map_toArray, List.map_cons, List.map_nil, hs, hx, hr]
  exact h v' w' h2 h3 h4
theorem WdsAt.only {w w' : World} {g : Option Nat} {v : Value} {xs : List Nat} (h : WdsAt w v xs) (hr : ∀ k, g = some k → NoW w k) (ho : ∀ k, k < w.heap.size → some k ≠ g → w'.heap[k]? = w.heap[k]?) : WdsAt w' v xs := by
  obtain ⟨a, c, h1, h2, h3, h4, h5⟩ := h
  refine ⟨a, c, h1, h2, h3, h4, fun i hi => ?_⟩
  obtain ⟨b, o, h6, h7⟩ := h5 i hi
  refine ⟨b, o, h6, ?_⟩
  have hne : some b ≠ g := fun e => (hr b e.symm).cell h7 _ rfl
  have hlt : b < w.heap.size := by
    rcases Nat.lt_or_ge b w.heap.size with h8 | h8
    · exact h8
    · simp [World.cell?, Array.getElem?_eq_none h8] at h7
  have := ho b hlt hne
  simp only [World.cell?, this] at h7 ⊢
  exact h7
/-- A fraction with the slices of its words. -/
abbrev RwV := Rw × Value × Value
def rwC (x : RwV) : List Value := [.bool x.1.neg, x.2.1, x.2.2]
def RwOk (w : World) (x : RwV) : Prop := WdsAt w x.2.1 x.1.num ∧ WdsAt w x.2.2 x.1.den
/-- Fractions of the call's own, in a slice. -/
def OwnRats (w : World) (B : Nat) (v : Value) (rs : List Rw) : Prop :=
  ∃ L : List RwV, L.map Prod.fst = rs ∧ w.ownsRow B 38 3 v L.length (L.flatMap rwC) ∧ L.length ≤ 1099511627776 ∧ (∀ g, v.ownBlock = some g → NoW w g) ∧ ∀ x ∈ L, RwOk w x
theorem noW_kept {w w' : World} {B n : Nat} {e : TypeId} {s : Nat} {v : Value} {xs : List Value} (h : w.ownsRow B e s v n xs) (hn : ∀ g, v.ownBlock = some g → NoW w g) (hk : Kept w w') : ∀ g, v.ownBlock = some g → NoW w' g :=
  fun g hg => (hn g hg).same (hk.block g (h.lt g hg).2)
theorem WdsAt.cell1 {w : World} {v : Value} {xs : List Nat} (h : WdsAt w v xs) : v.oneCell' = true ∧ NotW v := by
  obtain ⟨a, c, rfl⟩ := h.shape
  exact ⟨rfl, fun x h => by cases h⟩
end Go.Proofs.YtpaedhlacbpmpaaGreatDoor

/-
  Lists of terms in memory; arguments that are read as such.
-/
namespace Go.Proofs.YtpaedhlacbpmpaaGreatDoor
open Go.RowKit Go.ChangeShapes Go.WideShapes Go.ChangeAt Go.Joins Go.Deep

/-- A term: its set, its coefficient. -/
abbrev Trm := Int × Rw
def TrmsRaw (w : World) (v : Value) (ts : List Trm) : Prop :=
  ∃ (a : Option Addr) (c : Nat), v = .slice a ts.length c ∧ (ts.length ≤ c ∧ (a = none → c = 0)) ∧ ts.length ≤ 140737488355328 ∧
    ∀ i (h : i < ts.length), ∃ b o u1 u2, a = some ⟨b, o, none⟩ ∧ w.rangeAt b (o + i * 4) [.int .i64 ts[i].1, .bool ts[i].2.neg, u1, u2] ∧ WdRaw w u1 ts[i].2.num ∧ WdRaw w u2 ts[i].2.den ∧ (Lit.int .i64 ts[i].1).wf = true
def TrmsAt (w : World) (v : Value) (ts : List Trm) : Prop :=
  ∃ (a : Option Addr) (c : Nat), v = .slice a ts.length c ∧ (ts.length ≤ c ∧ (a = none → c = 0)) ∧ ts.length ≤ 140737488355328 ∧
    ∀ i (h : i < ts.length), ∃ b o u1 u2, a = some ⟨b, o, none⟩ ∧ w.rangeAt b (o + i * 4) [.int .i64 ts[i].1, .bool ts[i].2.neg, u1, u2] ∧ WdsAt w u1 ts[i].2.num ∧ WdsAt w u2 ts[i].2.den
theorem TrmsRaw.kept {w w' : World} {v : Value} {ts : List Trm} (h : TrmsRaw w v ts) (hk : Kept w w') : TrmsRaw w' v ts := by
  obtain ⟨a, c, h1, h2, h3, h4⟩ := h
  exact ⟨a, c, h1, h2, h3, fun i hi => let ⟨b, o, u1, u2, h5, h6, h7, h8, h9⟩ := h4 i hi; ⟨b, o, u1, u2, h5, range_same h6 hk, h7.kept hk, h8.kept hk, h9⟩⟩
theorem TrmsAt.kept {w w' : World} {v : Value} {ts : List Trm} (h : TrmsAt w v ts) (hk : Kept w w') : TrmsAt w' v ts := by
  obtain ⟨a, c, h1, h2, h3, h4⟩ := h
  exact ⟨a, c, h1, h2, h3, fun i hi => let ⟨b, o, u1, u2, h5, h6, h7, h8⟩ := h4 i hi; ⟨b, o, u1, u2, h5, range_same h6 hk, h7.kept hk, h8.kept hk⟩⟩
theorem TrmsRaw.small {w : World} {v : Value} {ts : List Trm} (h : TrmsRaw w v ts) (hs : ∀ t ∈ ts, t.2.Short 1099511627776) : TrmsAt w v ts := by
  obtain ⟨a, c, h1, h2, h3, h4⟩ := h
  exact ⟨a, c, h1, h2, h3, fun i hi => let ⟨b, o, u1, u2, h5, h6, h7, h8, _⟩ := h4 i hi; ⟨b, o, u1, u2, h5, h6, h7.small (hs _ (List.getElem_mem _)).1, h8.small (hs _ (List.getElem_mem _)).2⟩⟩
theorem TrmsAt.shape {w : World} {v : Value} {ts : List Trm} (h : TrmsAt w v ts) : ∃ a c, v = .slice a ts.length c := by obtain ⟨a, c, h1, _⟩ := h; exact ⟨a, c, h1⟩
theorem TrmsRaw.shape {w : World} {v : Value} {ts : List Trm} (h : TrmsRaw w v ts) : ∃ a c, v = .slice a ts.length c := by obtain ⟨a, c, h1, _⟩ := h; exact ⟨a, c, h1⟩
theorem TrmsAt.len {w : World} {v : Value} {ts : List Trm} (h : TrmsAt w v ts) : ts.length ≤ 140737488355328 := by obtain ⟨a, c, _, _, h1, _⟩ := h; exact h1
/-- A term that is read. -/
theorem TrmsAt.read {w : World} {a : Option Addr} {n c : Nat} {ts : List Trm} (h : TrmsAt w (.slice a n c) ts) (i : Nat) (hi : i < ts.length) : ∃ b o y1 y2 y3 a1 c1 a2 c2, a = some ⟨b, o, none⟩ ∧
    w.cell? ⟨b, o + i * 4, none⟩ = some (.int .i64 (ts.getD i default).1) ∧ w.cell? ⟨b, o + i * 4 + 1, none⟩ = some (.bool y1) ∧ w.cell? ⟨b, o + i * 4 + 2, none⟩ = some (.slice a1 y2 c1) ∧ w.cell? ⟨b, o + i * 4 + 3, none⟩ = some (.slice a2 y3 c2) ∧
    Hid (RatAt w (.agg #[.bool y1, .slice a1 y2 c1, .slice a2 y3 c2]) (ts.getD i default).2) := by
  obtain ⟨a', c', e, _, _, h4⟩ := h
  injection e with e1 e2 e3
  subst e1
  have e : ts.getD i default = ts[i] := by simp [List.getD_eq_getElem?_getD, hi]
  rw [e]
  obtain ⟨b, o, u1, u2, he, hr, h1, h2⟩ := h4 i hi
  obtain ⟨a1, c1, rfl⟩ := h1.shape
  obtain ⟨a2, c2, rfl⟩ := h2.shape
  have z0 := hr 0 _ rfl
  rw [Nat.add_zero] at z0
  exact ⟨b, o, _, _, _, a1, c1, a2, c2, he, z0, hr 1 _ rfl, hr 2 _ rfl, hr 3 _ rfl, Lib.hid ⟨_, _, rfl, h1, h2⟩⟩
end Go.Proofs.YtpaedhlacbpmpaaGreatDoor
