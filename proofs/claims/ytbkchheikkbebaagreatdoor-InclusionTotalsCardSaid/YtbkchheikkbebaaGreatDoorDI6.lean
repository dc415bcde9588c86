import Derived.WalkKit
import Derived.WalkSpells
import Derived.WalkLawsBesides
import Derived.Deep.QuietTactic
import Derived.BigQuiet
import Derived.Lib.Hide
import Derived.Shelf.Abstract
import Derived.Deep.RegionWith
import Derived.Laws.AppendOwnNone
import Derived.Lib.AppendZerosOnto
import Derived.Lib.SliceRun
import Derived.Lib.SlicesCompact
import Derived.Shelf.SlSortCmp.NoneTotal
import Derived.Maps.OwnOps
import Derived.Maps.OwnSet
import Derived.Maps.Views
import Derived.Deep.MidRow
import Derived.Deep.RegionHeld3
import Derived.Deep.AppendLies
import Derived.Deep.RegionLaw
import Derived.IntWalk
import Derived.StillTailTactics
import Derived.ProofKit
import Derived.OpenShut
import Derived.SizedLaws
import Derived.Lib.SmallJoins
import Derived.Deep.Slices
import Derived.Deep.Fields
import Derived.Deep.Strs
import Derived.Carry
import Derived.Deep.DeepCutAuto
import Derived.BigRegion
import Derived.ChangeAlike
import Derived.Deep.LoopGhost
import Derived.Lib.ItoaNum
import Derived.RegionTactic
import Derived.Shelf.SlSortCmp.PdqK
import Derived.Sort.LotA
import Derived.Sort.LotD2
import Derived.Lib.BitFns
import Derived.Deep.CutBlock
import Derived.Test.YtbkchheikkbebaaGreatDoorDI5
import Derived.Test.YtbkchheikkbebaaGreatDoorDI1
import Derived.Test.YtbkchheikkbebaaGreatDoorDI4
/-
  Walk: faultlineref35.Product.
-/
namespace Go.Proofs.YtbkchheikkbebaaGreatDoor
open Go.RowKit

theorem IntsAt.apart {w w' : World} {g : Nat} {v : Value} {xs : List Int} {row : List Value} (h : IntsAt w v xs) (hr : FixAt w g row) (hn : ∀ k x, Value.int k x ∉ row) (ho : OnlyAt g w w') : IntsAt w' v xs := by
  obtain ⟨a, c, h1, h2, h3, h5⟩ := h
  refine ⟨a, c, h1, h2, h3, fun i hi => ?_⟩
  obtain ⟨b, o, h6, h7⟩ := h5 i hi
  refine ⟨b, o, h6, ?_⟩
  have hne : b ≠ g := fun e => by
    subst e
    exact hn _ _ (hr.only h7)
  have hlt : b < w.heap.size := World.block_lt_of_cell? w _ h7
  have := ho.block b hlt hne
  simp only [World.cell?, this] at h7 ⊢
  exact h7
/-- Ints are not touched by a store into a fraction's cells. -/
theorem RatCell.ints {w : World} {g : Nat} {r : Rw} (h : RatCell w g r) {v : Value} {xs : List Int} (hv : IntsAt w v xs) (u0 u1 u2 : Value) : IntsAt (((w.setCell ⟨g, 0, none⟩ u0).setCell ⟨g, 1, none⟩ u1).setCell ⟨g, 2, none⟩ u2) v xs := by
  obtain ⟨a3, c3, a4, c4, h3, h4, _, _⟩ := h
  exact hv.apart h4 (by simp) ((((OnlyAt.refl g w).store 0 u0).store 1 u1).store 2 u2)
/-- The product over the first elements of a list. -/
def prodE (L : List Nat) (ps : List Rw) (j : Nat) : Rat := (L.take j).foldl (fun (q : Rat) (i : Nat) => q * ratOf (ps.getD i default)) 1
theorem prodE_succ {L : List Nat} (ps : List Rw) {j : Nat} (h : j < L.length) : prodE L ps (j + 1) = prodE L ps j * ratOf (ps.getD L[j] default) := by
  unfold prodE
  rw [List.take_succ_eq_append_getElem h, List.foldl_append]
  rfl
theorem prodE_all {s : Nat} {ps : List Rw} (hs : s < 16777216) (hg : gtK s < (ps.length : Int)) : prodE (elemsK s) ps (elemsK s).length = prodQ s ps ps.length := by
  have h0 : ∀ i, Lib.bitLen s ≤ i → s.testBit i = false := fun i hi => by
    cases h : s.testBit i with
    | false => rfl
    | true =>
      exfalso
      have := bit_gt hs h
      unfold gtK at this
      omega
  have h24 : Lib.bitLen s ≤ 24 := Lib.bitLen_le s 24 (by omega) (by rw [show (2 : Nat) ^ 24 = 16777216 from rfl]; exact hs)
  have hl : Lib.bitLen s ≤ ps.length := by unfold gtK at hg; omega
  unfold prodE
  rw [List.take_length]
  unfold elemsK
  rw [prodQ_elems, prodQ_high h0 h24, prodQ_high h0 hl]
theorem prodE_short {L : List Nat} {ps : List Rw} (hL : ∀ i ∈ L, i < ps.length) (hs : ∀ r ∈ ps, r.Short 3) (hok : ∀ r ∈ ps, r.Ok) : ∀ j, j ≤ L.length → (canR (prodE L ps j)).Short (3 * j + 1) := by
  intro n
  induction n with
  | zero => intro _; exact one_short
  | succ n ih =>
    intro hn
    have ih := ih (by omega)
    have hi := hL _ (List.getElem_mem (show n < L.length by omega))
    have hx : ps.getD L[n] default = ps[L[n]] := by simp [List.getD_eq_getElem?_getD, hi]
    rw [prodE_succ ps (show n < L.length by omega)]
    have h := short_mul (canR_ok (prodE L ps n)) (hok _ (List.getElem_mem hi)) ih (hs _ (List.getElem_mem hi)) (by omega) (by omega)
    rw [ratOf_can, ← hx] at h
    exact ⟨Nat.le_trans h.1 (by omega), Nat.le_trans h.2 (by omega)⟩
set_option maxRecDepth 100000 in
set_option maxHeartbeats 4000000 in
theorem refproduct_any (s : Nat) (v : Value) (ps : List Rw) (w : World) (hs : s < 16777216) (hv : RatsAt w v ps) (hp3 : ∀ r ∈ ps, r.Short 3) (hg : gtK s < (ps.length : Int)) :
    Calls Tryz.prog 182 #[v, .int .i64 s] w fun e w' => (∃ v', e = .returned v' ∧ RatAt w' v' (canR (prodQ s ps ps.length))) ∧ Kept w w' := by
  have HOF : Hid (∀ W, Calls Tryz.prog 112 #[.int .i64 1] W fun e w' => (∃ v', e = .returned v' ∧ RatAt w' v' (canR (prodE (elemsK s) ps 0))) ∧ Kept W w') := Lib.hid fun W => refof_any 1 W (by omega)
  have HEL := Lib.hid (fun W => elems_any s hs W)
  have HPA := Lib.hid (prodE_all hs hg)
  have hLl : (elemsK s).length ≤ 24 := elems_len s 24
  have hLt : ∀ i ∈ elemsK s, i < ps.length := fun i hi => by
    have h1 := bit_gt hs (elems_lt hi).2
    omega
  obtain ⟨L, hL⟩ : ∃ L, L = elemsK s := ⟨_, rfl⟩
  rw [← hL] at HOF HEL HPA hLl hLt
  have HSH := Lib.hid (fun j hj => prodE_short hLt hp3 hv.ok j hj)
  have HLT := Lib.hid hLt
  have HV := Lib.hid hv
  have HP3 := Lib.hid hp3
  obtain ⟨a, c, rfl⟩ := hv.shape
  obtain ⟨m, hm⟩ : ∃ m, m = ps.length := ⟨_, rfl⟩
  rw [← hm] at HV ⊢
  have HM := Lib.hid hm
  obtain ⟨R, hR⟩ : ∃ R, R = canR (prodQ s ps m) := ⟨_, rfl⟩
  rw [← hR]
  have HRR : Hid (R = canR (prodE L ps L.length)) := Lib.hid (by rw [hR, hm, HPA.out])
  obtain ⟨n, hn⟩ : ∃ n, n = L.length := ⟨_, rfl⟩
  rw [← hn] at HRR hLl
  have HN := Lib.hid hn
  clear hR hm hn hL hLt
  obtain ⟨w2, hw2⟩ : ∃ w2, w2 = w.alloc (.cells #[.bool false, .slice none 0 0, .slice none 0 0] 39) := ⟨_, rfl⟩
  have HR : Hid (RowAt w2 w.heap.size 39 [.bool false, .slice none 0 0, .slice none 0 0]) := Lib.hid (by rw [hw2]; exact RowAt.made w #[.bool false, .slice none 0 0, .slice none 0 0] 39)
  have HFX : Hid (FixAt w2 w.heap.size [.bool false, .slice none 0 0, .slice none 0 0]) := Lib.hid (by rw [hw2]; exact FixAt.made w #[.bool false, .slice none 0 0, .slice none 0 0] 39)
  have HK0 : Hid (Kept w w2) := Lib.hid (by rw [hw2]; exact (Kept.refl w).alloc _)
  have HW2 := Lib.hid hw2
  clear hv hp3 hs hw2 hg
  go_enter Tryz.func182, Tryz.ntmps182
  go_wp2_with fail
  rw [← HW2.out]
  refine (HOF.out _).mono ?_
  rintro e w3 ⟨⟨v3, rfl, hv3⟩, hk3⟩
  have HR3 := Lib.hid (HR.out.kept hk3)
  have HF3 := Lib.hid (HFX.out.kept hk3)
  have HK3 := Lib.hid (HK0.out.trans hk3)
  obtain ⟨u1, u2, rfl, h1, h2⟩ := hv3
  obtain ⟨a1, c1, rfl⟩ := h1.shape
  obtain ⟨a2, c2, rfl⟩ := h2.shape
  have HC := Lib.hid (RatCell.made h1 h2)
  obtain ⟨w4, hw4⟩ : ∃ w4, w4 = w3.alloc (.cells #[.bool (canR (prodE L ps 0)).neg, .slice a1 (canR (prodE L ps 0)).num.length c1, .slice a2 (canR (prodE L ps 0)).den.length c2] 39) := ⟨_, rfl⟩
  have HW4 := Lib.hid hw4
  rw [← hw4] at HC
  have HK4 : Hid (Kept w3 w4) := Lib.hid (by rw [hw4]; exact (Kept.refl _).alloc _)
  generalize (canR (prodE L ps 0)).neg = b0 at *
  generalize (canR (prodE L ps 0)).num.length = l1 at *
  generalize (canR (prodE L ps 0)).den.length = l2 at *
  clear h1 h2 hk3 hw4
  go_wp2_with fail
  rw [← HW4.out]
  refine (HEL.out _).mono ?_
  rintro e w5 ⟨⟨v5, rfl, hv5⟩, hk5⟩
  have HC5 := Lib.hid (HC.out.kept hk5)
  have HK5 := Lib.hid (HK4.out.trans hk5)
  have hnL : n = (ofN L).length := by rw [HN.out]; unfold ofN; rw [List.length_map]
  obtain ⟨ae, ce, rfl, _⟩ := id hv5
  rw [← hnL] at hv5 ⊢
  have HXE := Lib.hid hv5
  have HNL := Lib.hid hnL
  clear hk5 hv5 hnL
  go_wp2_with fail
  go_loopg [12] n (fun kx s10 wr => ∃ k : Nat, k ≤ n ∧ s10 = .int .i64 k ∧ n - k ≤ kx ∧ Hid (RatCell wr w3.heap.size (canR (prodE L ps k))) ∧ Hid (Kept w3 wr) ∧ Hid (IntsAt wr (.slice ae n ce) (ofN L)))
  case atStart => exact ⟨0, Nat.zero_le _, rfl, by omega, HC5, HK5, HXE⟩
  case round =>
    obtain ⟨k, hk, rfl, hkx, HX, HKr, HXI⟩ := hrel
    by_cases hlt : k < n
    · have hkn : (k : Int) < (n : Int) := by omega
      have hkL : k < L.length := by have := HN.out; omega
      obtain ⟨i, hi⟩ : ∃ i, i = L[k] := ⟨_, rfl⟩
      have hil : i < m := by rw [hi, HM.out]; exact HLT.out _ (List.getElem_mem _)
      obtain ⟨ae', ce', he1, _, _, he2⟩ := HXI.out
      injection he1 with he3 he4 he5
      subst he3
      obtain ⟨be, oe, rfl, hce⟩ := he2 k (by rw [← HNL.out]; exact hlt)
      have e1 : (ofN L)[k]'(by rw [← HNL.out]; exact hlt) = (i : Int) := by rw [hi]; simp [ofN]
      rw [e1] at hce
      have HST : Hid (canR (prodE L ps (k + 1)) = canR (ratOf (canR (prodE L ps k)) * ratOf (ps.getD i default))) := Lib.hid (by rw [prodE_succ ps hkL, ratOf_can, hi])
      have hil' : (i : Int) < (m : Int) := by omega
      have hi0 : (0 : Int) ≤ (i : Int) := by omega
      clear e1 hi hkL he2 he4 he5
      have hkl : i < ps.length := by have := HM.out; omega
      have hsk := HSH.out k (by have := HN.out; omega)
      have hx3 : (ps.getD i default).Short 3 := by
        have e : ps.getD i default = ps[i] := by simp [List.getD_eq_getElem?_getD, hkl]
        rw [e]; exact HP3.out _ (List.getElem_mem _)
      obtain ⟨b, o, u1, u2, rfl, hrg, hw1, hw2⟩ := HV.out.get i hkl
      obtain ⟨a3, c3, rfl⟩ := hw1.shape
      obtain ⟨a4, c4, rfl⟩ := hw2.shape
      have HKw := Lib.hid (HK3.out.trans HKr.out)
      have hrg2 := range_same hrg HKw.out
      have y0 := hrg2 0 _ rfl
      have y1 := hrg2 1 _ rfl
      have y2 := hrg2 2 _ rfl
      rw [Nat.add_zero] at y0
      obtain ⟨a5, c5, a6, c6, ⟨x0, x1, x2⟩, ⟨f0, f1, f2⟩, hgl, hxa⟩ := HX.out.at
      have HML : Hid (∀ W, Kept wr W → Calls Tryz.prog 176 #[.agg #[.bool (canR (prodE L ps k)).neg, .slice a5 (canR (prodE L ps k)).num.length c5, .slice a6 (canR (prodE L ps k)).den.length c6], .agg #[.bool (ps.getD i default).neg, .slice a3 (ps.getD i default).num.length c3, .slice a4 (ps.getD i default).den.length c4]] W fun e w' => (∃ v', e = .returned v' ∧ RatAt w' v' (canR (prodE L ps (k + 1)))) ∧ Kept W w') := Lib.hid fun W hk => by
        rw [HST.out]
        exact refmul02_any _ _ _ _ W (hxa.kept hk) ⟨_, _, rfl, hw1.kept (HKw.out.trans hk), hw2.kept (HKw.out.trans hk)⟩ ⟨Nat.le_trans hsk.1 (by omega), Nat.le_trans hsk.2 (by omega)⟩ ⟨Nat.le_trans hx3.1 (by omega), Nat.le_trans hx3.2 (by omega)⟩
      generalize (ps.getD i default).neg = z0 at *
      generalize (ps.getD i default).num.length = z1 at *
      generalize (ps.getD i default).den.length = z2 at *
      generalize (canR (prodE L ps k)).neg = z3 at *
      generalize (canR (prodE L ps k)).num.length = z4 at *
      generalize (canR (prodE L ps k)).den.length = z5 at *
      clear hsk hx3 hrg hrg2 hw1 hw2 hxa hkl
      go_wp2_with fail
      go_region_with (go_at_call 176; (with_reducible refine (HML.out _ (Kept.refl _).drew).mono ?_); rintro e w6 ⟨⟨v6, rfl, hv6⟩, hk6⟩; have hkd := (Kept.refl _).drew.trans hk6; have HX6 := Lib.hid (HX.out.kept hkd); have HXI6 := Lib.hid (HXI.out.kept hkd); have HK6 := Lib.hid (HKr.out.trans hkd); obtain ⟨u7, u8, rfl, k7, k8⟩ := hv6; obtain ⟨a7, c7, rfl⟩ := k7.shape; obtain ⟨a8, c8, rfl⟩ := k8.shape; have K7 := Lib.hid k7; have K8 := Lib.hid k8; obtain ⟨_, _, _, _, ⟨i0, i1, i2⟩, ⟨j0, j1, j2⟩, hgl6, _⟩ := HX6.out.at; clear k7 k8 hk6 hkd)
      all_goals
        have HS := Lib.hid (HX6.out.store K7.out K8.out)
        have HSI := Lib.hid (HX6.out.ints HXI6.out)
        generalize (canR (prodE L ps (k + 1))).num.length = n7 at *
        generalize (canR (prodE L ps (k + 1))).den.length = n8 at *
        go_wp2_with fail
        go_roundg (n - (k + 1))
        case measure => omega
        case rel => exact ⟨k + 1, by omega, by go_num, Nat.le_refl _, HS, Lib.hid (((HK6.out.store (Nat.le_refl _) _ _).store (Nat.le_refl _) _ _).store (Nat.le_refl _) _ _), Lib.hid (HSI.out _ _ _)⟩
    · have hke : k = n := by omega
      have hkn : ¬ (k : Int) < (n : Int) := by omega
      have HX2 : Hid (RatCell wr w3.heap.size R) := Lib.hid (by rw [HRR.out, ← hke]; exact HX.out)
      have hrr := HR3.out.kept HKr.out
      have HFF := Lib.hid (HF3.out.kept HKr.out)
      obtain ⟨a5, c5, a6, c6, ⟨x0, x1, x2⟩, _, hgl, u7, u8, e9, k7, k8⟩ := HX2.out.at
      simp only [Value.agg.injEq] at e9
      have e9' := congrArg Array.toList e9
      simp at e9'
      obtain ⟨rfl, rfl⟩ := e9'
      obtain ⟨y0, y1, y2, hra⟩ := rat_stored hrr HFF.out k7 k8
      have g0 := hrr.cell (i := 0) (by simp)
      have g1 := hrr.cell (i := 1) (by simp)
      have g2 := hrr.cell (i := 2) (by simp)
      have f0 := hrr.free 0
      have f1 := hrr.free 1
      have f2 := hrr.free 2
      have HRA := Lib.hid hra
      have Y0 := Lib.hid y0
      have Y1 := Lib.hid y1
      have Y2 := Lib.hid y2
      have HKw := Lib.hid (HK3.out.trans HKr.out)
      clear hra y0 y1 y2 k7 k8 hrr e9 hke
      generalize R.num.length = n7 at *
      generalize R.den.length = n8 at *
      go_wp2
      refine bodyPost_ret (v := .agg #[.bool R.neg, .slice a5 n7 c5, .slice a6 n8 c6]) ?_ rfl ⟨⟨_, rfl, HRA.out⟩, ?_⟩
      · simp [results, Tryz.results182, go_sem, Y0.out, Y1.out, Y2.out]
      · exact ((HKw.out.store (Nat.le_refl _) _ _).store (Nat.le_refl _) _ _).store (Nat.le_refl _) _ _
end Go.Proofs.YtbkchheikkbebaaGreatDoor

/-
  Walks: faultlineref05.Valid, Cut, Count, Compare.
-/
namespace Go.Proofs.YtbkchheikkbebaaGreatDoor
open Go.RowKit

theorem and_pred (n : Nat) : 0 < n → n &&& (n - 1) < n ∧ pc n = pc (n &&& (n - 1)) + 1 := by
  induction n using Nat.strongRecOn with
  | ind n ih =>
    intro h0
    have bits : ∀ a b : Nat, a = b ↔ a % 2 = b % 2 ∧ a / 2 = b / 2 := fun a b => by omega
    by_cases h : n % 2 = 1
    · have e : n &&& (n - 1) = n - 1 := by
        rw [bits]
        have e1 : (n &&& (n - 1)) % 2 = 0 := by
          rw [show (2 : Nat) = 2 ^ 1 from rfl, Nat.and_mod_two_pow, show (n - 1) % 2 ^ 1 = 0 by omega]; simp
        have e2 : (n &&& (n - 1)) / 2 = n / 2 := by
          rw [show (2 : Nat) = 2 ^ 1 from rfl, Nat.and_div_two_pow, show (n - 1) / 2 ^ 1 = n / 2 ^ 1 by omega, Nat.and_self]
        omega
      rw [e]
      refine ⟨by omega, ?_⟩
      rw [pc_one n, pc_one (n - 1), show (n - 1) / 2 = n / 2 by omega]
      omega
    · have h2 := ih (n / 2) (by omega) (by omega)
      have e1 : (n &&& (n - 1)) % 2 = 0 := by
        rw [show (2 : Nat) = 2 ^ 1 from rfl, Nat.and_mod_two_pow, show n % 2 ^ 1 = 0 by omega]; simp
      have e2 : (n &&& (n - 1)) / 2 = n / 2 &&& (n / 2 - 1) := by
        rw [show (2 : Nat) = 2 ^ 1 from rfl, Nat.and_div_two_pow, show (n - 1) / 2 ^ 1 = n / 2 ^ 1 - 1 by omega]
      refine ⟨by omega, ?_⟩
      rw [pc_one n, pc_one (n &&& (n - 1)), e1, e2]
      omega
theorem rcut_any {n : Nat} (h : Mk n) (w : World) : Calls Tryz.prog 275 #[.int .i64 n] w fun e w' => e = .returned (.int .i64 n) ∧ w = w' := by
  have hc := cut_mk h
  go_enter Tryz.func275, Tryz.ntmps275
  go_wp2
  go_ret
  exact ⟨rfl, rfl⟩
theorem rvalid_any (s : Int) (w : World) : Calls Tryz.prog 223 #[.int .i64 s] w fun e w' => e = .returned (.bool (decide (0 ≤ s ∧ s ≤ 16777215))) ∧ w = w' := by
  by_cases h : 0 ≤ s
  · by_cases h2 : s < 16777216
    all_goals
      go_enter Tryz.func223, Tryz.ntmps223
      go_wp2
      go_ret
      exact ⟨by congr 2; simp; omega, rfl⟩
  · go_enter Tryz.func223, Tryz.ntmps223
    go_wp2
    go_ret
    exact ⟨by congr 2; simp; omega, rfl⟩
theorem rcount_any {n : Nat} (h : Mk n) (w : World) : Calls Tryz.prog 276 #[.int .i64 n] w fun e w' => e = .returned (.int .i64 (pc n)) ∧ w = w' := by
  obtain ⟨r, hr⟩ : ∃ r, r = pc n := ⟨_, rfl⟩
  rw [← hr]
  have HR := Lib.hid hr
  have h' := h
  clear hr
  go_enter Tryz.func276, Tryz.ntmps276
  go_wp2_with (go_at_call 275; refine (rcut_any h' _).mono ?_; rintro e w' ⟨rfl, rfl⟩)
  go_loop [0, 3] (fun s k => ∃ m q : Nat, s = .int .i64 m ∧ k = .int .i64 q ∧ m < 16777216 ∧ q ≤ 16777216 - m ∧ Hid (pc m + q = r)) (fun s _ => (intOf s).toNat)
  case atStart => exact ⟨n, 0, rfl, rfl, h, by omega, Lib.hid (by rw [HR.out]; rfl)⟩
  case round =>
    obtain ⟨m, q, rfl, rfl, hm, hq, HI⟩ := hrel
    by_cases h0 : 0 < m
    · have hp := and_pred m h0
      have e1 : bits .and .i64 (m : Int) ((m : Int) - 1) = ((m &&& (m - 1) : Nat) : Int) := by
        rw [show (m : Int) - 1 = ((m - 1 : Nat) : Int) by omega]
        exact and_i64 _ _ (by omega) (by omega)
      have hne : ((m : Int) == 0) = false := by simp; omega
      have hne2 : ((m : Int) != 0) = true := by simp; omega
      have HP := Lib.hid hp
      clear hp
      go_wp2
      go_round
      case rel => exact ⟨m &&& (m - 1), q + 1, rfl, by go_num, by have := HP.out; omega, by have := HP.out; omega, Lib.hid (by have := HP.out; have := HI.out; omega)⟩
      case measure => have := HP.out; simp [intOf]; omega
    · obtain rfl : m = 0 := by omega
      go_wp2
      go_ret
      have hqr : q = r := by have := HI.out; rw [pc_zero] at this; omega
      exact ⟨by rw [hqr]; rfl, rfl⟩
def cmpR (a b : Nat) : Int := if a = b then 0 else if ltK a b then -1 else 1
set_option maxHeartbeats 1000000 in
theorem rcompare_any {a b : Nat} (ha : Mk a) (hb : Mk b) (w : World) : Calls Tryz.prog 224 #[.int .i64 a, .int .i64 b] w fun e w' => e = .returned (.int .i64 (cmpR a b)) ∧ w = w' := by
  obtain ⟨r, hr⟩ : ∃ r, r = cmpR a b := ⟨_, rfl⟩
  rw [← hr]
  obtain ⟨x, hx⟩ : ∃ x, x = pc a := ⟨_, rfl⟩
  obtain ⟨y, hy⟩ : ∃ x, x = pc b := ⟨_, rfl⟩
  have HR := Lib.hid hr
  have HA : Hid (∀ W, Calls Tryz.prog 276 #[.int .i64 a] W fun e w' => e = .returned (.int .i64 x) ∧ W = w') := Lib.hid (hx ▸ fun W => rcount_any ha W)
  have HB : Hid (∀ W, Calls Tryz.prog 276 #[.int .i64 b] W fun e w' => e = .returned (.int .i64 y) ∧ W = w') := Lib.hid (hy ▸ fun W => rcount_any hb W)
  have CA : Hid (∀ W, Calls Tryz.prog 275 #[.int .i64 a] W fun e w' => e = .returned (.int .i64 a) ∧ W = w') := Lib.hid fun W => rcut_any ha W
  have CB : Hid (∀ W, Calls Tryz.prog 275 #[.int .i64 b] W fun e w' => e = .returned (.int .i64 b) ∧ W = w') := Lib.hid fun W => rcut_any hb W
  have HX := Lib.hid hx
  have HY := Lib.hid hy
  clear hr hx hy ha hb
  by_cases e : a = b
  · have h0 : r = 0 := by rw [HR.out, cmpR, if_pos e]
    subst h0
    have ee : ((a : Int) == (b : Int)) = true := by simp; omega
    clear HX HY
    clear e
    go_enter Tryz.func224, Tryz.ntmps224
    go_wp2_with (first
      | (go_at_call_of 275 (Value.int .i64 (a : Int)); refine (CA.out _).mono ?_; rintro e w' ⟨rfl, rfl⟩)
      | (go_at_call_of 275 (Value.int .i64 (b : Int)); refine (CB.out _).mono ?_; rintro e w' ⟨rfl, rfl⟩))
    go_ret
    exact ⟨rfl, rfl⟩
  · have ee : ((a : Int) == (b : Int)) = false := by simp; omega
    have HE := Lib.hid e
    clear e
    by_cases h1 : x < y
    · have h0 : r = -1 := by rw [HR.out, cmpR, if_neg HE.out, if_pos (.inl (by rw [← HX.out, ← HY.out]; exact h1))]
      subst h0
      have h1' : (x : Int) < (y : Int) := by omega
      go_enter Tryz.func224, Tryz.ntmps224
      go_wp2_with (first
        | (go_at_call_of 275 (Value.int .i64 (a : Int)); refine (CA.out _).mono ?_; rintro e w' ⟨rfl, rfl⟩)
        | (go_at_call_of 275 (Value.int .i64 (b : Int)); refine (CB.out _).mono ?_; rintro e w' ⟨rfl, rfl⟩)
        | (go_at_call_of 276 (Value.int .i64 (a : Int)); refine (HA.out _).mono ?_; rintro e w' ⟨rfl, rfl⟩)
        | (go_at_call_of 276 (Value.int .i64 (b : Int)); refine (HB.out _).mono ?_; rintro e w' ⟨rfl, rfl⟩))
      go_ret
      exact ⟨rfl, rfl⟩
    · have h1' : ¬ (x : Int) < (y : Int) := by omega
      by_cases h2 : x = y
      · have h2' : ((x : Int) == (y : Int)) = true := by simp; omega
        by_cases h3 : a < b
        · have h0 : r = -1 := by rw [HR.out, cmpR, if_neg HE.out, if_pos (.inr ⟨by rw [← HX.out, ← HY.out]; exact h2, h3⟩)]
          subst h0
          have h3' : (a : Int) < (b : Int) := by omega
          clear HX HY h1
          clear h2
          go_enter Tryz.func224, Tryz.ntmps224
          go_wp2_with (first
            | (go_at_call_of 275 (Value.int .i64 (a : Int)); refine (CA.out _).mono ?_; rintro e w' ⟨rfl, rfl⟩)
            | (go_at_call_of 275 (Value.int .i64 (b : Int)); refine (CB.out _).mono ?_; rintro e w' ⟨rfl, rfl⟩)
            | (go_at_call_of 276 (Value.int .i64 (a : Int)); refine (HA.out _).mono ?_; rintro e w' ⟨rfl, rfl⟩)
            | (go_at_call_of 276 (Value.int .i64 (b : Int)); refine (HB.out _).mono ?_; rintro e w' ⟨rfl, rfl⟩))
          go_ret
          exact ⟨rfl, rfl⟩
        · have h0 : r = 1 := by
            rw [HR.out, cmpR, if_neg HE.out, if_neg]
            rintro (h | h)
            · rw [← HX.out, ← HY.out] at h; exact h1 h
            · exact h3 h.2
          subst h0
          have h3' : ¬ (a : Int) < (b : Int) := by omega
          clear HX HY h1
          clear h2
          go_enter Tryz.func224, Tryz.ntmps224
          go_wp2_with (first
            | (go_at_call_of 275 (Value.int .i64 (a : Int)); refine (CA.out _).mono ?_; rintro e w' ⟨rfl, rfl⟩)
            | (go_at_call_of 275 (Value.int .i64 (b : Int)); refine (CB.out _).mono ?_; rintro e w' ⟨rfl, rfl⟩)
            | (go_at_call_of 276 (Value.int .i64 (a : Int)); refine (HA.out _).mono ?_; rintro e w' ⟨rfl, rfl⟩)
            | (go_at_call_of 276 (Value.int .i64 (b : Int)); refine (HB.out _).mono ?_; rintro e w' ⟨rfl, rfl⟩))
          go_ret
          exact ⟨rfl, rfl⟩
      · have h2' : ((x : Int) == (y : Int)) = false := by simp; omega
        have h0 : r = 1 := by
          rw [HR.out, cmpR, if_neg HE.out, if_neg]
          rintro (h | h)
          · rw [← HX.out, ← HY.out] at h; exact h1 h
          · rw [← HX.out, ← HY.out] at h; exact h2 h.1
        subst h0
        clear HX HY h1
        clear h2
        go_enter Tryz.func224, Tryz.ntmps224
        go_wp2_with (first
          | (go_at_call_of 275 (Value.int .i64 (a : Int)); refine (CA.out _).mono ?_; rintro e w' ⟨rfl, rfl⟩)
          | (go_at_call_of 275 (Value.int .i64 (b : Int)); refine (CB.out _).mono ?_; rintro e w' ⟨rfl, rfl⟩)
          | (go_at_call_of 276 (Value.int .i64 (a : Int)); refine (HA.out _).mono ?_; rintro e w' ⟨rfl, rfl⟩)
          | (go_at_call_of 276 (Value.int .i64 (b : Int)); refine (HB.out _).mono ?_; rintro e w' ⟨rfl, rfl⟩))
        go_ret
        exact ⟨rfl, rfl⟩
end Go.Proofs.YtbkchheikkbebaaGreatDoor

/-
  Walks: faultlineref05.Sort.
-/
namespace Go.Proofs.YtbkchheikkbebaaGreatDoor
open Go.RowKit

theorem IntsAt.take {w : World} {a : Option Addr} {c : Nat} {xs : List Int} (h : IntsAt w (.slice a xs.length c) xs) (k : Nat) (hk : k ≤ xs.length) : IntsAt w (.slice a k c) (xs.take k) := by
  obtain ⟨a', c', h1, ⟨h0, hn⟩, h2, h3⟩ := h
  cases h1
  refine ⟨a, c, by simp [Nat.min_eq_left hk], ⟨by simp; omega, hn⟩, by simp; omega, fun i hi => ?_⟩
  simp only [List.length_take] at hi
  obtain ⟨b, o, h4, h5⟩ := h3 i (by omega)
  exact ⟨b, o, h4, by simpa using h5⟩
theorem IntsAt.drop {w : World} {b o c : Nat} {xs : List Int} (h : IntsAt w (.slice (some ⟨b, o, none⟩) xs.length c) xs) (k : Nat) (hk : k ≤ xs.length) : IntsAt w (.slice (some ⟨b, o + k, none⟩) (xs.length - k) (c - k)) (xs.drop k) := by
  obtain ⟨a', c', h1, ⟨h0, hn⟩, h2, h3⟩ := h
  cases h1
  refine ⟨some ⟨b, o + k, none⟩, c - k, by simp, ⟨by simp; omega, fun h => by cases h⟩, by simp; omega, fun i hi => ?_⟩
  simp only [List.length_drop] at hi
  obtain ⟨b', o', h4, h5⟩ := h3 (k + i) (by omega)
  cases h4
  exact ⟨b, o + k, rfl, by simpa [Nat.add_assoc] using h5⟩
theorem SetsAt.take {w : World} {a : Option Addr} {c : Nat} {ns : List Nat} (h : SetsAt w (.slice a ns.length c) ns) (k : Nat) (hk : k ≤ ns.length) : SetsAt w (.slice a k c) (ns.take k) := by
  refine ⟨?_, fun n hn => h.2 n (List.mem_of_mem_take hn)⟩
  have := IntsAt.take (xs := ofN ns) (by simpa using h.1) k (by simpa using hk)
  simpa [ofN, List.map_take] using this
theorem SetsAt.drop {w : World} {b o c : Nat} {ns : List Nat} (h : SetsAt w (.slice (some ⟨b, o, none⟩) ns.length c) ns) (k : Nat) (hk : k ≤ ns.length) : SetsAt w (.slice (some ⟨b, o + k, none⟩) (ns.length - k) (c - k)) (ns.drop k) := by
  refine ⟨?_, fun n hn => h.2 n (List.mem_of_mem_drop hn)⟩
  have := IntsAt.drop (xs := ofN ns) (by simpa using h.1) k (by simpa using hk)
  simpa [ofN, List.map_drop] using this
theorem SetsAt.shape {w : World} {v : Value} {ns : List Nat} (h : SetsAt w v ns) : ∃ a c, v = .slice a ns.length c ∧ ns.length ≤ c ∧ (ns ≠ [] → ∃ b o, a = some ⟨b, o, none⟩) := by
  obtain ⟨⟨a, c, h1, ⟨h0, _⟩, _, h3⟩, _⟩ := h
  refine ⟨a, c, by simpa using h1, by simpa using h0, fun hne => ?_⟩
  have : 0 < (ofN ns).length := by simpa using List.length_pos_iff.2 hne
  obtain ⟨b, o, h4, _⟩ := h3 0 this
  exact ⟨b, o, h4⟩

def lenV : Value → Nat | .slice _ n _ => n | _ => 0
/-- What a merge has taken, and what is left. -/
structure MInv (ns zs xs ys : List Nat) : Prop where
  left : (zs ++ xs).Pairwise ltK
  right : (zs ++ ys).Pairwise ltK
  mem : ∀ z, z ∈ ns ↔ z ∈ zs ∨ z ∈ xs ∨ z ∈ ys
  len : zs.length + xs.length + ys.length ≤ ns.length
theorem MInv.start (ns : List Nat) (h : Nat) : MInv ns [] (sortK (ns.take h)) (sortK (ns.drop h)) := by
  refine ⟨by simpa using pair_sortK _, by simpa using pair_sortK _, fun z => ?_, ?_⟩
  · rw [mem_sortK, mem_sortK]
    have := List.mem_append (a := z) (s := ns.take h) (t := ns.drop h)
    rw [List.take_append_drop] at this
    simpa using this
  · have h1 := len_sortK (ns.take h)
    have h2 := len_sortK (ns.drop h)
    simp at h1 h2 ⊢
    omega
theorem MInv.eq {ns zs xs ys : List Nat} {x : Nat} (h : MInv ns zs (x :: xs) (x :: ys)) : MInv ns (zs ++ [x]) xs ys :=
  ⟨by simpa using h.left, by simpa using h.right, fun z => by rw [h.mem]; simp only [List.mem_append, List.mem_cons, List.not_mem_nil]; grind, by have := h.len; simp at this ⊢; omega⟩
theorem MInv.lt {ns zs xs ys : List Nat} {x y : Nat} (h : MInv ns zs (x :: xs) (y :: ys)) (hl : ltK x y) : MInv ns (zs ++ [x]) xs (y :: ys) := by
  refine ⟨by simpa using h.left, ?_, fun z => by rw [h.mem]; simp only [List.mem_append, List.mem_cons, List.not_mem_nil]; grind, by have := h.len; simp at this ⊢; omega⟩
  have h1 := List.pairwise_append.1 h.left
  have h2 := List.pairwise_append.1 h.right
  rw [List.pairwise_append]
  refine ⟨?_, h2.2.1, ?_⟩
  · rw [List.pairwise_append]; exact ⟨h1.1, by simp, fun a ha b hb => by simp at hb; subst hb; exact h1.2.2 a ha b (List.mem_cons_self ..)⟩
  · intro a ha b hb
    rcases List.mem_append.1 ha with ha | ha
    · exact h2.2.2 a ha b hb
    · simp at ha; subst ha
      rcases List.mem_cons.1 hb with e | e
      · rw [e]; exact hl
      · exact ltK_tr _ _ _ hl ((List.pairwise_cons.1 h2.2.1).1 b e)
theorem MInv.symm {ns zs xs ys : List Nat} (h : MInv ns zs xs ys) : MInv ns zs ys xs :=
  ⟨h.right, h.left, fun z => by rw [h.mem]; constructor <;> (intro h; rcases h with h | h | h <;> simp_all), by have := h.len; omega⟩
theorem MInv.gt {ns zs xs ys : List Nat} {x y : Nat} (h : MInv ns zs (x :: xs) (y :: ys)) (hl : ltK y x) : MInv ns (zs ++ [y]) (x :: xs) ys := (h.symm.lt hl).symm
theorem MInv.doneL {ns zs ys : List Nat} (h : MInv ns zs [] ys) : zs ++ [] ++ ys = sortK ns := by
  rw [List.append_nil]
  exact sortK_unique ns _ h.right fun x => by rw [h.mem]; simp
theorem MInv.doneR {ns zs xs : List Nat} (h : MInv ns zs xs []) : zs ++ xs ++ [] = sortK ns := by
  rw [List.append_nil]
  exact sortK_unique ns _ h.left fun x => by rw [h.mem]; simp
theorem MInv.masks {ns zs xs ys : List Nat} (h : MInv ns zs xs ys) (hm : ∀ n ∈ ns, Mk n) : (∀ n ∈ zs, Mk n) ∧ (∀ n ∈ xs, Mk n) ∧ ∀ n ∈ ys, Mk n :=
  ⟨fun n hn => hm n ((h.mem n).2 (.inl hn)), fun n hn => hm n ((h.mem n).2 (.inr (.inl hn))), fun n hn => hm n ((h.mem n).2 (.inr (.inr hn)))⟩
/-- l[1:] of a list with a head. -/
abbrev restV (b o n c : Nat) : Value := .slice (if c = 1 then some ⟨b, o, none⟩ else some ⟨b, o + 1, none⟩) n (c - 1)
theorem SetsAt.rest {w : World} {b o c : Nat} {x : Nat} {xs : List Nat} (h : SetsAt w (.slice (some ⟨b, o, none⟩) (xs.length + 1) c) (x :: xs)) : SetsAt w (restV b o xs.length c) xs := by
  have h1 := SetsAt.drop (ns := x :: xs) h 1 (by simp)
  unfold restV
  obtain ⟨a', c', h2, h3, _⟩ := h.shape
  cases h2
  by_cases hc : c = 1
  · rw [if_pos hc]
    have : xs = [] := List.eq_nil_of_length_eq_zero (by simp at h3; omega)
    subst this
    subst hc
    exact ⟨⟨_, 0, rfl, ⟨by simp, fun h => by cases h⟩, by simp, fun i hi => by simp at hi⟩, by simp⟩
  · rw [if_neg hc]
    simpa using h1
theorem SetsAt.head {w : World} {b o c m : Nat} {x : Nat} {xs : List Nat} (h : SetsAt w (.slice (some ⟨b, o, none⟩) m c) (x :: xs)) : w.cell? ⟨b, o, none⟩ = some (.int .i64 x) := by
  obtain ⟨⟨a', c', h2, _, _, h3⟩, _⟩ := h
  obtain ⟨b', o', h4, h5⟩ := h3 0 (by simp)
  cases h2
  cases h4
  simpa using h5
theorem sorted_small {ns : List Nat} (h : ns.length < 2) : sortK ns = ns := by
  match ns, h with
  | [], _ => rfl
  | [x], _ => rfl
theorem own_empty (w : World) (B : Nat) (hB : B ≤ w.heap.size) : OwnInts (w.alloc (.cells #[] 3)) B (.slice (some ⟨w.heap.size, 0, none⟩) 0 0) [] :=
  ⟨⟨by simp, .inr ⟨w.heap.size, 0, #[], rfl, hB, heap_alloc_new w _, Nat.le_refl _, by unfold maxLen; omega, by simp, by simp⟩⟩, by simp⟩
set_option maxRecDepth 100000 in
set_option maxHeartbeats 4000000 in
theorem rsort_any : ∀ (k : Nat) (ns : List Nat) (v : Value) (w : World), ns.length ≤ k → SetsAt w v ns → ns.length ≤ 8796093022208 →
    Calls Tryz.prog 163 #[v] w fun e w' => (∃ v', e = .returned v' ∧ OwnSets w' 0 v' (sortK ns)) ∧ Kept w w' := by
  intro k
  induction k using Nat.strongRecOn with
  | ind k ih =>
    intro ns v w hk hv hl
    obtain ⟨a, c, rfl, hc, hne⟩ := hv.shape
    by_cases h2 : ns.length < 2
    · have h2' : (ns.length : Int) < 2 := by omega
      have HV := Lib.hid hv
      have HS := Lib.hid (sorted_small h2)
      clear ih hne hv h2
      go_enter Tryz.func163, Tryz.ntmps163
      go_wp2_with (at_builtin; refine app_ints rfl _ _ rfl w.heap.size _ [] rfl (own_empty w _ (Nat.le_refl _)) _ (ofN ns) rfl (HV.out.1.kept ((Kept.refl _).alloc _)) (by simp; omega) (by simp) ?_; intro v7 w7 hown7 _ hb7; have O7 := Lib.hid hown7; have HB7 := Lib.hid hb7; clear hown7 hb7)
      go_ret
      exact ⟨⟨_, rfl, ⟨by rw [HS.out]; simpa using O7.out.mono (Nat.zero_le _), by rw [HS.out]; exact HV.out.2⟩⟩, ((Kept.refl _).alloc _).app HB7.out⟩
    · obtain ⟨b, o, rfl⟩ := hne (fun e => by subst e; simp at h2)
      obtain ⟨h, hh⟩ : ∃ h, h = ns.length / 2 := ⟨_, rfl⟩
      have hT := hv.take h (by omega)
      have hD := hv.drop h (by omega)
      obtain ⟨n, hn⟩ : ∃ n, n = ns.length := ⟨_, rfl⟩
      rw [← hn] at hk hl hc h2 hD hh ⊢
      have HIH := Lib.hid ih
      have HT := Lib.hid hT
      have HD := Lib.hid hD
      have HN := Lib.hid hn
      have hv2 := Lib.hid hv.2
      have HL : Hid (∀ W, Kept w W → Calls Tryz.prog 163 #[.slice (some ⟨b, o, none⟩) h c] W fun e w' => (∃ v', e = .returned v' ∧ OwnSets w' 0 v' (sortK (ns.take h))) ∧ Kept W w') :=
        Lib.hid fun W hW => HIH.out h (by omega) (ns.take h) _ W (by simp; omega) (HT.out.kept hW) (by simp; omega)
      have HR : Hid (∀ W, Kept w W → Calls Tryz.prog 163 #[.slice (some ⟨b, o + h, none⟩) (n - h) (c - h)] W fun e w' => (∃ v', e = .returned v' ∧ OwnSets w' 0 v' (sortK (ns.drop h))) ∧ Kept W w') :=
        Lib.hid fun W hW => HIH.out (n - h) (by omega) (ns.drop h) _ W (by have := HN.out; simp; omega) (HD.out.kept hW) (by have := HN.out; simp; omega)
      have hq1 : Int.tdiv (n : Int) 2 = (h : Int) := by rw [Int.tdiv_eq_ediv_of_nonneg (by omega)]; omega
      have hq2 : (n : Int) / 2 = (h : Int) := by omega
      have hq3 : IntKind.i64.wrap (h : Int) = (h : Int) := by rw [IntKind.wrap_i64]; omega
      have hb1 : (0 : Int) ≤ (h : Int) := by omega
      have hb2 : (h : Int) ≤ (n : Int) := by omega
      have hb3 : (h : Int) ≤ (c : Int) := by omega
      have hb4 : (n : Int) ≤ (c : Int) := by omega
      have h2' : ¬ (n : Int) < 2 := by omega
      have hcn : h ≠ c := by omega
      clear hT hD hn hv ih hne hh h2
      go_enter Tryz.func163, Tryz.ntmps163
      go_upto_region 3 with fail
      go_cut [3, 4] (fun va vb wx => SetsAt wx va (sortK (ns.take h)) ∧ SetsAt wx vb (sortK (ns.drop h)) ∧ Kept w wx)
      case first =>
        go_region_held3 (fun _ => True) (trivial)
          (first
            | (go_at_call_of 163 (Value.slice (some ⟨b, o, none⟩) h c); refine (HL.out _ (by first | exact (Kept.refl _).drew | exact (Kept.refl _).drew.trans hk6)).mono ?_; rintro e w5 ⟨⟨va, rfl, hoa⟩, hk5⟩)
            | (go_at_call 163; refine (HR.out _ (by first | exact (Kept.refl _).drew | exact (Kept.refl _).drew.trans hk5)).mono ?_; rintro e w6 ⟨⟨vb, rfl, hob⟩, hk6⟩))
        all_goals (go_wp2_with fail; go_meet; exact ⟨hoa.sets.kept hk6, hob.sets, ((Kept.refl _).drew.trans hk5).trans hk6⟩)
      case rest =>
        obtain ⟨hA, hB, hK⟩ := hcut
        have HA := Lib.hid hA
        have HB := Lib.hid hB
        have HK := Lib.hid hK
        clear hA hB hK
        clear hq1 hq2 hq3 hb1 hb2 hb3 hb4 hcn HIH HT HD HL HR hk
        go_wp2_with fail
        obtain ⟨wo, rfl⟩ : ∃ wo : World, wo = wc := ⟨_, rfl⟩
        go_loopw [3, 4, 5, 6] (fun va vb vo _ wr => ∃ (xs ys zs : List Nat), Hid (SetsAt wo va xs ∧ SetsAt wo vb ys ∧ MInv ns zs xs ys) ∧ OwnInts wr wo.heap.size vo (ofN zs) ∧ Kept wo wr) (fun va vb _ _ _ => lenV va + lenV vb)
        case atStart => exact ⟨_, _, [], Lib.hid ⟨HA.out, HB.out, MInv.start ns h⟩, OwnInts.nil _ _, Kept.refl _⟩
        case round =>
          obtain ⟨xs, ys, zs, HI, hO, hKr⟩ := hrel
          have HO := Lib.hid hO
          have HKr := Lib.hid hKr
          have hlen := HI.out.2.2.len
          rw [← HN.out] at hlen
          have hmk := HI.out.2.2.masks (fun m hm => hv2.out m hm)
          have HM := Lib.hid hmk
          have hsz := hKr.size
          clear hO hKr hmk
          match xs, ys with
          | [], ys =>
            have HA2 := Lib.hid HI.out.1
            have HB2 := Lib.hid HI.out.2.1
            have HMI := Lib.hid HI.out.2.2
            clear HI HM
            obtain ⟨aa, ca, rfl, hca, hna⟩ := HA2.out.shape
            obtain ⟨ab, cb, rfl, hcb, hnb⟩ := HB2.out.shape
            simp only [List.length_nil] at HA2 hca hlen ⊢
            clear hna hnb
            go_wp2_with (first
              | (at_builtin; refine app_ints rfl _ _ rfl wo.heap.size _ (ofN zs) rfl HO.out _ (ofN []) rfl (HA2.out.1.kept HKr.out) (by simp; omega) hsz ?_; intro v7 w7 hown7 _ hb7; have O7 := Lib.hid hown7; have HB7 := Lib.hid hb7; clear hown7 hb7)
              | (at_builtin; refine app_ints rfl _ _ rfl wo.heap.size _ (ofN zs ++ ofN []) rfl O7.out _ (ofN ys) rfl (HB2.out.1.kept (HKr.out.app HB7.out)) (by simp; omega) (by have := (HKr.out.app HB7.out).size; omega) ?_; intro v8 w8 hown8 _ hb8; have O8 := Lib.hid hown8; have HB8 := Lib.hid hb8; clear hown8 hb8))
            go_ret
            refine ⟨⟨_, rfl, ⟨?_, fun z hz => hv2.out z ((mem_sortK ns z).1 hz)⟩⟩, HK.out.trans ((HKr.out.app HB7.out).app HB8.out)⟩
            have := O8.out
            rw [← List.map_append, ← List.map_append, HMI.out.doneL] at this
            exact this.mono (Nat.zero_le _)
          | x :: xs, [] =>
            have HA2 := Lib.hid HI.out.1
            have HB2 := Lib.hid HI.out.2.1
            have HMI := Lib.hid HI.out.2.2
            clear HI HM
            obtain ⟨aa, ca, rfl, hca, hna⟩ := HA2.out.shape
            obtain ⟨ab, cb, rfl, hcb, hnb⟩ := HB2.out.shape
            simp only [List.length_nil, List.length_cons] at HA2 HB2 hca hcb hlen ⊢
            have hp1 : (0 : Int) < ((xs.length + 1 : Nat) : Int) := by omega
            clear hna hnb
            go_wp2_with (first
              | (at_builtin; refine app_ints rfl _ _ rfl wo.heap.size _ (ofN zs) rfl HO.out _ (ofN (x :: xs)) rfl (HA2.out.1.kept HKr.out) (by simp; omega) hsz ?_; intro v7 w7 hown7 _ hb7; have O7 := Lib.hid hown7; have HB7 := Lib.hid hb7; clear hown7 hb7)
              | (at_builtin; refine app_ints rfl _ _ rfl wo.heap.size _ (ofN zs ++ ofN (x :: xs)) rfl O7.out _ (ofN []) rfl (HB2.out.1.kept (HKr.out.app HB7.out)) (by simp; omega) (by have := (HKr.out.app HB7.out).size; omega) ?_; intro v8 w8 hown8 _ hb8; have O8 := Lib.hid hown8; have HB8 := Lib.hid hb8; clear hown8 hb8))
            go_ret
            refine ⟨⟨_, rfl, ⟨?_, fun z hz => hv2.out z ((mem_sortK ns z).1 hz)⟩⟩, HK.out.trans ((HKr.out.app HB7.out).app HB8.out)⟩
            have := O8.out
            rw [← List.map_append, ← List.map_append, HMI.out.doneR] at this
            exact this.mono (Nat.zero_le _)
          | x :: xs, y :: ys =>
            have HA2 := Lib.hid HI.out.1
            have HB2 := Lib.hid HI.out.2.1
            have HMI := Lib.hid HI.out.2.2
            have mx : Mk x := HM.out.2.1 x (List.mem_cons_self ..)
            have my : Mk y := HM.out.2.2 y (List.mem_cons_self ..)
            clear HI HM
            obtain ⟨aa, ca, rfl, hca, hna⟩ := HA2.out.shape
            obtain ⟨ab, cb, rfl, hcb, hnb⟩ := HB2.out.shape
            obtain ⟨ba, oa, rfl⟩ := hna (by simp)
            obtain ⟨bb, ob, rfl⟩ := hnb (by simp)
            simp only [List.length_cons] at HA2 HB2 hca hcb hlen ⊢
            have c1 := HKr.out.cell HA2.out.head
            have c2 := HKr.out.cell HB2.out.head
            clear hna hnb
            have hp1 : (0 : Int) < ((xs.length + 1 : Nat) : Int) := by omega
            have hp2 : (0 : Int) < ((ys.length + 1 : Nat) : Int) := by omega
            have hp3 : (1 : Int) ≤ ((xs.length + 1 : Nat) : Int) := by omega
            have hp4 : (1 : Int) ≤ ((ys.length + 1 : Nat) : Int) := by omega
            have hp5 : (1 : Int) ≤ (ca : Int) := by omega
            have hp6 : (1 : Int) ≤ (cb : Int) := by omega
            have hcmp : ∀ W, Calls Tryz.prog 224 #[.int .i64 x, .int .i64 y] W fun e w' => e = .returned (.int .i64 (cmpR x y)) ∧ w' = W := fun W => (rcompare_any mx my W).mono fun _ _ ⟨h1, h2⟩ => ⟨h1, h2.symm⟩
            by_cases hxy : x = y
            · rw [show cmpR x y = 0 from if_pos hxy] at hcmp
              subst hxy
              have HC := Lib.hid hcmp
              clear hcmp
              go_wp2_with fail
              go_quiet ((go_at_call 224; exact Calls.quiet_of_same (HC.out _)))
              generalize HWQ : World.drewN wr _ = wq
              have HKq : Hid (Kept wr wq) := Lib.hid (by rw [← HWQ]; exact (Kept.refl _).drewN _)
              have HSq : wo.heap.size ≤ wq.heap.size := by have := HKq.out.size; omega
              have d1 := HKq.out.cell c1
              have d2 := HKq.out.cell c2
              clear HWQ c1 c2
              go_wp2_with (at_builtin; refine app_int rfl _ _ rfl wo.heap.size _ (ofN zs) rfl (HO.out.kept (HKq.out.alloc _)) _ (x : Int) rfl (by simp) (by simp; omega) (by simp; omega) ?_; intro v7 w7 hown7 _ hb7; have O7 := Lib.hid hown7; have HB7 := Lib.hid hb7; clear hown7 hb7)
              go_roundw
              case rel => exact ⟨xs, ys, zs ++ [x], Lib.hid ⟨HA2.out.rest, HB2.out.rest, HMI.out.eq⟩, by simpa [ofN] using O7.out, ((HKr.out.trans (HKq.out.alloc _)).app HB7.out)⟩
              case measure => simp [lenV]; try omega
            · by_cases hlt : ltK x y
              · rw [show cmpR x y = -1 by unfold cmpR; rw [if_neg hxy, if_pos hlt]] at hcmp
                have HC := Lib.hid hcmp
                have HXY := Lib.hid hlt
                clear hcmp hlt hxy
                go_wp2_with fail
                go_quiet ((go_at_call 224; exact Calls.quiet_of_same (HC.out _)))
                generalize HWQ : World.drewN wr _ = wq
                have HKq : Hid (Kept wr wq) := Lib.hid (by rw [← HWQ]; exact (Kept.refl _).drewN _)
                have HSq : wo.heap.size ≤ wq.heap.size := by have := HKq.out.size; omega
                have d1 := HKq.out.cell c1
                have d2 := HKq.out.cell c2
                clear HWQ c1 c2
                go_wp2_with (at_builtin; refine app_int rfl _ _ rfl wo.heap.size _ (ofN zs) rfl (HO.out.kept (HKq.out.alloc _)) _ (x : Int) rfl (by simp) (by simp; omega) (by simp; omega) ?_; intro v7 w7 hown7 _ hb7; have O7 := Lib.hid hown7; have HB7 := Lib.hid hb7; clear hown7 hb7)
                go_roundw
                case rel => exact ⟨xs, y :: ys, zs ++ [x], Lib.hid ⟨HA2.out.rest, HB2.out, HMI.out.lt HXY.out⟩, by simpa [ofN] using O7.out, ((HKr.out.trans (HKq.out.alloc _)).app HB7.out)⟩
                case measure => simp [lenV]; try omega
              · rw [show cmpR x y = 1 by unfold cmpR; rw [if_neg hxy, if_neg hlt]] at hcmp
                have HC := Lib.hid hcmp
                have hgt : ltK y x := by rcases ltK_total x y with h | h | h; exact absurd h hlt; exact absurd h hxy; exact h
                have HXY := Lib.hid hgt
                clear hcmp hlt hxy hgt
                go_wp2_with fail
                go_quiet ((go_at_call 224; exact Calls.quiet_of_same (HC.out _)))
                generalize HWQ : World.drewN wr _ = wq
                have HKq : Hid (Kept wr wq) := Lib.hid (by rw [← HWQ]; exact (Kept.refl _).drewN _)
                have HSq : wo.heap.size ≤ wq.heap.size := by have := HKq.out.size; omega
                have d1 := HKq.out.cell c1
                have d2 := HKq.out.cell c2
                clear HWQ c1 c2
                go_wp2_with (at_builtin; refine app_int rfl _ _ rfl wo.heap.size _ (ofN zs) rfl (HO.out.kept (HKq.out.alloc _)) _ (y : Int) rfl (by simp) (by simp; omega) (by simp; omega) ?_; intro v7 w7 hown7 _ hb7; have O7 := Lib.hid hown7; have HB7 := Lib.hid hb7; clear hown7 hb7)
                go_roundw
                case rel => exact ⟨x :: xs, ys, zs ++ [y], Lib.hid ⟨HA2.out, HB2.out.rest, HMI.out.gt HXY.out⟩, by simpa [ofN] using O7.out, ((HKr.out.trans (HKq.out.alloc _)).app HB7.out)⟩
                case measure => simp [lenV]; try omega
end Go.Proofs.YtbkchheikkbebaaGreatDoor

/-
  Walks: faultlineref06.Error, Both, part, Least, limited.
-/
namespace Go.Proofs.YtbkchheikkbebaaGreatDoor
open Go.RowKit

theorem SetsAt.cell {w : World} {a : Option Addr} {c m : Nat} {ns : List Nat} (h : SetsAt w (.slice a m c) ns) (i : Nat) (hi : i < ns.length) : ∃ b o, a = some ⟨b, o, none⟩ ∧ w.cell? ⟨b, o + i, none⟩ = some (.int .i64 (ns[i] : Nat)) := by
  obtain ⟨⟨a', c', h1, _, _, h3⟩, _⟩ := h
  cases h1
  obtain ⟨b, o, h4, h5⟩ := h3 i (by simpa using hi)
  exact ⟨b, o, h4, by simpa using h5⟩
theorem and_sub (a b : Nat) : (a &&& b = a) ↔ subN a b = true := by
  rw [subN_iff]
  constructor
  · intro h i hi
    have h1 : (a &&& b).testBit i = true := by rw [h]; exact hi
    simp at h1
    exact h1.2
  · intro h
    apply Nat.eq_of_testBit_eq
    intro i
    simp only [Nat.testBit_and]
    cases ha : a.testBit i with
    | false => simp
    | true => simp [h i ha]
def partN (a b : Nat) : Bool := decide (a ≠ b) && subN a b
theorem part_any {a b : Nat} (ha : Mk a) (hb : Mk b) (w : World) : Calls Tryz.prog 225 #[.int .i64 a, .int .i64 b] w fun e w' => e = .returned (.bool (partN a b)) ∧ w = w' := by
  have hand : bits .and .i64 (a : Int) (b : Int) = ((a &&& b : Nat) : Int) := and_i64 a b (by unfold Mk at ha; omega) (by unfold Mk at hb; omega)
  clear ha hb
  by_cases e : a = b
  · have h1 : partN a b = false := by unfold partN; simp [e]
    rw [h1]
    have ee : ((a : Int) == (b : Int)) = true := by simp; omega
    have ee2 : ((a : Int) != (b : Int)) = false := by simp; omega
    clear e h1
    go_enter Tryz.func225, Tryz.ntmps225
    go_wp2
    go_ret
    exact ⟨rfl, rfl⟩
  · have h1 : partN a b = subN a b := by unfold partN; simp [e]
    rw [h1]
    have ee : ((a : Int) == (b : Int)) = false := by simp; omega
    have ee2 : ((a : Int) != (b : Int)) = true := by simp; omega
    clear e h1
    cases hs : subN a b with
    | true =>
      have h2 : (((a &&& b : Nat) : Int) == (a : Int)) = true := by have := (and_sub a b).2 hs; simp; omega
      clear hs
      generalize (a &&& b : Nat) = z at hand h2
      go_enter Tryz.func225, Tryz.ntmps225
      go_wp2
      go_ret
      exact ⟨rfl, rfl⟩
    | false =>
      have h2 : (((a &&& b : Nat) : Int) == (a : Int)) = false := by
        have : ¬ (a &&& b = a) := fun h => by rw [(and_sub a b).1 h] at hs; cases hs
        simp; omega
      clear hs
      generalize (a &&& b : Nat) = z at hand h2
      go_enter Tryz.func225, Tryz.ntmps225
      go_wp2
      go_ret
      exact ⟨rfl, rfl⟩
theorem keep_part (ns : List Nat) (hs : ns.Pairwise ltK) (k : Nat) (hk : k < ns.length) : ((ns.take k).foldl keepN []).any (fun x => partN x ns[k]) = ((ns.take k).foldl keepN []).any (fun x => subN x ns[k]) := by
  rw [Bool.eq_iff_iff, List.any_eq_true, List.any_eq_true]
  have hne : ∀ x ∈ (ns.take k).foldl keepN [], x ≠ ns[k] := by
    intro x hx e
    rcases mem_minN _ _ _ hx with h | h
    · cases h
    · obtain ⟨i, hi, rfl⟩ := List.getElem_of_mem h
      simp only [List.length_take] at hi
      rw [List.getElem_take] at e
      have := List.pairwise_iff_getElem.1 hs i k (by omega) hk (by omega)
      rw [e] at this
      exact ltK_irr _ this
  constructor
  · rintro ⟨x, hx, h⟩
    refine ⟨x, hx, ?_⟩
    unfold partN at h; simp at h; exact h.2
  · rintro ⟨x, hx, h⟩
    refine ⟨x, hx, ?_⟩
    unfold partN; simp [hne x hx, h]
set_option maxRecDepth 100000 in
set_option maxHeartbeats 4000000 in
theorem least_own (ns : List Nat) (v : Value) (w : World) (hv : SetsAt w v ns) (hl : ns.length ≤ 8796093022208) :
    Calls Tryz.prog 164 #[v] w fun e w' => (∃ v', e = .returned v' ∧ OwnSets w' w.heap.size v' (minK ns)) ∧ Kept w w' := by
  have HS := Lib.hid (rsort_any ns.length ns v w (Nat.le_refl _) hv hl)
  obtain ⟨a, c, rfl, hc, _⟩ := hv.shape
  obtain ⟨ss, hss⟩ : ∃ ss, ss = sortK ns := ⟨_, rfl⟩
  have hps : ss.Pairwise ltK := by rw [hss]; exact pair_sortK ns
  have hsl : ss.length ≤ ns.length := by rw [hss]; exact len_sortK ns
  have hmin : minK ns = ss.foldl keepN [] := by rw [hss]; rfl
  have hmk : ∀ n ∈ ss, Mk n := by rw [hss]; exact fun n hn => hv.2 n ((mem_sortK ns n).1 hn)
  rw [← hss] at HS
  rw [hmin]
  have HM := Lib.hid hmk
  have HP := Lib.hid hps
  clear hss hmin hmk hps hv
  go_enter Tryz.func164, Tryz.ntmps164
  go_wp2_with fail
  refine HS.out.mono ?_
  rintro e w1 ⟨⟨v1, rfl, ho1⟩, hk1⟩
  have HV := Lib.hid ho1.sets
  have HK1 := Lib.hid hk1
  obtain ⟨b1, c1, rfl, hc1, _⟩ := ho1.sets.shape
  obtain ⟨n, hn⟩ : ∃ n, n = ss.length := ⟨_, rfl⟩
  rw [← hn] at HV hc1 hsl ⊢
  have HN := Lib.hid hn
  clear ho1 hk1 hn HS
  go_wp2_with fail
  go_loopw [3, 5, 6, 8, 12, 16, 17, 18] (fun vo _ _ _ i _ _ _ wr => ∃ (k : Nat), k ≤ n ∧ i = .int .i64 k ∧ OwnInts wr w1.heap.size vo (ofN ((ss.take k).foldl keepN [])) ∧ Kept w1 wr) (fun _ _ _ _ i _ _ _ _ => n - (intOf i).toNat)
  case atStart => exact ⟨0, Nat.zero_le _, rfl, OwnInts.nil _ _, Kept.refl _⟩
  case round =>
    obtain ⟨k, hk, rfl, hO, hKr⟩ := hrel
    have HO := Lib.hid hO
    have HKr := Lib.hid hKr
    have hsz := hKr.size
    clear hO hKr
    by_cases hlt : k < n
    · have hkx : k < ss.length := by have := HN.out; omega
      obtain ⟨b, o, rfl, hcell0⟩ := HV.out.cell k hkx
      have hcell := HKr.out.cell hcell0
      have hkp := keep_part ss HP.out k hkx
      have hms := HM.out _ (List.getElem_mem hkx)
      have htk : (ss.take (k + 1)).foldl keepN [] = keepN ((ss.take k).foldl keepN []) ss[k] := by rw [List.take_succ_eq_append_getElem hkx, List.foldl_append]; rfl
      have hma : ∀ x ∈ (ss.take k).foldl keepN [], Mk x := fun x hx => by
        rcases mem_minN _ _ _ hx with h | h
        · cases h
        · exact HM.out x (List.mem_of_mem_take h)
      have hla : ((ss.take k).foldl keepN []).length ≤ k := by
        have := len_minN (ss.take k) []
        simp at this
        omega
      obtain ⟨s, hs⟩ : ∃ s, s = ss[k] := ⟨_, rfl⟩
      rw [← hs] at hcell hkp hms htk
      obtain ⟨acc, hacc⟩ : ∃ x, x = (ss.take k).foldl keepN [] := ⟨_, rfl⟩
      rw [← hacc] at HO hkp htk hma hla
      have HKP := Lib.hid hkp
      have HTK := Lib.hid htk
      have HMA := Lib.hid hma
      have HMS := Lib.hid hms
      have ho3 := OwnInts.ints HO.out
      obtain ⟨ao, no, co, rfl⟩ := ho3.shape
      have hal : no = acc.length := by obtain ⟨_, _, h, _⟩ := ho3; cases h; simp
      subst hal
      have HSO : Hid (SetsAt wr (.slice ao acc.length co) acc) := Lib.hid ⟨ho3, HMA.out⟩
      obtain ⟨m, hm⟩ : ∃ m, m = acc.length := ⟨_, rfl⟩
      rw [← hm] at HSO HO hla ⊢
      have HML := Lib.hid hm
      clear hcell0 hkp htk hma hms hs hacc ho3 hm
      go_wp2_with fail
      obtain ⟨wo, rfl⟩ : ∃ wo : World, wo = wr := ⟨_, rfl⟩
      go_loop [6, 8, 18] (fun sm _ j => ∃ q : Nat, q ≤ m ∧ j = .int .i64 q ∧ sm = .bool (!((acc.take q).any fun x => partN x s))) (fun _ _ j => m - (intOf j).toNat)
      case atStart => exact ⟨0, Nat.zero_le _, rfl, rfl⟩
      case round =>
        obtain ⟨q, hq, rfl, rfl⟩ := hrel
        by_cases hqm : q < m
        · have hqx : q < acc.length := by have := HML.out; omega
          obtain ⟨b2, o2, rfl, hcell2⟩ := HSO.out.cell q hqx
          have hmx := HMA.out _ (List.getElem_mem hqx)
          have hst : (acc.take (q + 1)).any (fun x => partN x s) = ((acc.take q).any (fun x => partN x s) || partN acc[q] s) := by
            rw [List.take_succ_eq_append_getElem hqx, List.any_append]; simp
          obtain ⟨x, hx⟩ : ∃ x, x = acc[q] := ⟨_, rfl⟩
          rw [← hx] at hcell2 hmx hst
          have HP2 : Hid (∀ W, Calls Tryz.prog 225 #[.int .i64 x, .int .i64 s] W fun e w' => e = .returned (.bool (partN x s)) ∧ W = w') := Lib.hid fun W => part_any hmx HMS.out W
          have HST := Lib.hid hst
          clear hx hmx hst
          cases hb1 : (acc.take q).any fun x => partN x s with
          | true =>
            have HB1 := Lib.hid hb1
            clear hb1
            go_wp2_with (go_at_call 225; refine (HP2.out _).mono ?_; rintro e w' ⟨rfl, rfl⟩)
            go_round
            case rel => exact ⟨q + 1, by omega, by go_num, by rw [HST.out, HB1.out]; rfl⟩
            case measure => simp [intOf]; omega
          | false =>
            have HB1 := Lib.hid hb1
            clear hb1
            go_wp2_with (go_at_call 225; refine (HP2.out _).mono ?_; rintro e w' ⟨rfl, rfl⟩)
            go_round
            case rel => exact ⟨q + 1, by omega, by go_num, by rw [HST.out, HB1.out]; rfl⟩
            case measure => simp [intOf]; omega
        · have hqe : acc.take q = acc := List.take_of_length_le (by have := HML.out; omega)
          rw [hqe, HKP.out]
          cases hb1 : acc.any fun x => subN x s with
          | true =>
            have HKN : Hid ((ss.take (k + 1)).foldl keepN [] = acc) := Lib.hid (by rw [HTK.out, keepN, if_pos hb1])
            clear hb1 hqe
            go_wp2
            go_roundw
            case rel => exact ⟨k + 1, by omega, by go_num, by rw [HKN.out]; exact HO.out, HKr.out⟩
            case measure => simp [intOf]; omega
          | false =>
            have HKN : Hid ((ss.take (k + 1)).foldl keepN [] = acc ++ [s]) := Lib.hid (by rw [HTK.out, keepN, if_neg (by rw [hb1]; simp)])
            clear hb1 hqe
            go_wp2_with (at_builtin; refine app_int rfl _ _ rfl w1.heap.size _ (ofN acc) rfl (HO.out.kept ((Kept.refl _).alloc _)) _ (s : Int) rfl (by simp) (by simp; have := HML.out; omega) (by simp; omega) ?_; intro v7 w7 hown7 _ hb7; have O7 := Lib.hid hown7; have HB7 := Lib.hid hb7; clear hown7 hb7)
            go_roundw
            case rel => exact ⟨k + 1, by omega, by go_num, by rw [HKN.out]; simpa [ofN] using O7.out, (HKr.out.alloc _).app HB7.out⟩
            case measure => simp [intOf]; omega
    · have hfull : ss.take k = ss := List.take_of_length_le (by have := HN.out; omega)
      rw [hfull] at HO
      clear hfull
      go_wp2
      go_ret
      exact ⟨⟨_, rfl, ⟨HO.out.mono HK1.out.size, fun x hx => by
        rcases mem_minN _ _ _ hx with h | h
        · cases h
        · exact HM.out x h⟩⟩, HK1.out.trans HKr.out⟩
theorem least_any (ns : List Nat) (v : Value) (w : World) (hv : SetsAt w v ns) (hl : ns.length ≤ 8796093022208) :
    Calls Tryz.prog 164 #[v] w fun e w' => (∃ v', e = .returned v' ∧ OwnSets w' 0 v' (minK ns)) ∧ Kept w w' :=
  (least_own ns v w hv hl).mono fun _ _ ⟨⟨v', h1, h2⟩, h3⟩ => ⟨⟨v', h1, ⟨h2.1.mono (Nat.zero_le _), h2.2⟩⟩, h3⟩
end Go.Proofs.YtbkchheikkbebaaGreatDoor

/-
  Walks: family.Covers, family.Check; slices.Equal of equal lists.
-/
namespace Go.Proofs.YtbkchheikkbebaaGreatDoor
open Go.RowKit

def covB (l : List Nat) (s : Nat) : Bool := l.any fun t => subN t s
end Go.Proofs.YtbkchheikkbebaaGreatDoor

/-
  Walks: family.lists of one list, family.Check, and the reference's Error and Check, of whatever list.
-/
namespace Go.Proofs.YtbkchheikkbebaaGreatDoor
open Go.RowKit

def okI (xs : List Int) : Bool := xs.all fun x => decide (0 ≤ x ∧ x ≤ 16777215)
def errI (xs : List Int) : Nat := if 1024 < xs.length then 4 else if okI xs = true then 0 else 3
def natsI (xs : List Int) : List Nat := xs.map Int.toNat
/-- The number of Check's error. -/
def chkI (xs : List Int) : Nat := if errI xs ≠ 0 then errI xs else if natsI xs ≠ sortK (natsI xs) then 13 else if natsI xs ≠ minK (natsI xs) then 2 else 0
theorem okI_iff {xs : List Int} : okI xs = true ↔ ∀ x ∈ xs, 0 ≤ x ∧ x ≤ 16777215 := by
  unfold okI
  rw [List.all_eq_true]
  exact ⟨fun h x hx => of_decide_eq_true (h x hx), fun h x hx => decide_eq_true (h x hx)⟩
theorem nats_of {xs : List Int} (h : okI xs = true) : xs = ofN (natsI xs) ∧ ∀ n ∈ natsI xs, Mk n := by
  have h := okI_iff.1 h
  refine ⟨?_, fun n hn => ?_⟩
  · unfold ofN natsI
    rw [List.map_map]
    have : xs.map ((fun (n : Nat) => (n : Int)) ∘ Int.toNat) = xs.map id := List.map_congr_left fun x hx => by
      have := h x hx
      simp only [Function.comp, id]
      omega
    first | (rw [this, List.map_id]) | (rw [List.map_id] at this; exact this.symm)
  · obtain ⟨x, hx, rfl⟩ := List.mem_map.1 hn
    have := h x hx
    unfold Mk
    omega
theorem err_ok {xs : List Int} (h : errI xs = 0) : xs.length ≤ 1024 ∧ okI xs = true := by
  unfold errI at h
  split at h
  · omega
  · split at h
    · exact ⟨by omega, by assumption⟩
    · omega
theorem err_cases (xs : List Int) : errI xs = 0 ∨ errI xs = 3 ∨ errI xs = 4 := by unfold errI; split <;> first | (exact .inr (.inr rfl)) | (split <;> first | exact .inl rfl | exact .inr (.inl rfl))
theorem ofN_inj {a b : List Nat} : ofN a = ofN b ↔ a = b := by
  unfold ofN
  exact ⟨fun h => by
    have := congrArg (List.map Int.toNat) h
    simpa [List.map_map, Function.comp_def] using this, fun h => by rw [h]⟩
theorem equal_any (xs ys : List Int) (va vb : Value) (w : World) (ha : IntsAt w va xs) (hb : IntsAt w vb ys) : Calls Tryz.prog 98 #[va, vb] w fun e w' => e = .returned (.bool (decide (xs = ys))) ∧ Kept w w' := by
  obtain ⟨aa, ca, rfl, _, hla, hca⟩ := ha
  obtain ⟨ab, cb, rfl, _, hlb, hcb⟩ := hb
  by_cases hl : xs.length = ys.length
  · by_cases h0 : xs = []
    · subst h0
      have h1 : ys = [] := List.eq_nil_of_length_eq_zero hl.symm
      subst h1
      exact (Go.Proofs.Tryz.slices_Equal_int_empty aa ab ca 0 cb w (by omega)).mono fun e w' ⟨h1, h2⟩ => ⟨by rw [h1]; simp, by subst h2; exact Kept.refl _⟩
    · have hp : 0 < xs.length := List.length_pos_iff.2 h0
      obtain ⟨b1, o1, rfl, _⟩ := hca 0 hp
      obtain ⟨b2, o2, rfl, _⟩ := hcb 0 (by omega)
      refine (Go.Proofs.Tryz.slices_Equal_int b1 o1 xs.length ca b2 o2 ys.length cb xs ys w (Nat.le_refl _) (Nat.le_refl _) (by omega) (by omega) ?_ ?_).mono fun e w' ⟨h1, q, h2⟩ => ⟨by rw [h1, List.take_length, List.take_length, show (xs == ys) = decide (xs = ys) by rw [Bool.eq_iff_iff]; simp], by subst h2; exact (Kept.refl _).drewN _⟩
      · intro j hj
        obtain ⟨b, o, h1, h2⟩ := hca j hj
        cases h1
        rw [h2]; simp [hj]
      · intro j hj
        obtain ⟨b, o, h1, h2⟩ := hcb j hj
        cases h1
        rw [h2]; simp [hj]
  · refine (Go.Proofs.Tryz.slices_Equal_int_lens aa ab xs.length ca ys.length cb w hl).mono fun e w' ⟨h1, h2⟩ => ⟨?_, by subst h2; exact Kept.refl _⟩
    rw [h1, decide_eq_false (fun h => hl (by rw [h]))]
set_option maxRecDepth 100000 in
set_option maxHeartbeats 2000000 in
theorem lists_one (g : Nat) (va : Value) (xs : List Int) (w : World) (hc : w.cell? ⟨g, 0, none⟩ = some va) (hv : IntsAt w va xs) :
    Calls Tryz.prog 97 #[.slice (some ⟨g, 0, none⟩) 1 1] w fun e w' => e = .returned (errV (errI xs)) ∧ w = w' := by
  obtain ⟨a, c, rfl, _, hl, hx⟩ := hv
  obtain ⟨m, hm⟩ : ∃ m, m = xs.length := ⟨_, rfl⟩
  rw [← hm] at hc
  have hm9 : m ≤ 140737488355328 := by omega
  have HX := Lib.hid hx
  have HM := Lib.hid hm
  have HC := Lib.hid hc
  clear hx hm hl hc
  go_enter Tryz.func97, Tryz.ntmps97
  go_wp2
  go_loopg [9] 1 (fun kx s9 wr => ∃ k : Nat, k ≤ 1 ∧ s9 = .int .i64 k ∧ 1 - k ≤ kx ∧ Hid (k = 1 → errI xs = 0) ∧ w = wr)
  case atStart => exact ⟨0, by omega, rfl, by omega, Lib.hid (fun h => by omega), rfl⟩
  case round =>
    obtain ⟨k, hk, rfl, hkx, HE, rfl⟩ := hrel
    by_cases hk1 : k = 1
    · subst hk1
      have HE0 := Lib.hid (HE.out rfl)
      go_wp2
      go_ret
      exact ⟨by rw [HE0.out]; rfl, rfl⟩
    · have hk0 : k = 0 := by omega
      subst hk0
      have hcell := HC.out
      by_cases hlen : m ≤ 1024
      · have hl1 : ¬ (1024 : Int) < (m : Int) := by omega
        go_wp2
        go_loopg [19] m (fun kx s19 wq => ∃ q : Nat, q ≤ m ∧ s19 = .int .i64 q ∧ m - q ≤ kx ∧ Hid (∀ x ∈ xs.take q, 0 ≤ x ∧ x ≤ 16777215) ∧ w = wq)
        case atStart => exact ⟨0, Nat.zero_le _, rfl, by omega, Lib.hid (by simp), rfl⟩
        case round =>
          obtain ⟨q, hq, rfl, hqx, HF, rfl⟩ := hrel
          by_cases hqm : q < m
          · have hqx : q < xs.length := by have := HM.out; omega
            obtain ⟨b2, o2, rfl, hcell2⟩ := HX.out q hqx
            obtain ⟨s, hs⟩ : ∃ s, s = xs[q] := ⟨_, rfl⟩
            rw [← hs] at hcell2
            have HS := Lib.hid hs
            have hqi : (q : Int) < (m : Int) := by omega
            cases hd : decide (0 ≤ s ∧ s ≤ 16777215) with
            | true =>
              have HVA : Hid (∀ W, Calls Tryz.prog 101 #[.int .i64 s] W fun e w' => e = .returned (.bool true) ∧ W = w') := Lib.hid fun W => by have := valid_any s W; rwa [hd] at this
              have HD := Lib.hid (of_decide_eq_true hd)
              clear hd hs
              go_wp2_with (go_at_call 101; refine (HVA.out _).mono ?_; rintro e w' ⟨rfl, rfl⟩)
              go_roundg (m - (q + 1))
              case measure => omega
              case rel => exact ⟨q + 1, by omega, by go_num, Nat.le_refl _, Lib.hid (fun y hy => by
                rw [List.take_succ_eq_append_getElem hqx] at hy
                rcases List.mem_append.1 hy with hy | hy
                · exact HF.out y hy
                · simp at hy; rw [hy, ← HS.out]; exact HD.out), rfl⟩
            | false =>
              have HVA : Hid (∀ W, Calls Tryz.prog 101 #[.int .i64 s] W fun e w' => e = .returned (.bool false) ∧ W = w') := Lib.hid fun W => by have := valid_any s W; rwa [hd] at this
              have HD := Lib.hid (of_decide_eq_false hd)
              have HER : Hid (errI xs = 3) := Lib.hid (by
                unfold errI
                rw [if_neg (by have := HM.out; omega), if_neg]
                intro h
                exact HD.out (okI_iff.1 h s (by rw [HS.out]; exact List.getElem_mem _)))
              clear hd hs
              go_wp2_with (go_at_call 101; refine (HVA.out _).mono ?_; rintro e w' ⟨rfl, rfl⟩)
              go_ret
              exact ⟨by rw [HER.out]; rfl, rfl⟩
          · have HE0 : Hid (errI xs = 0) := Lib.hid (by
              have hf := HF.out
              rw [List.take_of_length_le (by have := HM.out; omega)] at hf
              unfold errI
              rw [if_neg (by have := HM.out; omega), if_pos (okI_iff.2 hf)])
            have hqi : ¬ (q : Int) < (m : Int) := by omega
            go_wp2
            go_roundg 0
            case measure => omega
            case rel => exact ⟨1, by omega, by go_num, by omega, Lib.hid (fun _ => HE0.out), rfl⟩
      · have hl1 : (1024 : Int) < (m : Int) := by omega
        have HER : Hid (errI xs = 4) := Lib.hid (by unfold errI; rw [if_pos (by have := HM.out; omega)])
        go_wp2
        go_ret
        exact ⟨by rw [HER.out]; rfl, rfl⟩
theorem fold_subA (l : List Nat) : ∀ out, (l.foldl keepN out).Sublist (out ++ l) := by
  induction l with
  | nil => intro out; simp
  | cons s l ih =>
    intro out
    have h := ih (keepN out s)
    show (l.foldl keepN (keepN out s)).Sublist _
    unfold keepN at h ⊢
    split at h
    · rename_i hk
      rw [if_pos hk]
      exact h.trans ((List.Sublist.refl out).append (List.sublist_cons_self s l))
    · rename_i hk
      rw [if_neg hk]
      simpa using h
theorem minK_len_eq {ns : List Nat} (h : ns = sortK ns) : (minK ns).length = ns.length ↔ ns = minK ns := by
  constructor
  · intro hl
    have hs : (minK ns).Sublist ns := by
      unfold minK
      rw [← h]
      exact fold_subA ns []
    exact (hs.eq_of_length hl).symm
  · intro he; rw [← he]
set_option maxRecDepth 100000 in
set_option maxHeartbeats 2000000 in
theorem fcheck_any (va : Value) (xs : List Int) (w : World) (hv : IntsAt w va xs) :
    Calls Tryz.prog 34 #[va] w fun e w' => e = .returned (errV (chkI xs)) ∧ Kept w w' := by
  have HL : Hid (Calls Tryz.prog 97 #[.slice (some ⟨w.heap.size, 0, none⟩) 1 1] (w.alloc (.cells #[va] 22)) fun e w' => e = .returned (errV (errI xs)) ∧ Kept w w') := Lib.hid
    ((lists_one w.heap.size va xs _ (by simp) (hv.kept ((Kept.refl _).alloc _))).mono fun _ _ ⟨h1, h2⟩ => ⟨h1, by rw [← h2]; exact (Kept.refl _).alloc _⟩)
  have HV := Lib.hid hv
  obtain ⟨a, c, hva, _⟩ := id hv
  subst hva
  obtain ⟨m, hm⟩ : ∃ m, m = xs.length := ⟨_, rfl⟩
  rw [← hm] at HL HV ⊢
  have HM := Lib.hid hm
  clear hm hv
  rcases Nat.eq_zero_or_pos (errI xs) with he | he
  · obtain ⟨hl, hok⟩ := err_ok he
    obtain ⟨hxs, hmk⟩ := nats_of hok
    have hchk : chkI xs = if natsI xs ≠ sortK (natsI xs) then 13 else if natsI xs ≠ minK (natsI xs) then 2 else 0 := by unfold chkI; rw [if_neg (by omega)]
    rw [hchk]
    obtain ⟨ns, hns⟩ : ∃ ns, ns = natsI xs := ⟨_, rfl⟩
    rw [← hns] at hxs hmk ⊢
    have hlm : m = ns.length := by rw [HM.out, hns]; unfold natsI; rw [List.length_map]
    have HVS : Hid (SetsAt w (.slice a m c) ns) := Lib.hid ⟨by rw [← hxs]; exact HV.out, hmk⟩
    have hnl : ns.length ≤ 1024 := by rw [← hlm, HM.out]; exact hl
    have HE := Lib.hid he
    rw [he, errV_zero] at HL
    have HS : Hid (∀ W, Kept w W → Calls Tryz.prog 99 #[.slice a m c] W fun e w' => (∃ v', e = .returned v' ∧ IntsAt w' v' (ofN (sortK ns))) ∧ Kept W w') := Lib.hid fun W hk => by
      refine (sorted_any _ ns W hmk (HVS.out.kept hk).1 (by omega)).mono ?_
      rintro e w' ⟨v', h1, h2, h3⟩
      exact ⟨⟨v', h1, h2.ints⟩, h3⟩
    have HMN : Hid (∀ W, Kept w W → Calls Tryz.prog 100 #[.slice a m c] W fun e w' => (∃ v', e = .returned v' ∧ SetsAt w' v' (minK ns)) ∧ Kept W w') := Lib.hid fun W hk => by
      refine (minimalS_any _ ns W (HVS.out.kept hk) (by omega)).mono ?_
      rintro e w' ⟨v', h1, h2, h3⟩
      exact ⟨⟨v', h1, h2.sets⟩, h3⟩
    have HLM := Lib.hid hlm
    clear hxs hmk hns hl hok he hchk hlm hnl
    by_cases h1 : ns = sortK ns
    · have HEQ : Hid (∀ W vb, Kept w W → IntsAt W vb (ofN (sortK ns)) → Calls Tryz.prog 98 #[.slice a m c, vb] W fun e w' => e = .returned (.bool true) ∧ Kept W w') := Lib.hid fun W vb hk hb => by
        have h := equal_any (ofN ns) (ofN (sortK ns)) (.slice a m c) vb W (HVS.out.kept hk).1 hb
        rwa [decide_eq_true (by rw [← h1])] at h
      rw [if_neg (fun h => h h1)]
      have hiff := minK_len_eq h1
      obtain ⟨z, hz⟩ : ∃ z, z = (minK ns).length := ⟨_, rfl⟩
      have HZ := Lib.hid hz
      rw [← hz, ← HLM.out] at hiff
      by_cases h2 : ns = minK ns
      · rw [if_neg (fun h => h h2)]
        have hzm : z = m := hiff.2 h2
        have hb : ((z : Int) != (m : Int)) = false := by rw [hzm]; simp
        clear hiff h1 h2 hz
        go_enter Tryz.func34, Tryz.ntmps34
        go_wp2_with fail
        refine HL.out.mono ?_
        rintro e w1 ⟨rfl, hk1⟩
        have K1 := Lib.hid hk1
        clear hk1
        go_wp2_with (first
          | (go_at_call 99; refine (HS.out _ K1.out).mono ?_; rintro e w2 ⟨⟨v2, rfl, hv2⟩, hk2⟩; have HV2 := Lib.hid hv2; have K2 := Lib.hid (K1.out.trans hk2); clear hv2 hk2)
          | (go_at_call 98; refine (HEQ.out _ _ K2.out HV2.out).mono ?_; rintro e w3 ⟨rfl, hk3⟩; have K3 := Lib.hid (K2.out.trans hk3); clear hk3)
          | (go_at_call 100; refine (HMN.out _ K3.out).mono ?_; rintro e w4 ⟨⟨v4, rfl, hv4⟩, hk4⟩; obtain ⟨a4, c4, rfl, _, _⟩ := hv4.shape; rw [← HZ.out]; have K4 := Lib.hid (K3.out.trans hk4); clear hk4 hv4))
        go_ret
        exact ⟨rfl, K4.out⟩
      · rw [if_pos h2]
        have hzm : z ≠ m := fun h => h2 (hiff.1 h)
        have hb : ((z : Int) != (m : Int)) = true := by simp [bne]; omega
        have hzi : ¬ (z : Int) = (m : Int) := by omega
        clear hiff h1 h2 hz
        go_enter Tryz.func34, Tryz.ntmps34
        go_wp2_with fail
        refine HL.out.mono ?_
        rintro e w1 ⟨rfl, hk1⟩
        have K1 := Lib.hid hk1
        clear hk1
        go_wp2_with (first
          | (go_at_call 99; refine (HS.out _ K1.out).mono ?_; rintro e w2 ⟨⟨v2, rfl, hv2⟩, hk2⟩; have HV2 := Lib.hid hv2; have K2 := Lib.hid (K1.out.trans hk2); clear hv2 hk2)
          | (go_at_call 98; refine (HEQ.out _ _ K2.out HV2.out).mono ?_; rintro e w3 ⟨rfl, hk3⟩; have K3 := Lib.hid (K2.out.trans hk3); clear hk3)
          | (go_at_call 100; refine (HMN.out _ K3.out).mono ?_; rintro e w4 ⟨⟨v4, rfl, hv4⟩, hk4⟩; obtain ⟨a4, c4, rfl, _, _⟩ := hv4.shape; rw [← HZ.out]; have K4 := Lib.hid (K3.out.trans hk4); clear hk4 hv4))
        go_ret
        exact ⟨rfl, K4.out⟩
    · have HEQ : Hid (∀ W vb, Kept w W → IntsAt W vb (ofN (sortK ns)) → Calls Tryz.prog 98 #[.slice a m c, vb] W fun e w' => e = .returned (.bool false) ∧ Kept W w') := Lib.hid fun W vb hk hb => by
        have h := equal_any (ofN ns) (ofN (sortK ns)) (.slice a m c) vb W (HVS.out.kept hk).1 hb
        rwa [decide_eq_false (fun h => h1 (ofN_inj.1 h))] at h
      rw [if_pos h1]
      clear h1
      go_enter Tryz.func34, Tryz.ntmps34
      go_wp2_with fail
      refine HL.out.mono ?_
      rintro e w1 ⟨rfl, hk1⟩
      have K1 := Lib.hid hk1
      clear hk1
      go_wp2_with (first
        | (go_at_call 99; refine (HS.out _ K1.out).mono ?_; rintro e w2 ⟨⟨v2, rfl, hv2⟩, hk2⟩; have HV2 := Lib.hid hv2; have K2 := Lib.hid (K1.out.trans hk2); clear hv2 hk2)
        | (go_at_call 98; refine (HEQ.out _ _ K2.out HV2.out).mono ?_; rintro e w3 ⟨rfl, hk3⟩; have K3 := Lib.hid (K2.out.trans hk3); clear hk3))
      go_ret
      exact ⟨rfl, K3.out⟩
  · have hchk : chkI xs = errI xs := by unfold chkI; rw [if_pos (by omega)]
    rw [hchk]
    obtain ⟨q, hq⟩ : ∃ q, q = errI xs := ⟨_, rfl⟩
    rw [← hq] at HL he ⊢
    have hqe : errV q = .iface 50 (.int .i64 q) := errV_pos (by omega)
    rw [hqe] at HL ⊢
    clear hchk hq hqe
    go_enter Tryz.func34, Tryz.ntmps34
    go_wp2_with fail
    refine HL.out.mono ?_
    rintro e w1 ⟨rfl, hk1⟩
    go_wp2
    go_ret
    exact ⟨rfl, hk1⟩
end Go.Proofs.YtbkchheikkbebaaGreatDoor

/-
  Walks: the reference's Error and Check of a family, of whatever list.
-/
namespace Go.Proofs.YtbkchheikkbebaaGreatDoor
open Go.RowKit

set_option maxRecDepth 100000 in
set_option maxHeartbeats 2000000 in
theorem rerr_any (va : Value) (xs : List Int) (w : World) (hv : IntsAt w va xs) : Calls Tryz.prog 161 #[va] w fun e w' => e = .returned (.int .i64 (errI xs)) ∧ w = w' := by
  obtain ⟨a, c, rfl, _, hl, hx⟩ := hv
  obtain ⟨m, hm⟩ : ∃ m, m = xs.length := ⟨_, rfl⟩
  rw [← hm]
  have hm9 : m ≤ 140737488355328 := by omega
  have HX := Lib.hid hx
  have HM := Lib.hid hm
  clear hx hm hl
  by_cases hlen : m ≤ 1024
  · have hl1 : ¬ (1024 : Int) < (m : Int) := by omega
    go_enter Tryz.func161, Tryz.ntmps161
    go_wp2
    go_loopg [10] m (fun kx s19 wq => ∃ q : Nat, q ≤ m ∧ s19 = .int .i64 q ∧ m - q ≤ kx ∧ Hid (∀ x ∈ xs.take q, 0 ≤ x ∧ x ≤ 16777215) ∧ w = wq)
    case atStart => exact ⟨0, Nat.zero_le _, rfl, by omega, Lib.hid (by simp), rfl⟩
    case round =>
      obtain ⟨q, hq, rfl, hqx, HF, rfl⟩ := hrel
      by_cases hqm : q < m
      · have hqx : q < xs.length := by have := HM.out; omega
        obtain ⟨b2, o2, rfl, hcell2⟩ := HX.out q hqx
        obtain ⟨s, hs⟩ : ∃ s, s = xs[q] := ⟨_, rfl⟩
        rw [← hs] at hcell2
        have HS := Lib.hid hs
        have hqi : (q : Int) < (m : Int) := by omega
        cases hd : decide (0 ≤ s ∧ s ≤ 16777215) with
        | true =>
          have HVA : Hid (∀ W, Calls Tryz.prog 223 #[.int .i64 s] W fun e w' => e = .returned (.bool true) ∧ W = w') := Lib.hid fun W => by have := rvalid_any s W; rwa [hd] at this
          have HD := Lib.hid (of_decide_eq_true hd)
          clear hd hs
          go_wp2_with (go_at_call 223; refine (HVA.out _).mono ?_; rintro e w' ⟨rfl, rfl⟩)
          go_roundg (m - (q + 1))
          case measure => omega
          case rel => exact ⟨q + 1, by omega, by go_num, Nat.le_refl _, Lib.hid (fun y hy => by
            rw [List.take_succ_eq_append_getElem hqx] at hy
            rcases List.mem_append.1 hy with hy | hy
            · exact HF.out y hy
            · simp at hy; rw [hy, ← HS.out]; exact HD.out), rfl⟩
        | false =>
          have HVA : Hid (∀ W, Calls Tryz.prog 223 #[.int .i64 s] W fun e w' => e = .returned (.bool false) ∧ W = w') := Lib.hid fun W => by have := rvalid_any s W; rwa [hd] at this
          have HD := Lib.hid (of_decide_eq_false hd)
          have HER : Hid (errI xs = 3) := Lib.hid (by
            unfold errI
            rw [if_neg (by have := HM.out; omega), if_neg]
            intro h
            exact HD.out (okI_iff.1 h s (by rw [HS.out]; exact List.getElem_mem _)))
          clear hd hs
          go_wp2_with (go_at_call 223; refine (HVA.out _).mono ?_; rintro e w' ⟨rfl, rfl⟩)
          go_ret
          exact ⟨by rw [HER.out]; rfl, rfl⟩
      · have HE0 : Hid (errI xs = 0) := Lib.hid (by
          have hf := HF.out
          rw [List.take_of_length_le (by have := HM.out; omega)] at hf
          unfold errI
          rw [if_neg (by have := HM.out; omega), if_pos (okI_iff.2 hf)])
        have hqi : ¬ (q : Int) < (m : Int) := by omega
        go_wp2
        go_ret
        exact ⟨by rw [HE0.out]; rfl, rfl⟩
  · have hl1 : (1024 : Int) < (m : Int) := by omega
    have HER : Hid (errI xs = 4) := Lib.hid (by unfold errI; rw [if_pos (by have := HM.out; omega)])
    go_enter Tryz.func161, Tryz.ntmps161
    go_wp2
    go_ret
    exact ⟨by rw [HER.out]; rfl, rfl⟩
set_option maxRecDepth 100000 in
set_option maxHeartbeats 2000000 in
theorem rcheck06_any (va : Value) (xs : List Int) (w : World) (hv : IntsAt w va xs) :
    Calls Tryz.prog 85 #[va] w fun e w' => e = .returned (.int .i64 (chkI xs)) ∧ Kept w w' := by
  have HL : Hid (Calls Tryz.prog 161 #[va] w fun e w' => e = .returned (.int .i64 (errI xs)) ∧ w = w') := Lib.hid (rerr_any va xs w hv)
  have HV := Lib.hid hv
  obtain ⟨a, c, hva, _⟩ := id hv
  subst hva
  obtain ⟨m, hm⟩ : ∃ m, m = xs.length := ⟨_, rfl⟩
  rw [← hm] at HL HV ⊢
  have HM := Lib.hid hm
  clear hm hv
  rcases Nat.eq_zero_or_pos (errI xs) with he | he
  · obtain ⟨hl, hok⟩ := err_ok he
    obtain ⟨hxs, hmk⟩ := nats_of hok
    have hchk : chkI xs = if natsI xs ≠ sortK (natsI xs) then 13 else if natsI xs ≠ minK (natsI xs) then 2 else 0 := by unfold chkI; rw [if_neg (by omega)]
    rw [hchk]
    obtain ⟨ns, hns⟩ : ∃ ns, ns = natsI xs := ⟨_, rfl⟩
    rw [← hns] at hxs hmk ⊢
    have hlm : m = ns.length := by rw [HM.out, hns]; unfold natsI; rw [List.length_map]
    have HVS : Hid (SetsAt w (.slice a m c) ns) := Lib.hid ⟨by rw [← hxs]; exact HV.out, hmk⟩
    have hnl : ns.length ≤ 1024 := by rw [← hlm, HM.out]; exact hl
    rw [he] at HL
    have HL0 : Hid (Calls Tryz.prog 161 #[.slice a m c] w fun e w' => e = .returned (.int .i64 0) ∧ w = w') := Lib.hid HL.out
    have HS : Hid (Calls Tryz.prog 163 #[.slice a m c] w fun e w' => (∃ v', e = .returned v' ∧ IntsAt w' v' (ofN (sortK ns))) ∧ Kept w w') := Lib.hid (by
      refine (rsort_any ns.length ns _ w (Nat.le_refl _) HVS.out (by omega)).mono ?_
      rintro e w' ⟨⟨v', h1, h2⟩, h3⟩
      exact ⟨⟨v', h1, h2.sets.1⟩, h3⟩)
    have HMN : Hid (∀ W, Kept w W → Calls Tryz.prog 164 #[.slice a m c] W fun e w' => (∃ v', e = .returned v' ∧ IntsAt w' v' (ofN (minK ns))) ∧ Kept W w') := Lib.hid fun W hk => by
      refine (least_any ns _ W (HVS.out.kept hk) (by omega)).mono ?_
      rintro e w' ⟨⟨v', h1, h2⟩, h3⟩
      exact ⟨⟨v', h1, h2.sets.1⟩, h3⟩
    have HIN : Hid (∀ W vb l b, decide (ns = l) = b → Kept w W → IntsAt W vb (ofN l) → Calls Tryz.prog 162 #[.slice a m c, vb] W fun e w' => e = .returned (.bool b) ∧ Kept W w') := Lib.hid fun W vb l b hb hk hv => by
      have h := ints_at (ofN ns) (ofN l) (.slice a m c) vb W (HVS.out.kept hk).1 hv
      rw [show decide (ofN ns = ofN l) = b by rw [← hb]; exact decide_eq_decide.2 ofN_inj] at h
      exact h
    clear hxs hmk hns hl hok he hchk hlm hnl HL
    by_cases h1 : ns = sortK ns
    · have D1 : Hid (decide (ns = sortK ns) = true) := Lib.hid (decide_eq_true h1)
      rw [if_neg (fun h => h h1)]
      by_cases h2 : ns = minK ns
      · have D2 : Hid (decide (ns = minK ns) = true) := Lib.hid (decide_eq_true h2)
        rw [if_neg (fun h => h h2)]
        clear h1 h2
        go_enter Tryz.func85, Tryz.ntmps85
        go_wp2_with (first
          | (go_at_call 161; refine HL0.out.mono ?_; rintro e w1 ⟨rfl, rfl⟩)
          | (go_at_call 163; refine HS.out.mono ?_; rintro e w2 ⟨⟨v2, rfl, hv2⟩, hk2⟩; have HV2 := Lib.hid hv2; have K2 := Lib.hid hk2; clear hv2 hk2)
          | (go_at_call 162; (with_reducible refine (HIN.out _ _ _ _ D2.out K4.out HV4.out).mono ?_); rintro e w5 ⟨rfl, hk5⟩; have K5 := Lib.hid (K4.out.trans hk5); clear hk5)
          | (go_at_call 162; (with_reducible refine (HIN.out _ _ _ _ D1.out K2.out HV2.out).mono ?_); rintro e w3 ⟨rfl, hk3⟩; have K3 := Lib.hid (K2.out.trans hk3); clear hk3)
          | (go_at_call 164; refine (HMN.out _ K3.out).mono ?_; rintro e w4 ⟨⟨v4, rfl, hv4⟩, hk4⟩; have HV4 := Lib.hid hv4; have K4 := Lib.hid (K3.out.trans hk4); clear hk4 hv4))
        go_ret
        exact ⟨rfl, K5.out⟩
      · have D2 : Hid (decide (ns = minK ns) = false) := Lib.hid (decide_eq_false h2)
        rw [if_pos h2]
        clear h1 h2
        go_enter Tryz.func85, Tryz.ntmps85
        go_wp2_with (first
          | (go_at_call 161; refine HL0.out.mono ?_; rintro e w1 ⟨rfl, rfl⟩)
          | (go_at_call 163; refine HS.out.mono ?_; rintro e w2 ⟨⟨v2, rfl, hv2⟩, hk2⟩; have HV2 := Lib.hid hv2; have K2 := Lib.hid hk2; clear hv2 hk2)
          | (go_at_call 162; (with_reducible refine (HIN.out _ _ _ _ D2.out K4.out HV4.out).mono ?_); rintro e w5 ⟨rfl, hk5⟩; have K5 := Lib.hid (K4.out.trans hk5); clear hk5)
          | (go_at_call 162; (with_reducible refine (HIN.out _ _ _ _ D1.out K2.out HV2.out).mono ?_); rintro e w3 ⟨rfl, hk3⟩; have K3 := Lib.hid (K2.out.trans hk3); clear hk3)
          | (go_at_call 164; refine (HMN.out _ K3.out).mono ?_; rintro e w4 ⟨⟨v4, rfl, hv4⟩, hk4⟩; have HV4 := Lib.hid hv4; have K4 := Lib.hid (K3.out.trans hk4); clear hk4 hv4))
        go_ret
        exact ⟨rfl, K5.out⟩
    · have D1 : Hid (decide (ns = sortK ns) = false) := Lib.hid (decide_eq_false h1)
      rw [if_pos h1]
      clear h1
      go_enter Tryz.func85, Tryz.ntmps85
      go_wp2_with (first
        | (go_at_call 161; refine HL0.out.mono ?_; rintro e w1 ⟨rfl, rfl⟩)
        | (go_at_call 163; refine HS.out.mono ?_; rintro e w2 ⟨⟨v2, rfl, hv2⟩, hk2⟩; have HV2 := Lib.hid hv2; have K2 := Lib.hid hk2; clear hv2 hk2)
        | (go_at_call 162; (with_reducible refine (HIN.out _ _ _ _ D1.out K2.out HV2.out).mono ?_); rintro e w3 ⟨rfl, hk3⟩; have K3 := Lib.hid (K2.out.trans hk3); clear hk3))
      go_ret
      exact ⟨rfl, K3.out⟩
  · have hchk : chkI xs = errI xs := by unfold chkI; rw [if_pos (by omega)]
    rw [hchk]
    obtain ⟨q, hq⟩ : ∃ q, q = errI xs := ⟨_, rfl⟩
    rw [← hq] at HL he ⊢
    have hq0 : ((q : Int) != 0) = true := by simp [bne]; omega
    have hq1 : ((q : Int) == 0) = false := by simp; omega
    clear hchk hq he
    go_enter Tryz.func85, Tryz.ntmps85
    go_wp2_with fail
    refine HL.out.mono ?_
    rintro e w1 ⟨rfl, rfl⟩
    go_wp2
    go_ret
    exact ⟨rfl, Kept.refl _⟩
end Go.Proofs.YtbkchheikkbebaaGreatDoor

/-
  Walk: truncate.Left. Printed by gen_A51.py.
-/
namespace Go.Proofs.YtbkchheikkbebaaGreatDoor
open Go.RowKit

/-- The sum of the first products. -/
def sumQ (ss : List Nat) (ps : List Rw) : Nat → Rat
  | 0 => 0
  | k + 1 => sumQ ss ps k + prodQ (ss.getD k 0) ps ps.length
theorem sumQ_succ (ss : List Nat) (ps : List Rw) (k : Nat) : sumQ ss ps (k + 1) = sumQ ss ps k + prodQ (ss.getD k 0) ps ps.length := rfl
/-- What Left answers: the error's number, the sum. -/
def leftQ (xs ys : List Int) (ps : List Rw) : Nat × Rat :=
  if chkI xs ≠ 0 then (chkI xs, 0) else if chkI ys ≠ 0 then (chkI ys, 0) else if (natsI ys).any (fun s => decide ((ps.length : Int) ≤ gtK s)) = true then (11, 0) else if badR ps = true then (3, 0) else (0, sumQ (natsI ys) ps (natsI ys).length)
theorem sum_short {ss : List Nat} {ps : List Rw} (h30 : ps.length ≤ 30) (hs : ∀ r ∈ ps, r.Short 3) (hok : ∀ r ∈ ps, r.Ok) : ∀ k, (canR (sumQ ss ps k)).Short (92 * k + 1) := by
  intro k
  induction k with
  | zero => exact ⟨Nat.zero_le _, Nat.zero_le _⟩
  | succ k ih =>
    have hp := prod_short (s := ss.getD k 0) hs hok ps.length (Nat.le_refl _)
    have h := short_add (canR_ok (sumQ ss ps k)) (canR_ok (prodQ (ss.getD k 0) ps ps.length)) ih hp (by omega) (by omega)
    rw [ratOf_can, ratOf_can, ← sumQ_succ] at h
    exact ⟨Nat.le_trans h.1 (by omega), Nat.le_trans h.2 (by omega)⟩
theorem chk_ok {xs : List Int} (h : chkI xs = 0) : xs.length ≤ 1024 ∧ okI xs = true := by
  unfold chkI at h
  by_cases he : errI xs = 0
  · exact err_ok he
  · rw [if_pos he] at h; exact absurd h he
end Go.Proofs.YtbkchheikkbebaaGreatDoor

/-
  Walks: faultlinebase.Words, Rat of equal ones.
-/
namespace Go.Proofs.YtbkchheikkbebaaGreatDoor
open Go.RowKit

set_option maxRecDepth 100000 in
set_option maxHeartbeats 2000000 in
theorem words_true (xs : List Nat) (va vb : Value) (w : World) (ha : WdsAt w va xs) (hb : WdsAt w vb xs) :
    Calls Tryz.prog 96 #[va, vb] w fun e w' => e = .returned (.bool true) ∧ Kept w w' := by
  have HA := Lib.hid ha
  have HB := Lib.hid hb
  have hl := ha.len
  obtain ⟨a0, c0, rfl⟩ := ha.shape
  obtain ⟨a1, c1, rfl⟩ := hb.shape
  obtain ⟨n, hn⟩ : ∃ n, n = xs.length := ⟨_, rfl⟩
  rw [← hn] at HA HB hl ⊢
  have HN := Lib.hid hn
  clear ha hb hn
  go_enter Tryz.func96, Tryz.ntmps96
  go_wp2
  go_loopg [13] n (fun kx s13 wr => ∃ k : Nat, k ≤ n ∧ s13 = .int .i64 k ∧ n - k ≤ kx ∧ Hid (Kept w wr))
  case atStart => exact ⟨0, Nat.zero_le _, rfl, by omega, Lib.hid (Kept.refl _)⟩
  case round =>
    obtain ⟨k, hk, rfl, hkx, HK⟩ := hrel
    by_cases hlt : k < n
    · have hkl : k < xs.length := by have := HN.out; omega
      obtain ⟨b1, o1, rfl, h1⟩ := HA.out.get k hkl
      obtain ⟨b2, o2, rfl, h2⟩ := HB.out.get k hkl
      have c1' := HK.out.cell h1
      have c2' := HK.out.cell h2
      generalize xs.getD k 0 = x at *
      have hki : (k : Int) < (n : Int) := by omega
      have e1 : ((x : Int) == (x : Int)) = true := by simp
      have e2 : ((x : Int) != (x : Int)) = false := by simp
      clear h1 h2 hkl
      go_wp2
      go_quiet (fail)
      go_wp2
      go_roundg (n - (k + 1))
      case measure => omega
      case rel => exact ⟨k + 1, by omega, by go_num, Nat.le_refl _, Lib.hid (HK.out.drewN _)⟩
    · have hki : ¬ (k : Int) < (n : Int) := by omega
      go_wp2
      go_ret
      exact ⟨rfl, HK.out⟩
set_option maxRecDepth 100000 in
set_option maxHeartbeats 2000000 in
theorem rat_true (va vb : Value) (r : Rw) (w : World) (ha : RatAt w va r) (hb : RatAt w vb r) :
    Calls Tryz.prog 32 #[va, vb] w fun e w' => e = .returned (.bool true) ∧ Kept w w' := by
  obtain ⟨u1, u2, rfl, h1, h2⟩ := ha
  obtain ⟨u3, u4, rfl, h3, h4⟩ := hb
  have HW1 := Lib.hid (fun W (hk : Kept w W) => words_true r.num u1 u3 W (h1.kept hk) (h3.kept hk))
  have HW2 := Lib.hid (fun W (hk : Kept w W) => words_true r.den u2 u4 W (h2.kept hk) (h4.kept hk))
  obtain ⟨a1, c1, rfl⟩ := h1.shape
  obtain ⟨a2, c2, rfl⟩ := h2.shape
  obtain ⟨a3, c3, rfl⟩ := h3.shape
  obtain ⟨a4, c4, rfl⟩ := h4.shape
  generalize r.num.length = n1 at *
  generalize r.den.length = n2 at *
  generalize r.neg = neg at *
  obtain ⟨w2, hw2⟩ : ∃ w2, w2 = (w.alloc (.cells #[.bool neg, .slice a1 n1 c1, .slice a2 n2 c2] 39)).alloc (.cells #[.bool neg, .slice a3 n1 c3, .slice a4 n2 c4] 39) := ⟨_, rfl⟩
  have HK0 : Hid (Kept w w2) := Lib.hid (by rw [hw2]; exact ((Kept.refl w).alloc _).alloc _)
  have p := (RowAt.made w #[.bool neg, .slice a1 n1 c1, .slice a2 n2 c2] 39).kept ((Kept.refl _).alloc (.cells #[.bool neg, .slice a3 n1 c3, .slice a4 n2 c4] 39))
  have q := RowAt.made (w.alloc (.cells #[.bool neg, .slice a1 n1 c1, .slice a2 n2 c2] 39)) #[.bool neg, .slice a3 n1 c3, .slice a4 n2 c4] 39
  rw [World.size_alloc] at q
  rw [← hw2] at p q
  have p0 := p.cell (i := 0) (by simp)
  have p1 := p.cell (i := 1) (by simp)
  have p2 := p.cell (i := 2) (by simp)
  have q0 := q.cell (i := 0) (by simp)
  have q1 := q.cell (i := 1) (by simp)
  have q2 := q.cell (i := 2) (by simp)
  simp only [List.getElem_cons_succ, List.getElem_cons_zero] at p0 p1 p2 q0 q1 q2
  have HW := Lib.hid hw2
  clear h1 h2 h3 h4 hw2 p q
  go_enter Tryz.func32, Tryz.ntmps32
  go_wp2_with fail
  rw [← HW.out]
  refine (HW1.out _ HK0.out).mono ?_
  rintro e w3 ⟨rfl, hk3⟩
  have r2 := hk3.cell p2
  have s2 := hk3.cell q2
  have HK3 := Lib.hid (HK0.out.trans hk3)
  clear hk3
  go_wp2_with fail
  refine (HW2.out _ HK3.out).mono ?_
  rintro e w4 ⟨rfl, hk4⟩
  have HK4 := Lib.hid (HK3.out.trans hk4)
  clear hk4
  go_wp2
  go_ret
  exact ⟨rfl, HK4.out⟩
end Go.Proofs.YtbkchheikkbebaaGreatDoor

/-
  Plain: a formula in which an event is replaced by a constant, which is node 0; Restrict.
-/
namespace Go.Proofs.YtbkchheikkbebaaGreatDoor

def mvA (V e : Nat) (a : Int) : Int := if a = e then V else if a < V then a else a + 1
def mvN (V e : Nat) (x : Nd) : Nd := ⟨x.kind, x.k, x.args.map (mvA V e)⟩
def mvF (V e : Nat) (k : Int) (f : Fm) (T : Nat) : Fm := ⟨V, ⟨0, k, []⟩ :: f.nodes.map (mvN V e), mvA V e T⟩
/-- s with the bit e put to b. -/
def putBit (s e : Nat) (b : Bool) : Nat := if b then s ||| 2 ^ e else sdiff s (2 ^ e)
/-- Restrict. -/
def restrictK (l : List Nat) (fl wk : Nat) : List Nat := minK ((l.filter fun s => s &&& wk == 0).map fun s => sdiff s fl)
end Go.Proofs.YtbkchheikkbebaaGreatDoor

/-
  Plain: disjoint cubes of a family; how many of them a state lies in.
-/
namespace Go.Proofs.YtbkchheikkbebaaGreatDoor
open Go.RowKit

/-- The cubes of a cube without the states with all of some events. -/
def lessL (y n : Nat) : List Nat → List (Nat × Nat)
  | [] => []
  | i :: is => (y, n ||| 2 ^ i) :: lessL (y ||| 2 ^ i) n is
def lessK (c : Nat × Nat) (s : Nat) : List (Nat × Nat) := if s &&& c.2 ≠ 0 then [c] else lessL c.1 c.2 (elemsK (sdiff s c.1))
def withK (l : List (Nat × Nat)) (s : Nat) : List (Nat × Nat) := l.flatMap fun c => lessK c s
def ownC (most : Nat) : List Nat → List (Nat × Nat) → Option (List (Nat × Nat))
  | [], l => some l
  | b :: bs, l => if most < (withK l b).length then none else ownC most bs (withK l b)
def cubesC (pre : List Nat) (out : List (Nat × Nat)) : List Nat → Option (List (Nat × Nat))
  | [] => some out
  | s :: r => match ownC (1024 - out.length) pre [(s, 0)] with
    | none => none
    | some l => cubesC (pre ++ [s]) (out ++ l) r
def cubesK (L : List Nat) : Option (List (Nat × Nat)) := cubesC [] [] L
/-- A state is in a cube. -/
def inC (c : Nat × Nat) (s : Nat) : Bool := subN c.1 s && (c.2 &&& s == 0)
def cnt (l : List (Nat × Nat)) (s : Nat) : Nat := (l.filter fun c => inC c s).length
theorem and_zero_iff {a b : Nat} : (a &&& b == 0) = true ↔ ∀ i, a.testBit i = true → b.testBit i = false := by
  rw [beq_iff_eq]
  constructor
  · intro h i hi
    have : (a &&& b).testBit i = false := by rw [h]; exact Nat.zero_testBit i
    rw [Nat.testBit_and, hi] at this
    simpa using this
  · intro h
    apply Nat.eq_of_testBit_eq
    intro i
    rw [Nat.testBit_and, Nat.zero_testBit]
    cases ha : a.testBit i with
    | false => rfl
    | true => rw [h i ha]; rfl
theorem inC_iff {c : Nat × Nat} {s : Nat} : inC c s = true ↔ (∀ i, c.1.testBit i = true → s.testBit i = true) ∧ ∀ i, c.2.testBit i = true → s.testBit i = false := by
  unfold inC
  rw [Bool.and_eq_true, subN_iff, and_zero_iff]
/-- A valid cube. -/
def CbOk (c : Nat × Nat) : Prop := c.1 < 16777216 ∧ c.2 < 16777216 ∧ c.1 &&& c.2 = 0
theorem and_eq_zero {a b : Nat} : a &&& b = 0 ↔ ∀ i, a.testBit i = true → b.testBit i = false := by
  rw [← beq_iff_eq]; exact and_zero_iff
/-- Two cubes have a common state. -/
def meetC (a b : Nat × Nat) : Bool := a.1 &&& b.2 == 0 && a.2 &&& b.1 == 0
end Go.Proofs.YtbkchheikkbebaaGreatDoor

/-
  Plain: the mean of a number over independent events; cubes, disjoint cubes, sums over states.
-/
namespace Go.Proofs.YtbkchheikkbebaaGreatDoor
open Go.RowKit

/-- The mean of F over the states of the first n events, of which event i fails with probability q i. -/
def EX (q : Nat → Rat) : Nat → (Nat → Rat) → Rat
  | 0, F => F 0
  | n + 1, F => q n * EX q n (fun s => F (s + 2 ^ n)) + (1 - q n) * EX q n F
def ind (b : Bool) : Rat := if b = true then 1 else 0
theorem EX_congr {q : Nat → Rat} : ∀ {n : Nat} {F G : Nat → Rat}, (∀ s, s < 2 ^ n → F s = G s) → EX q n F = EX q n G := by
  intro n
  induction n with
  | zero => intro F G h; exact h 0 (by decide)
  | succ n ih =>
    intro F G h
    rw [EX, EX, ih (F := F) (G := G) (fun s hs => h s (by rw [Nat.pow_succ]; omega)), ih (F := fun s => F (s + 2 ^ n)) (G := fun s => G (s + 2 ^ n)) (fun s hs => h _ (by rw [Nat.pow_succ]; omega))]
theorem EX_add {q : Nat → Rat} : ∀ {n : Nat} {F G : Nat → Rat}, EX q n (fun s => F s + G s) = EX q n F + EX q n G := by
  intro n
  induction n with
  | zero => intro F G; rfl
  | succ n ih =>
    intro F G
    rw [EX, EX, EX, ih (F := F) (G := G), ih (F := fun s => F (s + 2 ^ n)) (G := fun s => G (s + 2 ^ n))]
    grind
theorem EX_mul {q : Nat → Rat} : ∀ {n : Nat} {F : Nat → Rat} {c : Rat}, EX q n (fun s => c * F s) = c * EX q n F := by
  intro n
  induction n with
  | zero => intro F c; rfl
  | succ n ih =>
    intro F c
    rw [EX, EX, ih (F := F), ih (F := fun s => F (s + 2 ^ n))]
    grind
theorem EX_const {q : Nat → Rat} : ∀ {n : Nat} {c : Rat}, EX q n (fun _ => c) = c := by
  intro n
  induction n with
  | zero => intro c; rfl
  | succ n ih => intro c; rw [EX, ih]; grind
theorem EX_sub {q : Nat → Rat} {n : Nat} {F G : Nat → Rat} : EX q n (fun s => F s - G s) = EX q n F - EX q n G := by
  have h1 : EX q n (fun s => F s - G s) = EX q n (fun s => F s + (-1) * G s) := EX_congr fun s _ => by grind
  rw [h1, EX_add, EX_mul]
  grind
theorem EX_mono {q : Nat → Rat} : ∀ {n : Nat} {F G : Nat → Rat}, (∀ i, i < n → 0 ≤ q i ∧ q i ≤ 1) → (∀ s, s < 2 ^ n → F s ≤ G s) → EX q n F ≤ EX q n G := by
  intro n
  induction n with
  | zero => intro F G _ h; exact h 0 (by decide)
  | succ n ih =>
    intro F G hq h
    have h1 := ih (F := F) (G := G) (fun i hi => hq i (by omega)) (fun s hs => h s (by rw [Nat.pow_succ]; omega))
    have h2 := ih (F := fun s => F (s + 2 ^ n)) (G := fun s => G (s + 2 ^ n)) (fun i hi => hq i (by omega)) (fun s hs => h _ (by rw [Nat.pow_succ]; omega))
    obtain ⟨q0, q1⟩ := hq n (by omega)
    rw [EX, EX]
    have h3 := Rat.mul_le_mul_of_nonneg_left h2 q0
    have h4 := Rat.mul_le_mul_of_nonneg_left h1 ((Rat.le_iff_sub_nonneg _ _).1 q1)
    grind
theorem ind_unit (b : Bool) : 0 ≤ ind b ∧ ind b ≤ 1 := by
  cases b
  · exact ⟨Rat.le_refl, by show (0 : Rat) ≤ 1; decide⟩
  · exact ⟨by show (0 : Rat) ≤ 1; decide, Rat.le_refl⟩
theorem EX_unit {q : Nat → Rat} {n : Nat} {F : Nat → Rat} (hq : ∀ i, i < n → 0 ≤ q i ∧ q i ≤ 1) (h : ∀ s, s < 2 ^ n → 0 ≤ F s ∧ F s ≤ 1) : 0 ≤ EX q n F ∧ EX q n F ≤ 1 := by
  constructor
  · have := EX_mono (F := fun _ => 0) (G := F) hq (fun s hs => (h s hs).1)
    rwa [EX_const] at this
  · have := EX_mono (F := F) (G := fun _ => 1) hq (fun s hs => (h s hs).2)
    rwa [EX_const] at this
/-- The bits of a state below n are as a cube says. -/
def bitIn (c : Nat × Nat) (n s : Nat) : Bool := (List.range n).all fun i => (!c.1.testBit i || s.testBit i) && (!c.2.testBit i || !s.testBit i)
theorem bitIn_succ (c : Nat × Nat) (n s : Nat) : bitIn c (n + 1) s = (bitIn c n s && ((!c.1.testBit n || s.testBit n) && (!c.2.testBit n || !s.testBit n))) := by
  unfold bitIn
  rw [List.range_succ, List.all_append]
  simp
theorem bit_plus {n s : Nat} (h : s < 2 ^ n) : (s + 2 ^ n).testBit n = true ∧ s.testBit n = false ∧ ∀ i, i < n → (s + 2 ^ n).testBit i = s.testBit i := by
  refine ⟨?_, Nat.testBit_lt_two_pow h, fun i hi => ?_⟩
  · rw [Nat.add_comm, Nat.testBit_two_pow_add_eq, Nat.testBit_lt_two_pow h]; rfl
  · rw [Nat.add_comm, Nat.testBit_two_pow_add_gt hi]
theorem bitIn_congr {c : Nat × Nat} {n s t : Nat} (h : ∀ i, i < n → s.testBit i = t.testBit i) : bitIn c n s = bitIn c n t := by
  induction n with
  | zero => rfl
  | succ n ih => rw [bitIn_succ, bitIn_succ, ih (fun i hi => h i (by omega)), h n (by omega)]
/-- The product of the probabilities that a cube names. -/
def wQ (q : Nat → Rat) (c : Nat × Nat) : Nat → Rat
  | 0 => 1
  | n + 1 => (wQ q c n * if c.1.testBit n = true then q n else 1) * if c.2.testBit n = true then 1 - q n else 1
theorem EX_cube {q : Nat → Rat} {c : Nat × Nat} (hc : c.1 &&& c.2 = 0) : ∀ n, EX q n (fun s => ind (bitIn c n s)) = wQ q c n := by
  intro n
  induction n with
  | zero => rfl
  | succ n ih =>
    rw [EX, wQ]
    have hx := and_eq_zero.1 hc n
    have e1 : EX q n (fun s => ind (bitIn c (n + 1) (s + 2 ^ n))) = (if c.2.testBit n = true then 0 else 1) * EX q n (fun s => ind (bitIn c n s)) := by
      rw [← EX_mul]
      refine EX_congr fun s hs => ?_
      obtain ⟨b1, b2, b3⟩ := bit_plus hs
      rw [bitIn_succ, b1, bitIn_congr b3]
      cases bitIn c n s <;> cases c.1.testBit n <;> cases c.2.testBit n <;> simp [ind]
    have e2 : EX q n (fun s => ind (bitIn c (n + 1) s)) = (if c.1.testBit n = true then 0 else 1) * EX q n (fun s => ind (bitIn c n s)) := by
      rw [← EX_mul]
      refine EX_congr fun s hs => ?_
      obtain ⟨b1, b2, b3⟩ := bit_plus hs
      rw [bitIn_succ, b2]
      cases bitIn c n s <;> cases c.1.testBit n <;> cases c.2.testBit n <;> simp [ind]
    rw [e1, e2, ih]
    cases h1 : c.1.testBit n <;> cases h2 : c.2.testBit n
    · simp; grind
    · simp; grind
    · simp; grind
    · rw [hx h1] at h2; cases h2
theorem bitIn_inC {c : Nat × Nat} {n : Nat} (h1 : ∀ i, c.1.testBit i = true → i < n) (h2 : ∀ i, c.2.testBit i = true → i < n) (s : Nat) : bitIn c n s = inC c s := by
  rw [Bool.eq_iff_iff, inC_iff]
  unfold bitIn
  rw [List.all_eq_true]
  constructor
  · intro h
    refine ⟨fun i hi => ?_, fun i hi => ?_⟩
    · have := h i (List.mem_range.2 (h1 i hi))
      rw [hi, Bool.and_eq_true] at this; simpa using this.1
    · have := h i (List.mem_range.2 (h2 i hi))
      rw [hi, Bool.and_eq_true] at this; simpa using this.2
  · rintro ⟨h3, h4⟩ i _
    cases ha : c.1.testBit i <;> cases hb : c.2.testBit i
    · simp
    · simp [h4 i hb]
    · simp [h3 i ha]
    · have := h3 i ha
      rw [h4 i hb] at this
      cases this
/-- The sum of the weights of cubes is the mean number of cubes. -/
def sumW (q : Nat → Rat) (n : Nat) (l : List (Nat × Nat)) : Rat := l.foldl (fun a c => a + wQ q c n) 0
/-- The probability of a state. -/
def stQ (q : Nat → Rat) (s : Nat) : Nat → Rat
  | 0 => 1
  | n + 1 => stQ q s n * if s.testBit n = true then q n else 1 - q n
def sumTo (F : Nat → Rat) : Nat → Rat
  | 0 => 0
  | n + 1 => sumTo F n + F n
theorem sumTo_congr {F G : Nat → Rat} : ∀ {n : Nat}, (∀ s, s < n → F s = G s) → sumTo F n = sumTo G n := by
  intro n
  induction n with
  | zero => intro _; rfl
  | succ n ih => intro h; rw [sumTo, sumTo, ih (fun i hi => h i (by omega)), h n (by omega)]
theorem sumTo_mul {F : Nat → Rat} {c : Rat} : ∀ {n : Nat}, sumTo (fun s => c * F s) n = c * sumTo F n := by
  intro n
  induction n with
  | zero => rw [sumTo, sumTo, Rat.mul_zero]
  | succ n ih => rw [sumTo, sumTo, ih]; grind
theorem sumTo_add {F : Nat → Rat} {a : Nat} : ∀ b, sumTo F (a + b) = sumTo F a + sumTo (fun s => F (s + a)) b := by
  intro b
  induction b with
  | zero => rw [Nat.add_zero, sumTo, Rat.add_zero]
  | succ b ih => rw [← Nat.add_assoc, sumTo, sumTo, ih, Nat.add_comm b a, Rat.add_assoc]
end Go.Proofs.YtbkchheikkbebaaGreatDoor

/-
  Plain: inclusion and exclusion, the alternating sums of Bonferroni.
-/
namespace Go.Proofs.YtbkchheikkbebaaGreatDoor
open Go.RowKit

/-- The number of choices of k of n things. -/
def chs : Nat → Nat → Nat
  | _, 0 => 1
  | 0, _ + 1 => 0
  | n + 1, k + 1 => chs n k + chs n (k + 1)
theorem chs_zero (n : Nat) : chs n 0 = 1 := by cases n <;> rfl
theorem chs_big : ∀ {n k : Nat}, n < k → chs n k = 0 := by
  intro n
  induction n with
  | zero => intro k h; cases k with
    | zero => omega
    | succ k => rfl
  | succ n ih => intro k h; cases k with
    | zero => omega
    | succ k => rw [chs, ih (by omega), ih (by omega)]
/-- The probability of a set. -/
def pQ (q : Nat → Rat) (n c : Nat) : Rat := wQ q (c, 0) n
/-- The sum over the choices of k sets, with what has been chosen already. -/
def incQ (q : Nat → Rat) (n : Nat) : List Nat → Nat → Nat → Rat
  | _, 0, c => pQ q n c
  | [], _ + 1, _ => 0
  | s :: l, k + 1, c => incQ q n l k (c ||| s) + incQ q n l (k + 1) c
theorem incQ_zero (q : Nat → Rat) (n : Nat) (l : List Nat) (c : Nat) : incQ q n l 0 c = pQ q n c := by cases l <;> rfl
theorem incQ_big {q : Nat → Rat} {n : Nat} : ∀ {l : List Nat} {k c : Nat}, l.length < k → incQ q n l k c = 0 := by
  intro l
  induction l with
  | nil => intro k c h; cases k with
    | zero => simp at h
    | succ k => rfl
  | cons s l ih => intro k c h; cases k with
    | zero => omega
    | succ k =>
      rw [List.length_cons] at h
      rw [incQ, ih (by omega), ih (by omega), Rat.add_zero]
theorem incQ_last {q : Nat → Rat} {n s : Nat} : ∀ {l : List Nat} {k c : Nat}, incQ q n (l ++ [s]) (k + 1) c = incQ q n l (k + 1) c + incQ q n l k (c ||| s) := by
  intro l
  induction l with
  | nil =>
    intro k c
    cases k with
    | zero =>
      rw [List.nil_append, incQ_zero]
      show incQ q n [] 0 (c ||| s) + 0 = 0 + pQ q n (c ||| s)
      rw [incQ_zero, Rat.add_comm]
    | succ k => rfl
  | cons t l ih =>
    intro k c
    rw [List.cons_append, incQ, ih]
    cases k with
    | zero =>
      rw [incQ_zero, incQ_zero]
      show pQ q n (c ||| t) + (incQ q n l (0 + 1) c + pQ q n (c ||| s)) = incQ q n l 0 (c ||| t) + incQ q n l (0 + 1) c + pQ q n (c ||| s)
      rw [incQ_zero, Rat.add_assoc]
    | succ k =>
      rw [ih, incQ, incQ]
      have e : c ||| t ||| s = c ||| s ||| t := by rw [Nat.or_assoc, Nat.or_comm t s, Nat.or_assoc]
      rw [e]
      grind
/-- The union of the chosen sets; the sums by choices. -/
def uniK (l : List Nat) (ch : Nat) : Nat → Nat
  | 0 => 0
  | n + 1 => if ch.testBit n = true then uniK l ch n ||| l.getD n 0 else uniK l ch n
def sumCh (q : Nat → Rat) (n : Nat) (l : List Nat) (k m : Nat) : Rat := sumTo (fun ch => if pc ch = k then pQ q n (uniK l ch l.length) else 0) m
theorem uniK_congr {l l' : List Nat} {a b : Nat} : ∀ {m : Nat}, (∀ i, i < m → a.testBit i = b.testBit i ∧ l.getD i 0 = l'.getD i 0) → uniK l a m = uniK l' b m := by
  intro m
  induction m with
  | zero => intro _; rfl
  | succ m ih => intro h; rw [uniK, uniK, ih (fun i hi => h i (by omega)), (h m (by omega)).1, (h m (by omega)).2]
theorem pc_0 : pc 0 = 0 := by rw [pc, if_pos rfl]
theorem pc_1 : pc 1 = 1 := by rw [pc, if_neg (by decide), show 1 / 2 = 0 from rfl, pc_0]
theorem pc_plus : ∀ {n s : Nat}, s < 2 ^ n → pc (s + 2 ^ n) = pc s + 1 := by
  intro n
  induction n with
  | zero => intro s h; have : s = 0 := by simpa using h
            subst this; rw [show (0 : Nat) + 2 ^ 0 = 1 from rfl, pc_1, pc_0]
  | succ n ih =>
    intro s h
    have hp : 0 < 2 ^ n := Nat.two_pow_pos n
    rw [Nat.pow_succ] at h ⊢
    have h1 := ih (s := s / 2) (by omega)
    have e : (s + 2 ^ n * 2) / 2 = s / 2 + 2 ^ n := by omega
    have e2 : (s + 2 ^ n * 2) % 2 = s % 2 := by omega
    rw [pc, if_neg (by omega), e, e2, h1]
    by_cases hs : s = 0
    · subst hs; rw [show 0 / 2 = 0 from rfl, pc_0]
    · rw [pc.eq_def s, if_neg hs]; omega
theorem sumCh_inc {q : Nat → Rat} {n : Nat} : ∀ (m : Nat) (l : List Nat), l.length = m → ∀ (k c : Nat),
    sumTo (fun ch => if pc ch = k then pQ q n (c ||| uniK l ch l.length) else 0) (2 ^ m) = incQ q n l k c := by
  intro m
  induction m with
  | zero =>
    intro l hl k c
    have : l = [] := List.eq_nil_of_length_eq_zero hl
    subst this
    show (0 : Rat) + (if pc 0 = k then pQ q n (c ||| 0) else 0) = _
    cases k with
    | zero => rw [if_pos pc_0, Nat.or_zero, Rat.zero_add, incQ_zero]
    | succ k => rw [if_neg (by rw [pc_0]; omega)]; exact Rat.add_zero 0
  | succ m ih =>
    intro l hl k c
    obtain ⟨l, s, rfl⟩ : ∃ l' s, l = l' ++ [s] := ⟨l.dropLast, l.getLast (by intro h; rw [h] at hl; simp at hl), (List.dropLast_concat_getLast _).symm⟩
    have hl' : l.length = m := by simpa using hl
    rw [Nat.pow_succ, Nat.mul_two, sumTo_add]
    have e1 : sumTo (fun ch => if pc ch = k then pQ q n (c ||| uniK (l ++ [s]) ch (l ++ [s]).length) else 0) (2 ^ m) = incQ q n l k c := by
      rw [← ih l hl' k c]
      refine sumTo_congr fun ch hch => ?_
      have e : uniK (l ++ [s]) ch (l ++ [s]).length = uniK l ch l.length := by
        rw [List.length_append, List.length_singleton, uniK, hl', (bit_plus hch).2.1, if_neg (by simp)]
        exact uniK_congr fun i hi => ⟨rfl, by simp [List.getD_eq_getElem?_getD, List.getElem?_append_left (show i < l.length by omega)]⟩
      rw [e]
    have e2 : ∀ ch, ch < 2 ^ m → uniK (l ++ [s]) (ch + 2 ^ m) (l ++ [s]).length = uniK l ch l.length ||| s := by
      intro ch hch
      obtain ⟨b1, b2, b3⟩ := bit_plus hch
      rw [List.length_append, List.length_singleton, uniK, hl', b1, if_pos rfl]
      have : uniK (l ++ [s]) (ch + 2 ^ m) m = uniK l ch m := uniK_congr fun i hi => ⟨b3 i hi, by simp [List.getD_eq_getElem?_getD, List.getElem?_append_left (show i < l.length by omega)]⟩
      rw [this]
      congr 1
      rw [List.getD_eq_getElem?_getD, List.getElem?_append_right (by omega), hl']
      simp
    rw [e1]
    cases k with
    | zero =>
      have e3 : sumTo (fun ch => if pc (ch + 2 ^ m) = 0 then pQ q n (c ||| uniK (l ++ [s]) (ch + 2 ^ m) (l ++ [s]).length) else 0) (2 ^ m) = 0 := by
        rw [sumTo_congr (G := fun s => 0 * (0 : Rat)) (fun ch hch => by rw [pc_plus hch, if_neg (by omega), Rat.mul_zero]), sumTo_mul, Rat.zero_mul]
      rw [e3, incQ_zero, incQ_zero, Rat.add_zero]
    | succ k =>
      have e3 : sumTo (fun ch => if pc (ch + 2 ^ m) = k + 1 then pQ q n (c ||| uniK (l ++ [s]) (ch + 2 ^ m) (l ++ [s]).length) else 0) (2 ^ m) = incQ q n l k (c ||| s) := by
        rw [← ih l hl' k (c ||| s)]
        refine sumTo_congr fun ch hch => ?_
        rw [pc_plus hch, e2 ch hch, Nat.or_comm (uniK l ch l.length) s, ← Nat.or_assoc]
        by_cases h : pc ch = k
        · rw [if_pos (by omega), if_pos h]
        · rw [if_neg (by omega), if_neg h]
      rw [e3, incQ_last]
/-- How many sets of a list a state contains. -/
def cntS (l : List Nat) (s : Nat) : Nat := (l.filter fun t => subN t s).length
theorem cntS_cons (t : Nat) (l : List Nat) (s : Nat) : cntS (t :: l) s = if subN t s = true then cntS l s + 1 else cntS l s := by
  unfold cntS
  rw [List.filter_cons]
  split <;> rfl
theorem pQ_EX {q : Nat → Rat} {n c : Nat} (h : ∀ i, c.testBit i = true → i < n) : pQ q n c = EX q n (fun s => ind (subN c s)) := by
  unfold pQ
  rw [← EX_cube (by simp) n]
  refine EX_congr fun s _ => ?_
  rw [bitIn_inC h (fun i hi => by simp at hi)]
  unfold inC
  simp
theorem sub_or (a b s : Nat) : subN (a ||| b) s = (subN a s && subN b s) := by
  rw [Bool.eq_iff_iff, Bool.and_eq_true, subN_iff, subN_iff, subN_iff]
  constructor
  · intro h
    exact ⟨fun i hi => h i (by rw [Nat.testBit_or, hi]; rfl), fun i hi => h i (by rw [Nat.testBit_or, hi]; simp)⟩
  · rintro ⟨h1, h2⟩ i hi
    rw [Nat.testBit_or, Bool.or_eq_true] at hi
    rcases hi with h | h
    · exact h1 i h
    · exact h2 i h
theorem incQ_EX {q : Nat → Rat} {n : Nat} : ∀ {l : List Nat} {k c : Nat}, (∀ t ∈ l, ∀ i, t.testBit i = true → i < n) → (∀ i, c.testBit i = true → i < n) →
    incQ q n l k c = EX q n (fun s => ind (subN c s) * ((chs (cntS l s) k : Nat) : Rat)) := by
  intro l
  induction l with
  | nil =>
    intro k c _ hc
    cases k with
    | zero =>
      rw [incQ_zero, pQ_EX hc]
      exact EX_congr fun s _ => by rw [chs_zero]; exact (Rat.mul_one _).symm
    | succ k =>
      rw [EX_congr (G := fun _ => 0) (fun s _ => by show ind _ * ((0 : Nat) : Rat) = 0; exact Rat.mul_zero _), EX_const]
      rfl
  | cons t l ih =>
    intro k c hl hc
    have hl' : ∀ x ∈ l, ∀ i, x.testBit i = true → i < n := fun x hx => hl x (List.mem_cons_of_mem _ hx)
    cases k with
    | zero =>
      rw [incQ_zero, pQ_EX hc]
      exact EX_congr fun s _ => by rw [chs_zero]; exact (Rat.mul_one _).symm
    | succ k =>
      rw [incQ, ih hl' (fun i hi => by
        rw [Nat.testBit_or, Bool.or_eq_true] at hi
        rcases hi with h | h
        · exact hc i h
        · exact hl t List.mem_cons_self i h), ih hl' hc, ← EX_add]
      refine EX_congr fun s _ => ?_
      rw [sub_or, cntS_cons]
      unfold ind
      cases h1 : subN c s <;> cases h2 : subN t s <;> simp [chs, Rat.natCast_add, Rat.zero_mul, Rat.zero_add, Rat.one_mul]
/-- The alternating sums. -/
def altN (N : Nat) : Nat → Rat
  | 0 => 0
  | k + 1 => if (k + 1) % 2 = 1 then altN N k + ((chs N (k + 1) : Nat) : Rat) else altN N k - ((chs N (k + 1) : Nat) : Rat)
def altQ (q : Nat → Rat) (n : Nat) (l : List Nat) : Nat → Rat
  | 0 => 0
  | k + 1 => if (k + 1) % 2 = 1 then altQ q n l k + incQ q n l (k + 1) 0 else altQ q n l k - incQ q n l (k + 1) 0
theorem altN_zero : ∀ k, altN 0 k = 0 := by
  intro k
  induction k with
  | zero => rfl
  | succ k ih =>
    rw [altN, ih, show ((chs 0 (k + 1) : Nat) : Rat) = 0 from rfl]
    split
    · exact Rat.add_zero 0
    · grind
theorem altN_succ (N : Nat) : ∀ k, altN (N + 1) k = if k % 2 = 1 then 1 + ((chs N k : Nat) : Rat) else 1 - ((chs N k : Nat) : Rat) := by
  intro k
  induction k with
  | zero => rw [altN, if_neg (by decide), chs_zero, show ((1 : Nat) : Rat) = 1 from rfl]; grind
  | succ k ih =>
    rw [altN, ih, chs, Rat.natCast_add]
    rcases Nat.mod_two_eq_zero_or_one k with h | h
    · rw [if_pos (by omega), if_neg (by omega), if_pos (by omega)]; grind
    · rw [if_neg (by omega), if_pos (by omega), if_neg (by omega)]; grind
theorem altQ_EX {q : Nat → Rat} {n : Nat} {l : List Nat} (hl : ∀ t ∈ l, ∀ i, t.testBit i = true → i < n) : ∀ k, altQ q n l k = EX q n (fun s => altN (cntS l s) k) := by
  have h0 : ∀ s, subN 0 s = true := fun s => subN_iff.2 fun i hi => by simp at hi
  intro k
  induction k with
  | zero => exact EX_const.symm
  | succ k ih =>
    rw [altQ, ih, incQ_EX hl (fun i hi => by simp at hi)]
    split
    · rename_i h
      rw [← EX_add]
      exact EX_congr fun s _ => by rw [altN, if_pos h, h0]; unfold ind; rw [if_pos rfl, Rat.one_mul]
    · rename_i h
      rw [← EX_sub]
      exact EX_congr fun s _ => by rw [altN, if_neg h, h0]; unfold ind; rw [if_pos rfl, Rat.one_mul]
theorem cntS_cov (l : List Nat) (s : Nat) : covB l s = decide (0 < cntS l s) := by
  induction l with
  | nil => rfl
  | cons t l ih =>
    have e : covB (t :: l) s = (subN t s || covB l s) := by simp [covB]
    rw [e, cntS_cons, ih]
    cases subN t s <;> simp
theorem cntS_le (l : List Nat) (s : Nat) : cntS l s ≤ l.length := List.length_filter_le _ _
/-- From the number of sets on, the alternating sum is exact. -/
theorem alt_exact {q : Nat → Rat} {n : Nat} {l : List Nat} (hl : ∀ t ∈ l, ∀ i, t.testBit i = true → i < n) {k : Nat} (hk : l.length ≤ k) : altQ q n l k = EX q n (fun s => ind (covB l s)) := by
  rw [altQ_EX hl]
  refine EX_congr fun s _ => ?_
  rw [cntS_cov]
  have h1 := cntS_le l s
  cases hc : cntS l s with
  | zero => rw [altN_zero]; rfl
  | succ N =>
    rw [altN_succ, chs_big (by omega), show ind (decide (0 < N + 1)) = 1 by simp [ind], show ((0 : Nat) : Rat) = 0 from rfl]
    split <;> grind
theorem alt_odd {q : Nat → Rat} {n : Nat} {l : List Nat} (hl : ∀ t ∈ l, ∀ i, t.testBit i = true → i < n) (hq : ∀ i, i < n → 0 ≤ q i ∧ q i ≤ 1) {k : Nat} (hk : k % 2 = 1) : EX q n (fun s => ind (covB l s)) ≤ altQ q n l k := by
  rw [altQ_EX hl]
  refine EX_mono hq fun s _ => ?_
  rw [cntS_cov]
  cases hc : cntS l s with
  | zero => rw [altN_zero]; exact Rat.le_refl
  | succ N =>
    rw [altN_succ, if_pos hk, ind, if_pos (by rw [decide_eq_true_eq]; omega)]
    have : (0 : Rat) ≤ ((chs N k : Nat) : Rat) := Rat.natCast_nonneg
    grind
theorem alt_even {q : Nat → Rat} {n : Nat} {l : List Nat} (hl : ∀ t ∈ l, ∀ i, t.testBit i = true → i < n) (hq : ∀ i, i < n → 0 ≤ q i ∧ q i ≤ 1) {k : Nat} (hk : k % 2 = 0) : altQ q n l k ≤ EX q n (fun s => ind (covB l s)) := by
  rw [altQ_EX hl]
  refine EX_mono hq fun s _ => ?_
  rw [cntS_cov]
  cases hc : cntS l s with
  | zero => rw [altN_zero]; exact Rat.le_refl
  | succ N =>
    rw [altN_succ, if_neg (by omega), ind, if_pos (by rw [decide_eq_true_eq]; omega)]
    have : (0 : Rat) ≤ ((chs N k : Nat) : Rat) := Rat.natCast_nonneg
    grind
end Go.Proofs.YtbkchheikkbebaaGreatDoor

/-
  Plain: the bounds of Bonferroni.
-/
namespace Go.Proofs.YtbkchheikkbebaaGreatDoor

/-- The greater, the lesser number. -/
def maxQ (a b : Rat) : Rat := if b ≤ a then a else b
def minQ (a b : Rat) : Rat := if a ≤ b then a else b
theorem maxQ_le {a b x : Rat} (h1 : a ≤ x) (h2 : b ≤ x) : maxQ a b ≤ x := by unfold maxQ; split <;> assumption
theorem minQ_ge {a b x : Rat} (h1 : x ≤ a) (h2 : x ≤ b) : x ≤ minQ a b := by unfold minQ; split <;> assumption
theorem maxQ_ge (a b : Rat) : a ≤ maxQ a b ∧ b ≤ maxQ a b := by unfold maxQ; split <;> constructor <;> grind
theorem minQ_le (a b : Rat) : minQ a b ≤ a ∧ minQ a b ≤ b := by unfold minQ; split <;> constructor <;> grind
/-- The bounds of Bonferroni. -/
def bndLo (q : Nat → Rat) (n : Nat) (l : List Nat) : Nat → Rat
  | 0 => 0
  | k + 1 => if (k + 1) % 2 = 0 then maxQ (bndLo q n l k) (altQ q n l (k + 1)) else bndLo q n l k
def bndHi (q : Nat → Rat) (n : Nat) (l : List Nat) : Nat → Rat
  | 0 => 1
  | k + 1 => if (k + 1) % 2 = 0 then bndHi q n l k else minQ (bndHi q n l k) (altQ q n l (k + 1))
theorem bndLo_mono {q : Nat → Rat} {n : Nat} {l : List Nat} (k : Nat) : bndLo q n l k ≤ bndLo q n l (k + 1) := by
  rw [bndLo]; split
  · exact (maxQ_ge _ _).1
  · exact Rat.le_refl
theorem bndHi_mono {q : Nat → Rat} {n : Nat} {l : List Nat} (k : Nat) : bndHi q n l (k + 1) ≤ bndHi q n l k := by
  rw [bndHi]; split
  · exact Rat.le_refl
  · exact (minQ_le _ _).1
theorem bndLo_ge {q : Nat → Rat} {n : Nat} {l : List Nat} {j : Nat} (hj : j % 2 = 0) (h0 : 0 < j) : ∀ k, j ≤ k → altQ q n l j ≤ bndLo q n l k := by
  intro k
  induction k with
  | zero => intro h; omega
  | succ k ih =>
    intro h
    by_cases e : j = k + 1
    · rw [bndLo, if_pos (by omega), e]; exact (maxQ_ge _ _).2
    · exact Rat.le_trans (ih (by omega)) (bndLo_mono k)
theorem bndHi_le {q : Nat → Rat} {n : Nat} {l : List Nat} {j : Nat} (hj : j % 2 = 1) : ∀ k, j ≤ k → bndHi q n l k ≤ altQ q n l j := by
  intro k
  induction k with
  | zero => intro h; omega
  | succ k ih =>
    intro h
    by_cases e : j = k + 1
    · rw [bndHi, if_neg (by omega), e]; exact (minQ_le _ _).2
    · exact Rat.le_trans (bndHi_mono k) (ih (by omega))
theorem bnd_in {q : Nat → Rat} {n : Nat} {l : List Nat} (hl : ∀ t ∈ l, ∀ i, t.testBit i = true → i < n) (hq : ∀ i, i < n → 0 ≤ q i ∧ q i ≤ 1) : ∀ k, bndLo q n l k ≤ EX q n (fun s => ind (covB l s)) ∧ EX q n (fun s => ind (covB l s)) ≤ bndHi q n l k := by
  intro k
  have hu := EX_unit (F := fun s => ind (covB l s)) hq fun s _ => ind_unit _
  induction k with
  | zero => exact hu
  | succ k ih =>
    rw [bndLo, bndHi]
    split
    · rename_i h; exact ⟨maxQ_le ih.1 (alt_even hl hq h), ih.2⟩
    · rename_i h; exact ⟨ih.1, minQ_ge ih.2 (alt_odd hl hq (by omega))⟩
theorem bnd_point {q : Nat → Rat} {n : Nat} {l : List Nat} (hl : ∀ t ∈ l, ∀ i, t.testBit i = true → i < n) (hq : ∀ i, i < n → 0 ≤ q i ∧ q i ≤ 1) {k : Nat} (hk : l.length < k) (h0 : l ≠ []) : bndLo q n l k = EX q n (fun s => ind (covB l s)) ∧ bndHi q n l k = EX q n (fun s => ind (covB l s)) := by
  obtain ⟨h1, h2⟩ := bnd_in hl hq k
  have hpos : ∃ j, j % 2 = 0 ∧ 0 < j ∧ l.length ≤ j ∧ j ≤ k := by
    have h0 : 0 < l.length := List.length_pos_iff.2 h0
    rcases Nat.mod_two_eq_zero_or_one k with e | e
    · exact ⟨k, e, by omega, by omega, Nat.le_refl _⟩
    · exact ⟨k - 1, by omega, by omega, by omega, by omega⟩
  have hodd : ∃ j, j % 2 = 1 ∧ l.length ≤ j ∧ j ≤ k := by
    rcases Nat.mod_two_eq_zero_or_one k with e | e
    · exact ⟨k - 1, by omega, by omega, by omega⟩
    · exact ⟨k, e, by omega, Nat.le_refl _⟩
  obtain ⟨j, e1, e2, e3, e4⟩ := hpos
  obtain ⟨i, f1, f2, f3⟩ := hodd
  have g1 := bndLo_ge (q := q) (n := n) (l := l) e1 e2 k e4
  have g2 := bndHi_le (q := q) (n := n) (l := l) f1 k f3
  rw [alt_exact hl e3] at g1
  rw [alt_exact hl f2] at g2
  exact ⟨Rat.le_antisymm h1 g1, Rat.le_antisymm g2 h2⟩
end Go.Proofs.YtbkchheikkbebaaGreatDoor

/-
  Cubes in memory: slices of pairs of ints that can be read, rows of the call's own, append.
-/
namespace Go.Proofs.YtbkchheikkbebaaGreatDoor
open Go.RowKit

def ccells (c : Int × Int) : List Value := [.int .i64 c.1, .int .i64 c.2]
abbrev cubV (c : Int × Int) : Value := .agg #[.int .i64 c.1, .int .i64 c.2]
def ofC (c : Nat × Nat) : Int × Int := ((c.1 : Int), (c.2 : Int))
def ofCs (l : List (Nat × Nat)) : List (Int × Int) := l.map ofC
theorem ofCs_len (l : List (Nat × Nat)) : (ofCs l).length = l.length := List.length_map ..
theorem rangeC_kept {w w' : World} {b o : Nat} {cs : List Value} (h : w.rangeAt b o cs) (hk : Kept w w') : w'.rangeAt b o cs := fun j v hj => hk.cell (h j v hj)
/-- A slice of cubes that can be read. -/
def CbsAt (w : World) (v : Value) (L : List (Int × Int)) : Prop :=
  ∃ (a : Option Addr) (c : Nat), v = .slice a L.length c ∧ (L.length ≤ c ∧ (a = none → c = 0)) ∧ L.length ≤ 1099511627776 ∧
    ∀ i (h : i < L.length), ∃ b o, a = some ⟨b, o, none⟩ ∧ w.rangeAt b (o + i * 2) (ccells L[i])
theorem CbsAt.kept {w w' : World} {v : Value} {L : List (Int × Int)} (h : CbsAt w v L) (hk : Kept w w') : CbsAt w' v L := by
  obtain ⟨a, c, h1, h2, h3, h5⟩ := h
  exact ⟨a, c, h1, h2, h3, fun i hi => let ⟨b, o, h6, h7⟩ := h5 i hi; ⟨b, o, h6, rangeC_kept h7 hk⟩⟩
theorem CbsAt.shape {w : World} {v : Value} {L : List (Int × Int)} (h : CbsAt w v L) : ∃ a c, v = .slice a L.length c := by
  obtain ⟨a, c, h, _⟩ := h; exact ⟨a, c, h⟩
theorem CbsAt.len {w : World} {v : Value} {L : List (Int × Int)} (h : CbsAt w v L) : L.length ≤ 1099511627776 := by
  obtain ⟨_, _, _, _, h, _⟩ := h; exact h
/-- The two cells of a cube. -/
theorem CbsAt.get {w : World} {a : Option Addr} {n c : Nat} {L : List (Int × Int)} (h : CbsAt w (.slice a n c) L) (i : Nat) (hi : i < L.length) :
    ∃ b o, a = some ⟨b, o, none⟩ ∧ w.cell? ⟨b, o + i * 2, none⟩ = some (.int .i64 (L.getD i default).1) ∧ w.cell? ⟨b, o + (i * 2 + 1), none⟩ = some (.int .i64 (L.getD i default).2) := by
  obtain ⟨a', c', h1, _, _, h5⟩ := h
  injection h1 with h1
  subst h1
  obtain ⟨b, o, h6, h7⟩ := h5 i hi
  have e : L.getD i default = L[i] := by simp [List.getD_eq_getElem?_getD, hi]
  rw [e]
  refine ⟨b, o, h6, ?_, ?_⟩
  · have := h7 0 (.int .i64 L[i].1) rfl
    simpa using this
  · have := h7 1 (.int .i64 L[i].2) rfl
    rw [← Nat.add_assoc]
    simpa using this
/-- Cubes of the call's own. -/
def OwnCbs (w : World) (B : Nat) (v : Value) (L : List (Int × Int)) : Prop :=
  w.ownsRow B 55 2 v L.length (L.flatMap ccells) ∧ L.length ≤ 1099511627776
theorem range_two (w : World) (x0 x1 : Value) (e : TypeId) : (w.alloc (.cells #[x0, x1] e)).rangeAt w.heap.size 0 [x0, x1] := by
  intro j v hj
  match j, hj with
  | 0, hj => simp at hj; subst hj; simp
  | 1, hj => simp at hj; subst hj; simp
end Go.Proofs.YtbkchheikkbebaaGreatDoor

/-
  Rows of the call's own in whose blocks no word lies; slices of fractions of the call's own.
-/
namespace Go.Proofs.YtbkchheikkbebaaGreatDoor
open Go.RowKit

/-- A cell that is no word. -/
def NotW (u : Value) : Prop := ∀ x, u ≠ .int .u32 x
/-- No cell of block g is a word. -/
def NoW (w : World) (g : Nat) : Prop := ∀ cur e fr, w.heap[g]? = some (.cells cur e fr) → ∀ u ∈ cur.toList, NotW u
/-- A fraction with the slices of its words. -/
abbrev RwV := Rw × Value × Value
def rwC (x : RwV) : List Value := [.bool x.1.neg, x.2.1, x.2.2]
def RwOk (w : World) (x : RwV) : Prop := WdsAt w x.2.1 x.1.num ∧ WdsAt w x.2.2 x.1.den
theorem RwOk.kept {w w' : World} {x : RwV} (h : RwOk w x) (hk : Kept w w') : RwOk w' x := ⟨h.1.kept hk, h.2.kept hk⟩
/-- Fractions of the call's own, in a slice. -/
def OwnRats (w : World) (B : Nat) (v : Value) (rs : List Rw) : Prop :=
  ∃ L : List RwV, L.map Prod.fst = rs ∧ w.ownsRow B 39 3 v L.length (L.flatMap rwC) ∧ L.length ≤ 1099511627776 ∧ (∀ g, v.ownBlock = some g → NoW w g) ∧ ∀ x ∈ L, RwOk w x
theorem len_rw (L : List RwV) : (L.flatMap rwC).length = L.length * 3 := by
  induction L with
  | nil => rfl
  | cons c L ih => simp [rwC, ih]; omega
theorem rw_get (L : List RwV) : ∀ i (h : i < L.length) j, j < 3 → (L.flatMap rwC)[i * 3 + j]? = (rwC L[i])[j]? := by
  induction L with
  | nil => intro i h; simp at h
  | cons c L ih =>
    intro i h j hj
    rw [List.flatMap_cons]
    cases i with
    | zero => rw [List.getElem?_append_left (by simp [rwC]; omega)]; simp
    | succ i =>
      rw [List.getElem?_append_right (by simp [rwC]; omega), show (rwC c).length = 3 from rfl, show (i + 1) * 3 + j - 3 = i * 3 + j by omega]
      exact ih i (by simpa using h) j hj
theorem info_rat : (Tryz.prog.info? 39).map (fun i => (i.zero, i.size, i.bytes)) = some (some (.agg #[.bool false, .slice none 0 0, .slice none 0 0]), 3, 56) := by kernel_rfl
end Go.Proofs.YtbkchheikkbebaaGreatDoor
