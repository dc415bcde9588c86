import Derived.WalkKit
import Derived.WalkSpells
import Derived.WalkLawsBesides
import Derived.Deep.QuietTactic
import Derived.BigQuiet
import Derived.Lib.Hide
import Derived.Shelf.Abstract
import Derived.Deep.RegionWith
import Derived.Laws.AppendOwnNone
import Derived.Lib.AppendZerosOnto
import Derived.Lib.SliceRun
import Derived.Lib.SlicesCompact
import Derived.Shelf.SlSortCmp.NoneTotal
import Derived.Maps.OwnOps
import Derived.Maps.OwnSet
import Derived.Maps.Views
import Derived.Deep.MidRow
import Derived.Deep.RegionHeld3
import Derived.Deep.AppendLies
import Derived.Deep.RegionLaw
import Derived.IntWalk
import Derived.StillTailTactics
import Derived.RegionTactic
import Derived.BigRegion
import Derived.ChangeAlike
import Derived.Sort.LotD2
import Derived.Sort.LotA
import Derived.Shelf.SlSortCmp.PdqK
import Derived.Deep.DeepCutAuto
import Derived.Lib.ItoaNum
import Derived.Deep.LoopGhost
import Derived.ProofKit
import Derived.OpenShut
import Derived.SizedLaws
import Derived.Lib.SmallJoins
import Derived.Deep.Slices
import Derived.Deep.Fields
import Derived.Deep.Strs
import Derived.Carry
import Derived.Lib.BitFns
import Derived.Deep.CutBlock
import Derived.Test.YthiemjodcklejaaGreatDoorDX9
import Derived.Test.YthiemjodcklejaaGreatDoorDX2
import Derived.Test.YthiemjodcklejaaGreatDoorDX5
import Derived.Test.YthiemjodcklejaaGreatDoorDX4
import Derived.Test.YthiemjodcklejaaGreatDoorDX1
import Derived.Test.YthiemjodcklejaaGreatDoorShelf
import Derived.Laws.IdiomStrings
/-
  Plain: lists of cubes that are given, weights by fractions.
-/
namespace Go.Proofs.YthiemjodcklejaaGreatDoor
open Go.RowKit

/-- The number of the error of a cube, of a list of cubes. -/
def chkCb (c : Int × Int) : Nat := if (0 ≤ c.1 ∧ c.1 < 16777216) ∧ 0 ≤ c.2 ∧ c.2 < 16777216 then (if c.1.toNat &&& c.2.toNat ≠ 0 then 6 else 0) else 3
def chkCs : List (Int × Int) → Nat
  | [] => 0
  | c :: l => if chkCb c ≠ 0 then chkCb c else chkCs l
def natC (c : Int × Int) : Nat × Nat := (c.1.toNat, c.2.toNat)
/-- The cube i meets one before it. -/
def metC (L : List (Int × Int)) (i m : Nat) : Bool := (List.range m).any fun j => meetC (natC (L.getD i default)) (natC (L.getD j default))
def metT (L : List (Int × Int)) (m : Nat) : Bool := (List.range m).any fun i => metC L i i
def chkD (L : List (Int × Int)) : Nat := if 1024 < L.length then 4 else if chkCs L ≠ 0 then chkCs L else if metT L L.length = true then 21 else 0
theorem metC_succ (L : List (Int × Int)) (i m : Nat) : metC L i (m + 1) = (metC L i m || meetC (natC (L.getD i default)) (natC (L.getD m default))) := by
  unfold metC; rw [List.range_succ, List.any_append]; simp
theorem metT_succ (L : List (Int × Int)) (m : Nat) : metT L (m + 1) = (metT L m || metC L m m) := by
  unfold metT; rw [List.range_succ, List.any_append]; simp
theorem chkCb_zero {c : Int × Int} (h : chkCb c = 0) : CbOk (natC c) ∧ c = ofC (natC c) := by
  unfold chkCb at h
  split at h
  · rename_i h1
    split at h
    · cases h
    · rename_i h2
      refine ⟨⟨by show c.1.toNat < _; omega, by show c.2.toNat < _; omega, Classical.byContradiction h2⟩, ?_⟩
      obtain ⟨a, b⟩ := c
      show (a, b) = (((a.toNat : Nat) : Int), ((b.toNat : Nat) : Int))
      rw [Int.toNat_of_nonneg h1.1.1, Int.toNat_of_nonneg h1.2.1]
  · cases h
theorem chkCs_zero : ∀ {L : List (Int × Int)}, chkCs L = 0 → ∀ c ∈ L, chkCb c = 0 := by
  intro L
  induction L with
  | nil => intro _ c hc; cases hc
  | cons d L ih =>
    intro h c hc
    rw [chkCs] at h
    split at h
    · rename_i h1; exact absurd h h1
    · rename_i h1
      rcases List.mem_cons.1 hc with rfl | hc
      · exact Classical.byContradiction h1
      · exact ih h c hc
theorem chkCs_ok : ∀ {L : List (Int × Int)}, (∀ c ∈ L, chkCb c = 0) → chkCs L = 0 := by
  intro L
  induction L with
  | nil => intro _; rfl
  | cons d L ih =>
    intro h
    rw [chkCs, if_neg (by rw [h d List.mem_cons_self]; simp)]
    exact ih fun c hc => h c (List.mem_cons_of_mem _ hc)
theorem chkCs_app (a b : List (Int × Int)) (h : chkCs a = 0) : chkCs (a ++ b) = chkCs b := by
  induction a with
  | nil => rfl
  | cons d a ih =>
    have h1 := chkCs_zero h d List.mem_cons_self
    rw [List.cons_append, chkCs, if_neg (by rw [h1]; simp)]
    refine ih (chkCs_ok fun c hc => chkCs_zero h c (List.mem_cons_of_mem _ hc))
theorem ofCs_getD {l : List (Nat × Nat)} {i : Nat} (h : i < l.length) : (ofCs l).getD i default = ofC l[i] := by
  simp [ofCs, List.getD_eq_getElem?_getD, h]
/-- The probabilities of the events. -/
def qOf (ps : List Rw) (i : Nat) : Rat := ratOf (ps.getD i default)
def wQs (ps : List Rw) (c : Nat × Nat) (n : Nat) : Rat := wQ (qOf ps) c n
theorem wQ_short {ps : List Rw} {c : Nat × Nat} (hs : ∀ r ∈ ps, r.Short 3) (hok : ∀ r ∈ ps, r.Ok) : ∀ n, n ≤ ps.length → (canR (wQs ps c n)).Short (12 * n + 1) := by
  intro n
  induction n with
  | zero => intro _; exact one_short
  | succ n ih =>
    intro hn
    have ih := ih (by omega)
    have hx : ps.getD n default = ps[n] := by simp [List.getD_eq_getElem?_getD, show n < ps.length by omega]
    have hr := hok _ (List.getElem_mem (show n < ps.length by omega))
    have hr3 := hs _ (List.getElem_mem (show n < ps.length by omega))
    have e : wQs ps c (n + 1) = (wQs ps c n * if c.1.testBit n = true then qOf ps n else 1) * if c.2.testBit n = true then 1 - qOf ps n else 1 := rfl
    have eq : qOf ps n = ratOf ps[n] := by unfold qOf; rw [hx]
    have h1 : (canR (wQs ps c n * if c.1.testBit n = true then qOf ps n else 1)).Short (12 * n + 4) := by
      split
      · have h := short_mul (canR_ok (wQs ps c n)) hr ih hr3 (by omega) (by omega)
        rw [ratOf_can, ← eq] at h
        exact ⟨Nat.le_trans h.1 (by omega), Nat.le_trans h.2 (by omega)⟩
      · rw [Rat.mul_one]
        exact ⟨Nat.le_trans ih.1 (by omega), Nat.le_trans ih.2 (by omega)⟩
    have h2 : (canR (1 - qOf ps n)).Short 5 := by
      have h3 := short_neg hr hr3 (by omega)
      have h := short_add (canR_ok ((1 : Int) : Rat)) (canR_ok (- ratOf ps[n])) one_short h3 (by omega) (by omega)
      rw [ratOf_can, ratOf_can, ← eq, ← Rat.sub_eq_add_neg] at h
      exact h
    rw [e]
    generalize (wQs ps c n * if c.1.testBit n = true then qOf ps n else 1) = X at *
    split
    · have h := short_mul (canR_ok X) (canR_ok (1 - qOf ps n)) h1 h2 (by omega) (by omega)
      rw [ratOf_can, ratOf_can] at h
      exact ⟨Nat.le_trans h.1 (by omega), Nat.le_trans h.2 (by omega)⟩
    · rw [Rat.mul_one]
      exact ⟨Nat.le_trans h1.1 (by omega), Nat.le_trans h1.2 (by omega)⟩
def sumWs (ps : List Rw) (l : List (Nat × Nat)) (k : Nat) : Rat := sumW (qOf ps) ps.length (l.take k)
theorem sumW_snoc (q : Nat → Rat) (n : Nat) (l : List (Nat × Nat)) (c : Nat × Nat) : sumW q n (l ++ [c]) = sumW q n l + wQ q c n := by
  unfold sumW; rw [List.foldl_append]; rfl
theorem sumWs_succ {ps : List Rw} {l : List (Nat × Nat)} {k : Nat} (h : k < l.length) : sumWs ps l (k + 1) = sumWs ps l k + wQs ps l[k] ps.length := by
  unfold sumWs wQs
  rw [List.take_succ_eq_append_getElem h, sumW_snoc]
theorem sumWs_short {ps : List Rw} {l : List (Nat × Nat)} (hs : ∀ r ∈ ps, r.Short 3) (hok : ∀ r ∈ ps, r.Ok) (hp : ps.length ≤ 30) : ∀ k, k ≤ l.length → (canR (sumWs ps l k)).Short (362 * k + 1) := by
  intro k
  induction k with
  | zero => intro _; exact ⟨Nat.zero_le _, Nat.zero_le _⟩
  | succ k ih =>
    intro hk
    have ih := ih (by omega)
    have h1 := wQ_short (c := l[k]) hs hok ps.length (Nat.le_refl _)
    have h := short_add (canR_ok (sumWs ps l k)) (canR_ok (wQs ps l[k] ps.length)) ih h1 (by omega) (by omega)
    rw [ratOf_can, ratOf_can] at h
    rw [sumWs_succ (by omega)]
    exact ⟨Nat.le_trans h.1 (by omega), Nat.le_trans h.2 (by omega)⟩
end Go.Proofs.YthiemjodcklejaaGreatDoor

/-
  Walks: cube.Check, disjoint.Check and the reference's: lists of disjoint cubes.
-/
namespace Go.Proofs.YthiemjodcklejaaGreatDoor
open Go.RowKit

theorem chkCb_nat (Y N : Nat) (h1 : Y < 16777216) (h2 : N < 16777216) : chkCb ((Y : Int), (N : Int)) = if Y &&& N = 0 then 0 else 6 := by
  unfold chkCb
  rw [if_pos ⟨⟨by simp, by simpa using (by omega : (Y : Int) < 16777216)⟩, by simp, by simpa using (by omega : (N : Int) < 16777216)⟩]
  simp only [Int.toNat_natCast]
  by_cases h : Y &&& N = 0
  · rw [if_pos h, if_neg (by simpa using h)]
  · rw [if_neg h, if_pos h]
set_option maxRecDepth 100000 in
theorem cubchk_any (y n : Int) (w : World) : Calls Tryz.prog 163 #[.agg #[.int .i64 y, .int .i64 n]] w fun e w' => e = .returned (errV (chkCb (y, n))) ∧ Kept w w' := by
  by_cases h1 : 0 ≤ y
  · by_cases h2 : y < 16777216
    · by_cases h3 : 0 ≤ n
      · by_cases h4 : n < 16777216
        · obtain ⟨Y, rfl⟩ := Int.eq_ofNat_of_zero_le h1
          obtain ⟨N, rfl⟩ := Int.eq_ofNat_of_zero_le h3
          rw [chkCb_nat Y N (by omega) (by omega)]
          have p := and_i64 Y N (by omega) (by omega)
          obtain ⟨z, hz⟩ : ∃ z, z = Y &&& N := ⟨_, rfl⟩
          rw [← hz] at p ⊢
          have h2' : (Y : Int) ≤ 16777215 := by omega
          have h4' : (N : Int) ≤ 16777215 := by omega
          clear hz
          by_cases h0 : z = 0
          · subst h0
            rw [if_pos (Eq.refl 0)]
            go_enter Tryz.func163, Tryz.ntmps163
            go_wp2
            go_ret
            exact ⟨rfl, (Kept.refl _).alloc _⟩
          · have hz0 : ¬ (z : Int) = 0 := by omega
            have hz1 : ((z : Int) != 0) = true := by simp; omega
            rw [if_neg h0]
            go_enter Tryz.func163, Tryz.ntmps163
            go_wp2
            go_ret
            exact ⟨by rfl, (Kept.refl _).alloc _⟩
        · have hb : chkCb (y, n) = 3 := by unfold chkCb; rw [if_neg (by simp only []; omega)]
          have h4' : ¬ n ≤ 16777215 := by omega
          have h2' : y ≤ 16777215 := by omega
          rw [hb]
          go_enter Tryz.func163, Tryz.ntmps163
          go_wp2
          go_ret
          exact ⟨by rfl, (Kept.refl _).alloc _⟩
      · have hb : chkCb (y, n) = 3 := by unfold chkCb; rw [if_neg (by simp only []; omega)]
        have h2' : y ≤ 16777215 := by omega
        rw [hb]
        go_enter Tryz.func163, Tryz.ntmps163
        go_wp2
        go_ret
        exact ⟨by rfl, (Kept.refl _).alloc _⟩
    · have hb : chkCb (y, n) = 3 := by unfold chkCb; rw [if_neg (by simp only []; omega)]
      have h2' : ¬ y ≤ 16777215 := by omega
      rw [hb]
      go_enter Tryz.func163, Tryz.ntmps163
      go_wp2
      go_ret
      exact ⟨by rfl, (Kept.refl _).alloc _⟩
  · have hb : chkCb (y, n) = 3 := by unfold chkCb; rw [if_neg (by simp only []; omega)]
    rw [hb]
    go_enter Tryz.func163, Tryz.ntmps163
    go_wp2
    go_ret
    exact ⟨by rfl, (Kept.refl _).alloc _⟩
theorem chkCs_at {L : List (Int × Int)} {k : Nat} (hk : k < L.length) (h : ∀ c ∈ L.take k, chkCb c = 0) (hq : chkCb (L.getD k default) ≠ 0) : chkCs L = chkCb (L.getD k default) := by
  have e : L.getD k default = L[k] := by simp [List.getD_eq_getElem?_getD, hk]
  rw [e] at hq ⊢
  have h1 : L = L.take k ++ L[k] :: L.drop (k + 1) := by rw [← List.drop_eq_getElem_cons hk, List.take_append_drop]
  conv => lhs; rw [h1]
  rw [chkCs_app _ _ (chkCs_ok h), chkCs, if_pos hq]
set_option maxRecDepth 100000 in
set_option maxHeartbeats 8000000 in
theorem dcheck_any (v : Value) (L : List (Int × Int)) (w : World) (hv : CbsAt w v L) : Calls Tryz.prog 108 #[v] w fun e w' => e = .returned (errV (chkD L)) ∧ Kept w w' := by
  have HV := Lib.hid hv
  obtain ⟨a, c, rfl⟩ := hv.shape
  have hl := hv.len
  obtain ⟨n, hn⟩ : ∃ n, n = L.length := ⟨_, rfl⟩
  rw [← hn] at HV hl ⊢
  obtain ⟨q, hq⟩ : ∃ q, q = chkD L := ⟨_, rfl⟩
  rw [← hq]
  have HQ : Hid (q = if 1024 < n then 4 else if chkCs L ≠ 0 then chkCs L else if metT L n = true then 21 else 0) := Lib.hid (by rw [hq, hn]; rfl)
  have HN := Lib.hid hn
  have HCC : Hid (∀ c : Int × Int, ∀ W, Calls Tryz.prog 163 #[.agg #[.int .i64 c.1, .int .i64 c.2]] W fun e w' => e = .returned (errV (chkCb c)) ∧ Kept W w') := Lib.hid fun c W => cubchk_any c.1 c.2 W
  have hcn : ¬ (c : Int) < (n : Int) := by
    obtain ⟨_, _, he, ⟨h2, _⟩, _⟩ := hv
    injection he with _ h3 h4
    omega
  have HCN : Hid (n ≤ c) := Lib.hid (by omega)
  clear hv hq hn hcn
  by_cases h9 : 1024 < n
  · have h9' : (1024 : Int) < (n : Int) := by omega
    have hq4 : q = 4 := by have h := HQ.out; rw [if_pos h9] at h; exact h
    subst hq4
    go_enter Tryz.func108, Tryz.ntmps108
    go_wp2
    go_ret
    exact ⟨rfl, Kept.refl _⟩
  · have h9' : ¬ (1024 : Int) < (n : Int) := by omega
    have HQ2 : Hid (q = if chkCs L ≠ 0 then chkCs L else if metT L n = true then 21 else 0) := Lib.hid (by have h := HQ.out; rw [if_neg h9] at h; exact h)
    go_enter Tryz.func108, Tryz.ntmps108
    go_wp2_with fail
    go_loopg [16] n (fun kx s16 wr => ∃ k : Nat, k ≤ n ∧ s16 = .int .i64 k ∧ n - k ≤ kx ∧ Hid (∀ c ∈ L.take k, chkCb c = 0) ∧ Hid (Kept w wr))
    case atStart => exact ⟨0, Nat.zero_le _, rfl, by omega, Lib.hid (by simp), Lib.hid (Kept.refl _)⟩
    case round =>
      obtain ⟨k, hk, rfl, hkx, HF, HK⟩ := hrel
      by_cases hlt : k < n
      · have hkl : k < L.length := by have := HN.out; omega
        have hki : (k : Int) < (n : Int) := by omega
        obtain ⟨b, o, rfl, g1, g2⟩ := HV.out.get k hkl
        have x1 := HK.out.cell g1
        have x2 := HK.out.cell g2
        rw [← Nat.add_assoc] at x2
        obtain ⟨d, hd⟩ : ∃ d, d = L.getD k default := ⟨_, rfl⟩
        rw [← hd] at x1 x2
        have HD := Lib.hid hd
        have HCD := Lib.hid (HCC.out d)
        obtain ⟨z, hz⟩ : ∃ z, z = chkCb d := ⟨_, rfl⟩
        have HZ := Lib.hid hz
        rw [← hz] at HCD
        clear g1 g2 hd hz
        by_cases hz0 : z = 0
        · subst hz0
          rw [errV_zero] at HCD
          obtain ⟨W1, rfl⟩ : ∃ W1 : World, W1 = wr := ⟨_, rfl⟩
          go_wp2_with (go_at_call 163; refine (HCD.out _).mono ?_; rintro e w2 ⟨rfl, hk2⟩; have HK2 := Lib.hid (((Kept.refl W1).alloc _).trans hk2); clear hk2)
          go_roundg (n - (k + 1))
          case measure => omega
          case rel =>
            refine ⟨k + 1, by omega, by go_num, Nat.le_refl _, Lib.hid fun c hc => ?_, Lib.hid (HK.out.trans HK2.out)⟩
            rw [List.take_succ_eq_append_getElem hkl] at hc
            rcases List.mem_append.1 hc with hc | hc
            · exact HF.out c hc
            · rw [List.mem_singleton] at hc
              have e : L.getD k default = L[k] := by simp [List.getD_eq_getElem?_getD, hkl]
              rw [hc, ← e, ← HD.out, ← HZ.out]
        · rw [errV_pos hz0] at HCD
          have HR : Hid (q = z) := Lib.hid (by
            have h := HQ2.out
            have e := chkCs_at hkl HF.out (by rw [← HD.out, ← HZ.out]; exact hz0)
            rw [← HD.out, ← HZ.out] at e
            rw [e, if_pos hz0] at h
            exact h)
          obtain ⟨W1, rfl⟩ : ∃ W1 : World, W1 = wr := ⟨_, rfl⟩
          go_wp2_with (go_at_call 163; refine (HCD.out _).mono ?_; rintro e w2 ⟨rfl, hk2⟩; have HK2 := Lib.hid (((Kept.refl W1).alloc _).trans hk2); clear hk2)
          go_ret
          exact ⟨by rw [HR.out, errV_pos hz0]; rfl, HK.out.trans HK2.out⟩
      · have hki : ¬ (k : Int) < (n : Int) := by omega
        have HA : Hid (∀ i, i < n → ∃ Y N : Nat, L.getD i default = ((Y : Int), (N : Int)) ∧ Y < 16777216 ∧ N < 16777216) := Lib.hid fun i hi => by
          have hil : i < L.length := by have := HN.out; omega
          have e : L.getD i default = L[i] := by simp [List.getD_eq_getElem?_getD, hil]
          have h0 := HF.out L[i] (by rw [List.take_of_length_le (by have := HN.out; omega)]; exact List.getElem_mem hil)
          obtain ⟨⟨h1, h2, _⟩, h4⟩ := chkCb_zero h0
          exact ⟨_, _, by rw [e]; exact h4, h1, h2⟩
        have HQ3 : Hid (q = if metT L n = true then 21 else 0) := Lib.hid (by
          have h := HQ2.out
          rw [chkCs_ok (L := L) (fun c hc => HF.out c (by rw [List.take_of_length_le (by have := HN.out; omega)]; exact hc)), if_neg (by simp)] at h
          exact h)
        go_wp2_with fail
        obtain ⟨w2, rfl⟩ : ∃ w2 : World, w2 = wr := ⟨_, rfl⟩
        go_loopg [28] n (fun ix s28 wi => ∃ i : Nat, i ≤ n ∧ s28 = .int .i64 i ∧ n - i ≤ ix ∧ Hid (metT L i = false) ∧ Hid (Kept w wi))
        case atStart => exact ⟨0, Nat.zero_le _, rfl, by omega, Lib.hid rfl, HK⟩
        case round =>
          obtain ⟨i, hi, rfl, hix, HM, HKI⟩ := hrel
          by_cases hil : i < n
          · have hii : (i : Int) < (n : Int) := by omega
            have hilen : i < L.length := by have := HN.out; omega
            obtain ⟨Y, N, e1, hY, hN⟩ := HA.out i hil
            obtain ⟨b, o, rfl, g1, g2⟩ := HV.out.get i hilen
            rw [e1] at g1 g2
            have x1 := HKI.out.cell g1
            have x2 := HKI.out.cell g2
            rw [← Nat.add_assoc] at x2
            have HE := Lib.hid e1
            have hic : ¬ (c : Int) < (i : Int) := by have := HCN.out; omega
            have hic2 : (i : Int) ≤ (c : Int) := by have := HCN.out; omega
            have hi0 : ¬ (i : Int) < 0 := by omega
            clear g1 g2 e1
            go_wp2_with fail
            obtain ⟨wo, rfl⟩ : ∃ wo : World, wo = wr := ⟨_, rfl⟩
            obtain ⟨w5, hw5⟩ : ∃ w5, w5 = wo.alloc (.cells #[.int .i64 Y, .int .i64 N] 77) := ⟨_, rfl⟩
            have hr5 := RowAt.made wo #[.int .i64 (Y : Int), .int .i64 (N : Int)] 77
            have HK5 : Hid (Kept wo w5) := Lib.hid (by rw [hw5]; exact (Kept.refl wo).alloc _)
            rw [← hw5] at hr5 ⊢
            have HR5 := Lib.hid hr5
            clear hw5 hr5
            go_loopg [37] i (fun jx s37 W => ∃ j : Nat, j ≤ i ∧ s37 = .int .i64 j ∧ i - j ≤ jx ∧ Hid (metC L i j = false) ∧ Hid (Kept w5 W))
            case atStart => exact ⟨0, Nat.zero_le _, rfl, by omega, Lib.hid rfl, Lib.hid (Kept.refl _)⟩
            case round =>
              obtain ⟨j, hj, rfl, hjx, HMJ, HKJ⟩ := hrel
              by_cases hjl : j < i
              · have hji : (j : Int) < (i : Int) := by omega
                have hjlen : j < L.length := by omega
                obtain ⟨Y2, N2, f1, hY2, hN2⟩ := HA.out j (by omega)
                obtain ⟨b', o', he', k1, k2⟩ := HV.out.get j hjlen
                cases he'
                rw [f1] at k1 k2
                have HKK := Lib.hid (HKI.out.trans (HK5.out.trans HKJ.out))
                have z1 := HKK.out.cell k1
                have z2 := HKK.out.cell k2
                rw [← Nat.add_assoc] at z2
                have y1 := (HR5.out.kept HKJ.out).cell (i := 0) (by simp)
                have y2 := (HR5.out.kept HKJ.out).cell (i := 1) (by simp)
                simp only [List.getElem_cons_succ, List.getElem_cons_zero] at y1 y2
                have p1 := and_i64 Y N2 (by omega) (by omega)
                have p2 := and_i64 N Y2 (by omega) (by omega)
                have HST : Hid (metC L i (j + 1) = ((Y &&& N2 == 0) && (N &&& Y2 == 0))) := Lib.hid (by
                  rw [metC_succ, HMJ.out, HE.out, f1]; rfl)
                have hlt5 := (HR5.out.kept HKJ.out).lt
                obtain ⟨t1, ht1⟩ : ∃ t1, t1 = Y &&& N2 := ⟨_, rfl⟩
                obtain ⟨t2, ht2⟩ : ∃ t2, t2 = N &&& Y2 := ⟨_, rfl⟩
                rw [← ht1] at p1 HST
                rw [← ht2] at p2 HST
                clear k1 k2 f1 ht1 ht2
                obtain ⟨W1, rfl⟩ : ∃ W1 : World, W1 = wr := ⟨_, rfl⟩
                by_cases c1 : t1 = 0
                · subst c1
                  by_cases c2 : t2 = 0
                  · subst c2
                    have HR : Hid (q = 21) := Lib.hid (by
                      have h := HQ3.out
                      rw [if_pos] at h
                      · exact h
                      · unfold metT
                        rw [List.any_eq_true]
                        refine ⟨i, by simpa using hil, ?_⟩
                        have h2 : metC L i (j + 1) = true := by rw [HST.out]; rfl
                        unfold metC at h2 ⊢
                        obtain ⟨m, hm, h3⟩ := List.any_eq_true.1 h2
                        exact List.any_eq_true.2 ⟨m, by simp at hm ⊢; omega, h3⟩)
                    go_wp2
                    go_ret
                    exact ⟨by rw [HR.out]; rfl, HKK.out.alloc _⟩
                  · have c2' : ¬ (t2 : Int) = 0 := by omega
                    have c2'' : ((t2 : Int) == 0) = false := by simpa using c2'
                    have HST2 : Hid (metC L i (j + 1) = false) := Lib.hid (by rw [HST.out]; simp [c2])
                    go_wp2
                    go_roundg (i - (j + 1))
                    case measure => omega
                    case rel => exact ⟨j + 1, by omega, by go_num, Nat.le_refl _, HST2, Lib.hid (HKJ.out.alloc _)⟩
                · have c1' : ¬ (t1 : Int) = 0 := by omega
                  have c1'' : ((t1 : Int) == 0) = false := by simpa using c1'
                  have HST2 : Hid (metC L i (j + 1) = false) := Lib.hid (by rw [HST.out]; simp [c1])
                  go_wp2
                  go_roundg (i - (j + 1))
                  case measure => omega
                  case rel => exact ⟨j + 1, by omega, by go_num, Nat.le_refl _, HST2, Lib.hid (HKJ.out.alloc _)⟩
              · have hji : ¬ (j : Int) < (i : Int) := by omega
                have HMI : Hid (metT L (i + 1) = false) := Lib.hid (by
                  have hje : j = i := by omega
                  rw [hje] at HMJ
                  rw [metT_succ, HM.out, HMJ.out]; rfl)
                go_wp2
                go_roundg (n - (i + 1))
                case measure => omega
                case rel => exact ⟨i + 1, by omega, by go_num, Nat.le_refl _, HMI, Lib.hid (HKI.out.trans (HK5.out.trans HKJ.out))⟩
          · have hii : ¬ (i : Int) < (n : Int) := by omega
            have HR : Hid (q = 0) := Lib.hid (by
              have hie : i = n := by omega
              have h := HQ3.out
              rw [← hie, HM.out, if_neg (by simp)] at h
              exact h)
            go_wp2
            go_ret
            exact ⟨by rw [HR.out]; rfl, HKI.out⟩
end Go.Proofs.YthiemjodcklejaaGreatDoor

/-
  Walks: the weight of a cube, of disjoint and of the reference. Printed by gen_I9.py.
-/
namespace Go.Proofs.YthiemjodcklejaaGreatDoor
open Go.RowKit

theorem qOf_short {ps : List Rw} (hs : ∀ r ∈ ps, r.Short 3) {k : Nat} (hk : k < ps.length) : (ps.getD k default).Short 3 := by
  have e : ps.getD k default = ps[k] := by simp [List.getD_eq_getElem?_getD, hk]
  rw [e]; exact hs _ (List.getElem_mem hk)
theorem qOf_ok {ps : List Rw} (hs : ∀ r ∈ ps, r.Ok) {k : Nat} (hk : k < ps.length) : (ps.getD k default).Ok := by
  have e : ps.getD k default = ps[k] := by simp [List.getD_eq_getElem?_getD, hk]
  rw [e]; exact hs _ (List.getElem_mem hk)
theorem ratOf_one : ratOf (canR ((1 : Int) : Rat)) = 1 := by rw [ratOf_can]; rfl
theorem not_short {ps : List Rw} (hs : ∀ r ∈ ps, r.Short 3) (hok : ∀ r ∈ ps, r.Ok) {k : Nat} (hk : k < ps.length) : (canR (1 - qOf ps k)).Short 6 := by
  have h1 := short_neg (qOf_ok hok hk) (qOf_short hs hk) (by omega)
  have h := short_add (canR_ok ((1 : Int) : Rat)) (canR_ok (- ratOf (ps.getD k default))) one_short h1 (by omega) (by omega)
  rw [ratOf_one, ratOf_can, ← Rat.sub_eq_add_neg] at h
  exact ⟨Nat.le_trans h.1 (by omega), Nat.le_trans h.2 (by omega)⟩
set_option maxRecDepth 100000 in
set_option maxHeartbeats 16000000 in
theorem dweight_any (y n : Nat) (v : Value) (ps : List Rw) (w : World) (hy : y < 16777216) (hn : n < 16777216) (hv : RatsAt w v ps) (hp3 : ∀ r ∈ ps, r.Short 3) (hp30 : ps.length ≤ 30) :
    Calls Tryz.prog 111 #[.agg #[.int .i64 y, .int .i64 n], v] w fun e w' => (∃ v', e = .returned v' ∧ RatAt w' v' (canR (wQs ps (y, n) ps.length))) ∧ Kept w w' := by
  have HOF : Hid (∀ W, Calls Tryz.prog 24 #[.int .i64 1] W fun e w' => (∃ v', e = .returned v' ∧ RatAt w' v' (canR ((1 : Int) : Rat))) ∧ Kept W w') := Lib.hid fun W => rof_any 1 W (by omega) (by omega)
  have HHY := Lib.hid (fun (i : Nat) W => hasS_any y i hy W)
  have HHN := Lib.hid (fun (i : Nat) W => hasS_any n i hn W)
  have HSH := Lib.hid (fun k hk => wQ_short (c := (y, n)) hp3 hv.ok k hk)
  have HP3 := Lib.hid hp3
  have HOK := Lib.hid hv.ok
  have HV := Lib.hid hv
  obtain ⟨a, c, rfl⟩ := hv.shape
  obtain ⟨m, hm⟩ : ∃ m, m = ps.length := ⟨_, rfl⟩
  rw [← hm] at HV hp30 ⊢
  have HN := Lib.hid hm
  obtain ⟨R, hR⟩ : ∃ R, R = canR (wQs ps (y, n) m) := ⟨_, rfl⟩
  rw [← hR]
  have HRR := Lib.hid hR
  obtain ⟨w2, hw2⟩ : ∃ w2, w2 = (w.alloc (.cells #[.int .i64 y, .int .i64 n] 77)).alloc (.cells #[.bool false, .slice none 0 0, .slice none 0 0] 31) := ⟨_, rfl⟩
  have hbx := (RowAt.made w #[.int .i64 (y : Int), .int .i64 (n : Int)] 77).kept ((Kept.refl _).alloc (.cells #[.bool false, .slice none 0 0, .slice none 0 0] 31))
  have HMD := Lib.hid (res_made w (.cells #[.int .i64 y, .int .i64 n] 77))
  rw [← hw2] at hbx HMD
  have HW2 := Lib.hid hw2
  have b0 := hbx.cell (i := 0) (by simp)
  have b1 := hbx.cell (i := 1) (by simp)
  simp only [List.getElem_cons_succ, List.getElem_cons_zero] at b0 b1
  have HBB := Lib.hid (And.intro b0 b1)
  clear hm hv hp3 hy hn hw2 hbx hR b0 b1
  go_enter Tryz.func111, Tryz.ntmps111
  go_wp2_with fail
  rw [← HW2.out]
  refine (HOF.out _).mono ?_
  rintro e w3 ⟨⟨v3, rfl, hv3⟩, hk3⟩
  have HR3 := Lib.hid (HMD.out.1.kept hk3)
  have HF3 := Lib.hid (HMD.out.2.1.kept hk3)
  have HK3 := Lib.hid (HMD.out.2.2.trans hk3)
  have HC3 := Lib.hid (And.intro (hk3.cell HBB.out.1) (hk3.cell HBB.out.2))
  obtain ⟨u1, u2, rfl, h1, h2⟩ := hv3
  obtain ⟨a1, c1, rfl⟩ := h1.shape
  obtain ⟨a2, c2, rfl⟩ := h2.shape
  have HC : Hid (RatCell (w3.alloc (.cells #[.bool (canR ((1 : Int) : Rat)).neg, .slice a1 (canR ((1 : Int) : Rat)).num.length c1, .slice a2 (canR ((1 : Int) : Rat)).den.length c2] 31)) w3.heap.size (canR (wQs ps (y, n) 0))) := Lib.hid (RatCell.made h1 h2)
  obtain ⟨w4, hw4⟩ : ∃ w4, w4 = w3.alloc (.cells #[.bool (canR ((1 : Int) : Rat)).neg, .slice a1 (canR ((1 : Int) : Rat)).num.length c1, .slice a2 (canR ((1 : Int) : Rat)).den.length c2] 31) := ⟨_, rfl⟩
  have HW4 := Lib.hid hw4
  rw [← hw4] at HC
  have HK4 : Hid (Kept w3 w4) := Lib.hid (by rw [hw4]; exact (Kept.refl _).alloc _)
  generalize hg1 : (canR ((1 : Int) : Rat)).neg = o1 at HW4 ⊢
  generalize hg2 : (canR ((1 : Int) : Rat)).num.length = o2 at HW4 ⊢
  generalize hg3 : (canR ((1 : Int) : Rat)).den.length = o3 at HW4 ⊢
  clear h1 h2 hk3 hw4 hg1 hg2 hg3
  go_wp2_with fail
  rw [← HW4.out]
  go_loopg [11] m (fun kx s11 wr => ∃ k : Nat, k ≤ m ∧ s11 = .int .i64 k ∧ m - k ≤ kx ∧ Hid (RatCell wr w3.heap.size (canR (wQs ps (y, n) k))) ∧ Hid (Kept w3 wr))
  case atStart => exact ⟨0, Nat.zero_le _, rfl, by omega, HC, HK4⟩
  case round =>
    obtain ⟨k, hk, rfl, hkx, HX, HKr⟩ := hrel
    by_cases hlt : k < m
    · have hkn : (k : Int) < (m : Int) := by omega
      have hkl : k < ps.length := by have := HN.out; omega
      have HQS := Lib.hid (qOf_short HP3.out hkl)
      have HNS := Lib.hid (not_short HP3.out HOK.out hkl)
      have HXS := Lib.hid (HSH.out k (by omega))
      obtain ⟨b, o, u1, u2, rfl, hrg, hw1, hw2⟩ := HV.out.get k hkl
      obtain ⟨a3, c3, rfl⟩ := hw1.shape
      obtain ⟨a4, c4, rfl⟩ := hw2.shape
      have HKw := Lib.hid (HK3.out.trans HKr.out)
      have hrg2 := range_same hrg HKw.out
      have y0 := hrg2 0 _ rfl
      have y1 := hrg2 1 _ rfl
      have y2 := hrg2 2 _ rfl
      rw [Nat.add_zero] at y0
      obtain ⟨qn, hqn⟩ : ∃ qn, qn = (ps.getD k default).neg := ⟨_, rfl⟩
      obtain ⟨ql1, hql1⟩ : ∃ ql1, ql1 = (ps.getD k default).num.length := ⟨_, rfl⟩
      obtain ⟨ql2, hql2⟩ : ∃ ql2, ql2 = (ps.getD k default).den.length := ⟨_, rfl⟩
      have HQV : Hid (∀ W, Kept w3 W → RatAt W (.agg #[.bool qn, .slice a3 ql1 c3, .slice a4 ql2 c4]) (ps.getD k default)) := Lib.hid fun W h => ⟨_, _, by rw [hqn, hql1, hql2], hw1.kept (HK3.out.trans h), hw2.kept (HK3.out.trans h)⟩
      rw [← hqn] at y0
      rw [← hql1] at y1
      rw [← hql2] at y2
      have HSB : Hid (∀ W u1 u2, RatAt W u1 (canR ((1 : Int) : Rat)) → RatAt W u2 (ps.getD k default) → Calls Tryz.prog 25 #[u1, u2] W fun e w' => (∃ v', e = .returned v' ∧ RatAt w' v' (canR (1 - qOf ps k))) ∧ Kept W w') := Lib.hid fun W u1 u2 h1 h2 => by
        have h := rsub_any u1 u2 _ _ W h1 h2 ⟨Nat.le_trans one_short.1 (by omega), Nat.le_trans one_short.2 (by omega)⟩ ⟨Nat.le_trans HQS.out.1 (by omega), Nat.le_trans HQS.out.2 (by omega)⟩
        rw [ratOf_one] at h
        exact h
      have k0 := HKr.out.cell HC3.out.1
      obtain ⟨wo, rfl⟩ : ∃ wo : World, wo = wr := ⟨_, rfl⟩
      obtain ⟨w5, hw5⟩ : ∃ w5, w5 = wo.alloc (.cells #[.bool qn, .slice a3 ql1 c3, .slice a4 ql2 c4] 31) := ⟨_, rfl⟩
      have HK5 : Hid (Kept wo w5) := Lib.hid (by rw [hw5]; exact (Kept.refl _).alloc _)
      have HX5 := Lib.hid (HX.out.kept HK5.out)
      have HQ5 : Hid (RowAt w5 wo.heap.size 31 [.bool qn, .slice a3 ql1 c3, .slice a4 ql2 c4]) := Lib.hid (by rw [hw5]; exact RowAt.made wo #[.bool qn, .slice a3 ql1 c3, .slice a4 ql2 c4] 31)
      have HK35 := Lib.hid (HKr.out.trans HK5.out)
      have HNE : Hid (wo.heap.size ≠ w3.heap.size) := Lib.hid (by have := HX.out; obtain ⟨_, _, _, _, h, _⟩ := this; have := h.lt; omega)
      have k01 := HKr.out.cell HC3.out.2
      have k05 := HK5.out.cell k0
      have k15 := HK5.out.cell k01
      have hc3 := World.block_lt_of_cell? _ _ HC3.out.1
      have hcl5 := World.block_lt_of_cell? _ _ k05
      have HW5 := Lib.hid hw5
      clear hrg hrg2 hw1 hw2 hqn hql1 hql2 hw5
      have hcl0 := World.block_lt_of_cell? _ _ k0
      cases hb1 : y.testBit k with
      | false =>
        have HCH1 : Hid (∀ W, Calls Tryz.prog 132 #[.int .i64 y, .int .i64 k] W fun e w' => e = .returned (.bool false) ∧ w' = W) := Lib.hid fun W => by have h := HHY.out k W; rw [hb1] at h; exact h
        obtain ⟨Yk, hYk⟩ : ∃ Yk, Yk = wQs ps (y, n) k := ⟨_, rfl⟩
        have HS2 : Hid (wQs ps (y, n) (k + 1) = Yk * if n.testBit k = true then 1 - qOf ps k else 1) := Lib.hid (by
          rw [hYk]
          show (wQ (qOf ps) (y, n) k * (if y.testBit k = true then qOf ps k else 1)) * _ = _
          rw [if_neg (by rw [hb1]; simp), Rat.mul_one]
          rfl)
        have HYS : Hid ((canR Yk).Short (12 * k + 7)) := Lib.hid (by rw [hYk]; exact ⟨Nat.le_trans HXS.out.1 (by omega), Nat.le_trans HXS.out.2 (by omega)⟩)
        rw [← hYk] at HX5
        have HXW := HX5
        have HKX := HK35
        have HQW := HQ5
        clear hb1 hYk
        go_wp2_with (go_at_call 132; (with_reducible refine (HCH1.out _).mono ?_); rintro e w6 ⟨rfl, h6⟩; rw [h6, ← HW5.out]; clear h6)
        obtain ⟨a5, c5, a6, c6, ⟨x0, x1, x2⟩, ⟨f0, f1, f2⟩, hgl, hxa⟩ := HXW.out.at
        have HXA := Lib.hid hxa
        have q0 := HQW.out.cell (i := 0) (by simp)
        have q1 := HQW.out.cell (i := 1) (by simp)
        have q2 := HQW.out.cell (i := 2) (by simp)
        simp only [List.getElem_cons_succ, List.getElem_cons_zero] at q0 q1 q2
        have hql := HQW.out.lt
        have k1 := HKX.out.cell HC3.out.2
        have hcl := World.block_lt_of_cell? _ _ k1
        generalize (canR Yk).neg = z3 at *
        generalize (canR Yk).num.length = z4 at *
        generalize (canR Yk).den.length = z5 at *
        clear hxa
        cases hb2 : n.testBit k with
        | false =>
          have HCH2 : Hid (∀ W, Calls Tryz.prog 132 #[.int .i64 n, .int .i64 k] W fun e w' => e = .returned (.bool false) ∧ w' = W) := Lib.hid fun W => by have h := HHN.out k W; rw [hb2] at h; exact h
          have HE : Hid (canR (wQs ps (y, n) (k + 1)) = canR Yk) := Lib.hid (by rw [HS2.out, if_neg (by rw [hb2]; simp), Rat.mul_one])
          clear hb2
          refine (HCH2.out _).mono ?_
          rintro e w8 ⟨rfl, h8⟩
          rw [h8]
          clear h8
          go_wp2_with fail
          go_roundg (m - (k + 1))
          case measure => omega
          case rel => exact ⟨k + 1, by omega, by go_num, Nat.le_refl _, Lib.hid (by rw [HE.out]; exact HXW.out), HKX⟩
        | true =>
          have HCH2 : Hid (∀ W, Calls Tryz.prog 132 #[.int .i64 n, .int .i64 k] W fun e w' => e = .returned (.bool true) ∧ w' = W) := Lib.hid fun W => by have h := HHN.out k W; rw [hb2] at h; exact h
          have HE : Hid (canR (wQs ps (y, n) (k + 1)) = canR (ratOf (canR Yk) * ratOf (canR (1 - qOf ps k)))) := Lib.hid (by rw [HS2.out, if_pos hb2, ratOf_can, ratOf_can])
          have HM2 : Hid (∀ W u1 u2, RatAt W u1 (canR Yk) → RatAt W u2 (canR (1 - qOf ps k)) → Calls Tryz.prog 26 #[u1, u2] W fun e w' => (∃ v', e = .returned v' ∧ RatAt w' v' (canR (wQs ps (y, n) (k + 1)))) ∧ Kept W w') := Lib.hid fun W u1 u2 h1 h2 => by
            rw [HE.out]
            exact rmul_any u1 u2 _ _ W h1 h2 ⟨Nat.le_trans HYS.out.1 (by omega), Nat.le_trans HYS.out.2 (by omega)⟩ ⟨Nat.le_trans HNS.out.1 (by omega), Nat.le_trans HNS.out.2 (by omega)⟩
          clear hb2
          have HQR : Hid (∀ W, Kept w5 W → RatAt W (.agg #[.bool qn, .slice a3 ql1 c3, .slice a4 ql2 c4]) (ps.getD k default)) := Lib.hid fun W h => HQV.out W (HKX.out.trans h)
          refine (HCH2.out _).mono ?_
          rintro e w8 ⟨rfl, h8⟩
          rw [h8]
          clear h8
          go_wp2_with fail
          go_region_with (first
            | (go_at_call 24; (with_reducible refine (HOF.out _).mono ?_); rintro e w8 ⟨⟨v8, rfl, hv8⟩, hk8⟩; have hkd := (Kept.refl w5).drew.trans hk8; have i0 := hkd.cell x0; have i1 := hkd.cell x1; have i2 := hkd.cell x2; have j0 := hkd.cell q0; have j1 := hkd.cell q1; have j2 := hkd.cell q2; have HX8 := Lib.hid (HXW.out.kept hkd); have HXA8 := Lib.hid (HXA.out.kept hkd); have HQ8 := Lib.hid (HQR.out _ hkd); have HK8 := Lib.hid (HKX.out.trans hkd); have HV8 := Lib.hid hv8; clear hk8 hkd hv8)
            | (go_at_call 25; (with_reducible refine (HSB.out _ _ _ HV8.out HQ8.out).mono ?_); rintro e w9 ⟨⟨v9, rfl, hv9⟩, hk9⟩; have l0 := hk9.cell i0; have l1 := hk9.cell i1; have l2 := hk9.cell i2; have HX9 := Lib.hid (HX8.out.kept hk9); have HXA9 := Lib.hid (HXA8.out.kept hk9); have HK9 := Lib.hid (HK8.out.trans hk9); have HV9 := Lib.hid hv9; clear hk9 hv9)
            | (go_at_call 26; (with_reducible refine (HM2.out _ _ _ HXA9.out HV9.out).mono ?_); rintro e w7 ⟨⟨v7, rfl, hv7⟩, hk7⟩; have HX7 := Lib.hid (HX9.out.kept hk7); have HK7 := Lib.hid (HK9.out.trans hk7); obtain ⟨u7, u8, rfl, k7, k8⟩ := hv7; obtain ⟨a7, c7, rfl⟩ := k7.shape; obtain ⟨a8, c8, rfl⟩ := k8.shape; have K7 := Lib.hid k7; have K8 := Lib.hid k8; obtain ⟨_, _, _, _, ⟨t0, t1, t2⟩, ⟨j0, j1, j2⟩, hgl6, _⟩ := HX7.out.at; clear k7 k8 hk7))
          all_goals
            have HS := Lib.hid (HX7.out.store K7.out K8.out)
            generalize (canR (wQs ps (y, n) (k + 1))).num.length = n7 at *
            generalize (canR (wQs ps (y, n) (k + 1))).den.length = n8 at *
            go_wp2_with fail
            go_roundg (m - (k + 1))
            case measure => omega
            case rel => exact ⟨k + 1, by omega, by go_num, Nat.le_refl _, HS, Lib.hid (((HK7.out.store (Nat.le_refl _) _ _).store (Nat.le_refl _) _ _).store (Nat.le_refl _) _ _)⟩
      | true =>
        have HCH1 : Hid (∀ W, Calls Tryz.prog 132 #[.int .i64 y, .int .i64 k] W fun e w' => e = .returned (.bool true) ∧ w' = W) := Lib.hid fun W => by have h := HHY.out k W; rw [hb1] at h; exact h
        obtain ⟨Yk, hYk⟩ : ∃ Yk, Yk = wQs ps (y, n) k * qOf ps k := ⟨_, rfl⟩
        have HS2 : Hid (wQs ps (y, n) (k + 1) = Yk * if n.testBit k = true then 1 - qOf ps k else 1) := Lib.hid (by
          rw [hYk]
          show (wQ (qOf ps) (y, n) k * (if y.testBit k = true then qOf ps k else 1)) * _ = _
          rw [if_pos hb1]
          rfl)
        have HYS : Hid ((canR Yk).Short (12 * k + 7)) := Lib.hid (by
          have h := short_mul (canR_ok (wQs ps (y, n) k)) (qOf_ok HOK.out hkl) HXS.out HQS.out (by omega) (by omega)
          rw [ratOf_can] at h
          rw [hYk]
          exact ⟨Nat.le_trans h.1 (by omega), Nat.le_trans h.2 (by omega)⟩)
        have HM1 : Hid (∀ W u1 u2, RatAt W u1 (canR (wQs ps (y, n) k)) → RatAt W u2 (ps.getD k default) → Calls Tryz.prog 26 #[u1, u2] W fun e w' => (∃ v', e = .returned v' ∧ RatAt w' v' (canR Yk)) ∧ Kept W w') := Lib.hid fun W u1 u2 h1 h2 => by
          have h := rmul_any u1 u2 _ _ W h1 h2 ⟨Nat.le_trans HXS.out.1 (by omega), Nat.le_trans HXS.out.2 (by omega)⟩ ⟨Nat.le_trans HQS.out.1 (by omega), Nat.le_trans HQS.out.2 (by omega)⟩
          rw [ratOf_can] at h
          rw [hYk]
          exact h
        obtain ⟨a5, c5, a6, c6, ⟨x0, x1, x2⟩, ⟨f0, f1, f2⟩, hgl, hxa⟩ := HX5.out.at
        have HXA := Lib.hid hxa
        have q0 := HQ5.out.cell (i := 0) (by simp)
        have q1 := HQ5.out.cell (i := 1) (by simp)
        have q2 := HQ5.out.cell (i := 2) (by simp)
        simp only [List.getElem_cons_succ, List.getElem_cons_zero] at q0 q1 q2
        have HQR := Lib.hid (HQV.out w5 HK35.out)
        generalize (canR (wQs ps (y, n) k)).neg = z0 at *
        generalize (canR (wQs ps (y, n) k)).num.length = z1 at *
        generalize (canR (wQs ps (y, n) k)).den.length = z2 at *
        clear hb1 hYk hxa
        go_wp2_with (go_at_call 132; (with_reducible refine (HCH1.out _).mono ?_); rintro e w6 ⟨rfl, h6⟩; rw [h6, ← HW5.out]; clear h6)
        refine (HM1.out _ _ _ HXA.out HQR.out).mono ?_
        rintro e w6 ⟨⟨v6, rfl, hv6⟩, hk6⟩
        have HX6 := Lib.hid (HX5.out.kept hk6)
        have HK6 := Lib.hid (HK35.out.trans hk6)
        have HQ6 := Lib.hid (HQ5.out.kept hk6)
        have k06 := hk6.cell k05
        have k16 := hk6.cell k15
        have hn3 : ¬ w.heap.size = w3.heap.size := by omega
        obtain ⟨u7, u8, rfl, k7, k8⟩ := hv6
        obtain ⟨a7, c7, rfl⟩ := k7.shape
        obtain ⟨a8, c8, rfl⟩ := k8.shape
        obtain ⟨_, _, _, _, ⟨i0, i1, i2⟩, ⟨j0, j1, j2⟩, hgl6, _⟩ := HX6.out.at
        have HS := Lib.hid (HX6.out.store k7 k8)
        have HKS := Lib.hid (((HK6.out.store (Nat.le_refl _) 0 (.bool (canR Yk).neg)).store (Nat.le_refl _) 1 (.slice a7 (canR Yk).num.length c7)).store (Nat.le_refl _) 2 (.slice a8 (canR Yk).den.length c8))
        have HQS6 := Lib.hid ((OnlyAt.row ((((OnlyAt.refl w3.heap.size w6).store 0 (.bool (canR Yk).neg)).store 1 (.slice a7 (canR Yk).num.length c7)).store 2 (.slice a8 (canR Yk).den.length c8)) HQ6.out HNE.out))
        obtain ⟨w7, hw7⟩ : ∃ w7, w7 = ((w6.setCell ⟨w3.heap.size, 0, none⟩ (.bool (canR Yk).neg)).setCell ⟨w3.heap.size, 1, none⟩ (.slice a7 (canR Yk).num.length c7)).setCell ⟨w3.heap.size, 2, none⟩ (.slice a8 (canR Yk).den.length c8) := ⟨_, rfl⟩
        rw [← hw7] at HS HKS HQS6
        have HW7 := Lib.hid hw7
        have HXW := HS
        have HKX := HKS
        have HQW := HQS6
        generalize (canR Yk).neg = z6 at HW7 ⊢
        generalize (canR Yk).num.length = z7 at HW7 ⊢
        generalize (canR Yk).den.length = z8 at HW7 ⊢
        clear k7 k8 hk6 hw7 x0 x1 x2 f0 f1 f2 hgl q0 q1 q2
        go_wp2_with fail
        rw [← HW7.out]
        obtain ⟨a5, c5, a6, c6, ⟨x0, x1, x2⟩, ⟨f0, f1, f2⟩, hgl, hxa⟩ := HXW.out.at
        have HXA := Lib.hid hxa
        have q0 := HQW.out.cell (i := 0) (by simp)
        have q1 := HQW.out.cell (i := 1) (by simp)
        have q2 := HQW.out.cell (i := 2) (by simp)
        simp only [List.getElem_cons_succ, List.getElem_cons_zero] at q0 q1 q2
        have hql := HQW.out.lt
        have k1 := HKX.out.cell HC3.out.2
        have hcl := World.block_lt_of_cell? _ _ k1
        generalize (canR Yk).neg = z3 at *
        generalize (canR Yk).num.length = z4 at *
        generalize (canR Yk).den.length = z5 at *
        clear hxa
        cases hb2 : n.testBit k with
        | false =>
          have HCH2 : Hid (∀ W, Calls Tryz.prog 132 #[.int .i64 n, .int .i64 k] W fun e w' => e = .returned (.bool false) ∧ w' = W) := Lib.hid fun W => by have h := HHN.out k W; rw [hb2] at h; exact h
          have HE : Hid (canR (wQs ps (y, n) (k + 1)) = canR Yk) := Lib.hid (by rw [HS2.out, if_neg (by rw [hb2]; simp), Rat.mul_one])
          clear hb2
          refine (HCH2.out _).mono ?_
          rintro e w8 ⟨rfl, h8⟩
          rw [h8]
          clear h8
          go_wp2_with fail
          go_roundg (m - (k + 1))
          case measure => omega
          case rel => exact ⟨k + 1, by omega, by go_num, Nat.le_refl _, Lib.hid (by rw [HE.out]; exact HXW.out), HKX⟩
        | true =>
          have HCH2 : Hid (∀ W, Calls Tryz.prog 132 #[.int .i64 n, .int .i64 k] W fun e w' => e = .returned (.bool true) ∧ w' = W) := Lib.hid fun W => by have h := HHN.out k W; rw [hb2] at h; exact h
          have HE : Hid (canR (wQs ps (y, n) (k + 1)) = canR (ratOf (canR Yk) * ratOf (canR (1 - qOf ps k)))) := Lib.hid (by rw [HS2.out, if_pos hb2, ratOf_can, ratOf_can])
          have HM2 : Hid (∀ W u1 u2, RatAt W u1 (canR Yk) → RatAt W u2 (canR (1 - qOf ps k)) → Calls Tryz.prog 26 #[u1, u2] W fun e w' => (∃ v', e = .returned v' ∧ RatAt w' v' (canR (wQs ps (y, n) (k + 1)))) ∧ Kept W w') := Lib.hid fun W u1 u2 h1 h2 => by
            rw [HE.out]
            exact rmul_any u1 u2 _ _ W h1 h2 ⟨Nat.le_trans HYS.out.1 (by omega), Nat.le_trans HYS.out.2 (by omega)⟩ ⟨Nat.le_trans HNS.out.1 (by omega), Nat.le_trans HNS.out.2 (by omega)⟩
          clear hb2
          have HQR : Hid (∀ W, Kept w7 W → RatAt W (.agg #[.bool qn, .slice a3 ql1 c3, .slice a4 ql2 c4]) (ps.getD k default)) := Lib.hid fun W h => HQV.out W (HKX.out.trans h)
          refine (HCH2.out _).mono ?_
          rintro e w8 ⟨rfl, h8⟩
          rw [h8]
          clear h8
          go_wp2_with fail
          go_region_with (first
            | (go_at_call 24; (with_reducible refine (HOF.out _).mono ?_); rintro e w8 ⟨⟨v8, rfl, hv8⟩, hk8⟩; have hkd := (Kept.refl w7).drew.trans hk8; have i0 := hkd.cell x0; have i1 := hkd.cell x1; have i2 := hkd.cell x2; have j0 := hkd.cell q0; have j1 := hkd.cell q1; have j2 := hkd.cell q2; have HX8 := Lib.hid (HXW.out.kept hkd); have HXA8 := Lib.hid (HXA.out.kept hkd); have HQ8 := Lib.hid (HQR.out _ hkd); have HK8 := Lib.hid (HKX.out.trans hkd); have HV8 := Lib.hid hv8; clear hk8 hkd hv8)
            | (go_at_call 25; (with_reducible refine (HSB.out _ _ _ HV8.out HQ8.out).mono ?_); rintro e w9 ⟨⟨v9, rfl, hv9⟩, hk9⟩; have l0 := hk9.cell i0; have l1 := hk9.cell i1; have l2 := hk9.cell i2; have HX9 := Lib.hid (HX8.out.kept hk9); have HXA9 := Lib.hid (HXA8.out.kept hk9); have HK9 := Lib.hid (HK8.out.trans hk9); have HV9 := Lib.hid hv9; clear hk9 hv9)
            | (go_at_call 26; (with_reducible refine (HM2.out _ _ _ HXA9.out HV9.out).mono ?_); rintro e w7 ⟨⟨v7, rfl, hv7⟩, hk7⟩; have HX7 := Lib.hid (HX9.out.kept hk7); have HK7 := Lib.hid (HK9.out.trans hk7); obtain ⟨u7, u8, rfl, k7, k8⟩ := hv7; obtain ⟨a7, c7, rfl⟩ := k7.shape; obtain ⟨a8, c8, rfl⟩ := k8.shape; have K7 := Lib.hid k7; have K8 := Lib.hid k8; obtain ⟨_, _, _, _, ⟨t0, t1, t2⟩, ⟨j0, j1, j2⟩, hgl6, _⟩ := HX7.out.at; clear k7 k8 hk7))
          all_goals
            have HS := Lib.hid (HX7.out.store K7.out K8.out)
            generalize (canR (wQs ps (y, n) (k + 1))).num.length = n7 at *
            generalize (canR (wQs ps (y, n) (k + 1))).den.length = n8 at *
            go_wp2_with fail
            go_roundg (m - (k + 1))
            case measure => omega
            case rel => exact ⟨k + 1, by omega, by go_num, Nat.le_refl _, HS, Lib.hid (((HK7.out.store (Nat.le_refl _) _ _).store (Nat.le_refl _) _ _).store (Nat.le_refl _) _ _)⟩
    · have hke : k = m := by omega
      have hkn : ¬ (k : Int) < (m : Int) := by omega
      have HX2 : Hid (RatCell wr w3.heap.size R) := Lib.hid (by rw [HRR.out, ← hke]; exact HX.out)
      have hrr := HR3.out.kept HKr.out
      have HFF := Lib.hid (HF3.out.kept HKr.out)
      obtain ⟨a5, c5, a6, c6, ⟨x0, x1, x2⟩, _, hgl, u7, u8, e9, k7, k8⟩ := HX2.out.at
      simp only [Value.agg.injEq] at e9
      have e9' := congrArg Array.toList e9
      simp at e9'
      obtain ⟨rfl, rfl⟩ := e9'
      obtain ⟨y0, y1, y2, hra⟩ := rat_stored hrr HFF.out k7 k8
      have g0 := hrr.cell (i := 0) (by simp)
      have g1 := hrr.cell (i := 1) (by simp)
      have g2 := hrr.cell (i := 2) (by simp)
      have f0 := hrr.free 0
      have f1 := hrr.free 1
      have f2 := hrr.free 2
      have hlt5 := hrr.lt
      have HRA := Lib.hid hra
      have Y0 := Lib.hid y0
      have Y1 := Lib.hid y1
      have Y2 := Lib.hid y2
      have HKw := Lib.hid (HK3.out.trans HKr.out)
      clear hra y0 y1 y2 k7 k8 hrr e9 hke
      generalize R.num.length = n7 at *
      generalize R.den.length = n8 at *
      go_wp2
      refine bodyPost_ret (v := .agg #[.bool R.neg, .slice a5 n7 c5, .slice a6 n8 c6]) ?_ rfl ⟨⟨_, rfl, HRA.out⟩, ?_⟩
      · simp [results, Tryz.results111, go_sem, Y0.out, Y1.out, Y2.out]
      · exact ((HKw.out.store (by omega) _ _).store (by omega) _ _).store (by omega) _ _
end Go.Proofs.YthiemjodcklejaaGreatDoor

/-
  Walk: disjoint.total. Printed by gen_I10.py.
-/
namespace Go.Proofs.YthiemjodcklejaaGreatDoor
open Go.RowKit

set_option maxRecDepth 100000 in
set_option maxHeartbeats 16000000 in
theorem dtotal_any (cv v : Value) (L : List (Nat × Nat)) (ps : List Rw) (w : World) (hc : CbsAt w cv (ofCs L)) (hb : ∀ c ∈ L, c.1 < 16777216 ∧ c.2 < 16777216) (hL : L.length ≤ 1024) (hv : RatsAt w v ps) (hp3 : ∀ r ∈ ps, r.Short 3) (hp30 : ps.length ≤ 30) :
    Calls Tryz.prog 56 #[cv, v] w fun e w' => (∃ v', e = .returned v' ∧ RatAt w' v' (canR (sumWs ps L L.length))) ∧ Kept w w' := by
  have HPR : Hid (∀ (y n : Nat) W, y < 16777216 → n < 16777216 → Kept w W → Calls Tryz.prog 111 #[.agg #[.int .i64 y, .int .i64 n], v] W fun e w' => (∃ v', e = .returned v' ∧ RatAt w' v' (canR (wQs ps (y, n) ps.length))) ∧ Kept W w') := Lib.hid fun y n W h1 h2 hk => dweight_any y n v ps W h1 h2 (hv.kept hk) hp3 hp30
  have HSS := Lib.hid (fun k hk => sumWs_short (l := L) hp3 hv.ok hp30 k hk)
  have HPS := Lib.hid (fun c => wQ_short (c := c) hp3 hv.ok ps.length (Nat.le_refl _))
  have HV := Lib.hid hc
  have HB := Lib.hid hb
  obtain ⟨ca, cc, rfl⟩ := hc.shape
  obtain ⟨a, c, rfl⟩ := hv.shape
  rw [ofCs_len] at HV ⊢
  obtain ⟨m, hm⟩ : ∃ m, m = L.length := ⟨_, rfl⟩
  rw [← hm] at HV hL HSS ⊢
  have HM := Lib.hid hm
  obtain ⟨pn, hpn⟩ : ∃ pn, pn = ps.length := ⟨_, rfl⟩
  rw [← hpn] at HPR HPS hp30 ⊢
  have HPN := Lib.hid hpn
  obtain ⟨R, hR⟩ : ∃ R, R = canR (sumWs ps L m) := ⟨_, rfl⟩
  rw [← hR]
  have HRR := Lib.hid hR
  obtain ⟨w1, hw1⟩ : ∃ w1, w1 = w.alloc (.cells #[.bool false, .slice none 0 0, .slice none 0 0] 31) := ⟨_, rfl⟩
  have HR1 : Hid (RowAt w1 w.heap.size 31 [.bool false, .slice none 0 0, .slice none 0 0]) := Lib.hid (by rw [hw1]; exact RowAt.made w #[.bool false, .slice none 0 0, .slice none 0 0] 31)
  have HF1 : Hid (FixAt w1 w.heap.size [.bool false, .slice none 0 0, .slice none 0 0]) := Lib.hid (by rw [hw1]; exact FixAt.made w #[.bool false, .slice none 0 0, .slice none 0 0] 31)
  have HK1 : Hid (Kept w w1) := Lib.hid (by rw [hw1]; exact (Kept.refl _).alloc _)
  have HS1 : Hid (w1.heap.size = w.heap.size + 1) := Lib.hid (by rw [hw1]; simp)
  obtain ⟨w2, hw2⟩ : ∃ w2, w2 = w1.alloc (.cells #[.bool false, .slice none 0 0, .slice none 0 0] 31) := ⟨_, rfl⟩
  have HC : Hid (RatCell w2 w1.heap.size (canR (sumWs ps L 0))) := Lib.hid (by rw [hw2]; exact RatCell.made (r := ⟨false, [], []⟩) (WdsAt.nil w1) (WdsAt.nil w1))
  have HK2 : Hid (Kept w1 w2) := Lib.hid (by rw [hw2]; exact (Kept.refl _).alloc _)
  have HW1 := Lib.hid hw1
  have HW2 := Lib.hid hw2
  clear hm hc hv hp3 hb hpn hR hw1 hw2
  go_enter Tryz.func56, Tryz.ntmps56
  go_wp2_with fail
  rw [← HW1.out, ← HS1.out, ← HW2.out]
  go_loopg [10] m (fun kx s10 wq => ∃ j : Nat, j ≤ m ∧ s10 = .int .i64 j ∧ m - j ≤ kx ∧ Hid (RatCell wq w1.heap.size (canR (sumWs ps L j))) ∧ Hid (Kept w1 wq))
  case atStart => exact ⟨0, Nat.zero_le _, rfl, by omega, HC, HK2⟩
  case round =>
    obtain ⟨j, hj, rfl, hjx, HX, HKq⟩ := hrel
    have HKw2 := Lib.hid (HK1.out.trans HKq.out)
    by_cases hjm : j < m
    · have hjl : j < L.length := by have := HM.out; omega
      obtain ⟨b, o, rfl, g1, g2⟩ := HV.out.get j (by rw [ofCs_len]; exact hjl)
      have eC : (ofCs L).getD j default = ofC L[j] := ofCs_getD hjl
      rw [eC] at g1 g2
      obtain ⟨y, hy⟩ : ∃ y, y = L[j].1 := ⟨_, rfl⟩
      obtain ⟨n, hn⟩ : ∃ n, n = L[j].2 := ⟨_, rfl⟩
      have eL : L[j] = (y, n) := by rw [hy, hn]
      have hbd := HB.out L[j] (List.getElem_mem hjl)
      rw [eL] at g1 g2 hbd
      have x1 := HKw2.out.cell g1
      have x2 := HKw2.out.cell g2
      rw [← Nat.add_assoc] at x2
      simp only [ofC] at x1 x2
      have HP := Lib.hid (fun W (h : Kept w W) => HPR.out y n W hbd.1 hbd.2 h)
      have HST : Hid (canR (sumWs ps L (j + 1)) = canR (ratOf (canR (sumWs ps L j)) + ratOf (canR (wQs ps (y, n) pn)))) := Lib.hid (by rw [sumWs_succ hjl, ratOf_can, ratOf_can, HPN.out, eL])
      have hsk := HSS.out j (by omega)
      have hps := HPS.out (y, n)
      have hji : (j : Int) < (m : Int) := by omega
      have HAD : Hid (∀ W u1 u2, RatAt W u1 (canR (sumWs ps L j)) → RatAt W u2 (canR (wQs ps (y, n) pn)) → Calls Tryz.prog 27 #[u1, u2] W fun e w' => (∃ v', e = .returned v' ∧ RatAt w' v' (canR (sumWs ps L (j + 1)))) ∧ Kept W w') := Lib.hid fun W u1 u2 k1 k2 => by
        rw [HST.out]
        exact radd_any u1 u2 _ _ W k1 k2 ⟨Nat.le_trans hsk.1 (by omega), Nat.le_trans hsk.2 (by omega)⟩ ⟨Nat.le_trans hps.1 (by omega), Nat.le_trans hps.2 (by omega)⟩
      obtain ⟨wo, rfl⟩ : ∃ wo : World, wo = wr := ⟨_, rfl⟩
      obtain ⟨w5, hw5⟩ : ∃ w5, w5 = wo.alloc (.cells #[.int .i64 (y : Int), .int .i64 (n : Int)] 77) := ⟨_, rfl⟩
      have HK5 : Hid (Kept wo w5) := Lib.hid (by rw [hw5]; exact (Kept.refl _).alloc _)
      have hq5 := RowAt.made wo #[.int .i64 (y : Int), .int .i64 (n : Int)] 77
      rw [← hw5] at hq5
      have q0 := hq5.cell (i := 0) (by simp)
      have q1 := hq5.cell (i := 1) (by simp)
      simp only [List.getElem_cons_succ, List.getElem_cons_zero] at q0 q1
      have hql := hq5.lt
      have HX5 := Lib.hid (HX.out.kept HK5.out)
      have HKq5 := Lib.hid (HKq.out.trans HK5.out)
      have HKw5 := Lib.hid (HKw2.out.trans HK5.out)
      obtain ⟨a5, c5, a6, c6, ⟨x0, x3, x4⟩, ⟨f0, f1, f2⟩, hgl, hxa⟩ := HX5.out.at
      have HXA := Lib.hid hxa
      have HW5 := Lib.hid hw5
      generalize (canR (sumWs ps L j)).neg = z3 at *
      generalize (canR (sumWs ps L j)).num.length = z4 at *
      generalize (canR (sumWs ps L j)).den.length = z5 at *
      clear g1 g2 eC hsk hps hxa hy hn hw5 hq5
      go_wp2_with fail
      rw [← HW5.out]
      go_region_with (first
        | (go_at_call 111; (with_reducible refine (HP.out _ (HKw5.out.drew)).mono ?_); rintro e w6 ⟨⟨v6, rfl, hv6⟩, hk6⟩; have hkd := (Kept.refl _).drew.trans hk6; have i0 := hkd.cell x0; have i1 := hkd.cell x3; have i2 := hkd.cell x4; have HX6 := Lib.hid (HX5.out.kept hkd); have HXA6 := Lib.hid (HXA.out.kept hkd); have HK6 := Lib.hid (HKq5.out.trans hkd); have HV6 := Lib.hid hv6; clear hk6 hkd hv6)
        | (go_at_call 27; (with_reducible refine (HAD.out _ _ _ HXA6.out HV6.out).mono ?_); rintro e w7 ⟨⟨v7, rfl, hv7⟩, hk7⟩; have HX7 := Lib.hid (HX6.out.kept hk7); have HK7 := Lib.hid (HK6.out.trans hk7); obtain ⟨u7, u8, rfl, k7, k8⟩ := hv7; obtain ⟨a7, c7, rfl⟩ := k7.shape; obtain ⟨a8, c8, rfl⟩ := k8.shape; have K7 := Lib.hid k7; have K8 := Lib.hid k8; obtain ⟨_, _, _, _, ⟨t0, t1, t2⟩, ⟨j0, j1, j2⟩, hgl6, _⟩ := HX7.out.at; clear k7 k8 hk7))
      all_goals
        have HS := Lib.hid (HX7.out.store K7.out K8.out)
        generalize (canR (sumWs ps L (j + 1))).num.length = n7 at *
        generalize (canR (sumWs ps L (j + 1))).den.length = n8 at *
        go_wp2_with fail
        go_roundg (m - (j + 1))
        case measure => omega
        case rel => exact ⟨j + 1, by omega, by go_num, Nat.le_refl _, HS, Lib.hid (((HK7.out.store (Nat.le_refl _) _ _).store (Nat.le_refl _) _ _).store (Nat.le_refl _) _ _)⟩
    · have hje : j = m := by omega
      have hji : ¬ (j : Int) < (m : Int) := by omega
      have HX2 : Hid (RatCell wr w1.heap.size R) := Lib.hid (by rw [HRR.out, ← hje]; exact HX.out)
      have hrr := HR1.out.kept HKq.out
      have HFF := Lib.hid (HF1.out.kept HKq.out)
      obtain ⟨a5, c5, a6, c6, ⟨x0, x1, x2⟩, _, hgl, u7, u8, e9, k7, k8⟩ := HX2.out.at
      simp only [Value.agg.injEq] at e9
      have e9' := congrArg Array.toList e9
      simp at e9'
      obtain ⟨rfl, rfl⟩ := e9'
      obtain ⟨y0, y1, y2, hra⟩ := rat_stored hrr HFF.out k7 k8
      have g0 := hrr.cell (i := 0) (by simp)
      have g1 := hrr.cell (i := 1) (by simp)
      have g2 := hrr.cell (i := 2) (by simp)
      have f0 := hrr.free 0
      have f1 := hrr.free 1
      have f2 := hrr.free 2
      have hlt5 := hrr.lt
      have HRA := Lib.hid hra
      have Y := Lib.hid (And.intro y0 (And.intro y1 y2))
      clear hra y0 y1 y2 k7 k8 hrr e9
      clear hje
      generalize R.num.length = n7 at *
      generalize R.den.length = n8 at *
      go_wp2
      refine bodyPost_ret (v := .agg #[.bool R.neg, .slice a5 n7 c5, .slice a6 n8 c6]) ?_ rfl ⟨⟨_, rfl, HRA.out⟩, ?_⟩
      · simp [results, Tryz.results56, go_sem, Y.out.1, Y.out.2.1, Y.out.2.2]
      · exact ((HKw2.out.store (by omega) _ _).store (by omega) _ _).store (by omega) _ _
end Go.Proofs.YthiemjodcklejaaGreatDoor

/-
  Walks: the reference's CheckList and Check of disjoint cubes.
-/
namespace Go.Proofs.YthiemjodcklejaaGreatDoor
open Go.RowKit

/-- The number of CheckList's error. -/
def chkL (L : List (Int × Int)) : Nat := if 1024 < L.length then 4 else chkCs L
end Go.Proofs.YthiemjodcklejaaGreatDoor

/-
  Walks: disjoint.less and the reference's less.
-/
namespace Go.Proofs.YthiemjodcklejaaGreatDoor
open Go.RowKit

/-- The events of a cube behind some steps. -/
def lessY (y : Nat) (is : List Nat) : Nat := is.foldl (fun y i => y ||| 2 ^ i) y
theorem lessY_bit (j : Nat) : ∀ (is : List Nat) (y : Nat), (lessY y is).testBit j = (y.testBit j || decide (j ∈ is)) := by
  intro is
  induction is with
  | nil => intro y; simp [lessY]
  | cons i is ih =>
    intro y
    show (lessY (y ||| 2 ^ i) is).testBit j = _
    rw [ih, Nat.testBit_or, Nat.testBit_two_pow]
    by_cases h : i = j
    · subst h; simp
    · have : (j = i) = False := by simp; omega
      simp [h, this]
theorem lessY_snoc (y i : Nat) (is : List Nat) : lessY y (is ++ [i]) = lessY y is ||| 2 ^ i := by unfold lessY; rw [List.foldl_append]; rfl
theorem lessL_snoc (n i : Nat) : ∀ (is : List Nat) (y : Nat), lessL y n (is ++ [i]) = lessL y n is ++ [(lessY y is, n ||| 2 ^ i)] := by
  intro is
  induction is with
  | nil => intro y; rfl
  | cons j is ih =>
    intro y
    rw [List.cons_append, lessL, ih, lessL]
    rfl
theorem lessY_lt {y : Nat} {is : List Nat} (hy : y < 16777216) (hi : ∀ i ∈ is, i < 24) : lessY y is < 16777216 := by
  refine lt_24 fun j hj => ?_
  rw [lessY_bit, Bool.or_eq_true, decide_eq_true_eq] at hj
  rcases hj with h | h
  · exact bit_24 hy h
  · exact hi j h
theorem lessL_len (n : Nat) : ∀ (is : List Nat) (y : Nat), (lessL y n is).length = is.length := by
  intro is
  induction is with
  | nil => intro y; rfl
  | cons j is ih => intro y; rw [lessL, List.length_cons, List.length_cons, ih]
theorem or_lt24 {a b : Nat} (ha : a < 16777216) (hb : b < 16777216) : a ||| b < 16777216 := by
  have := Nat.or_lt_two_pow (n := 24) (x := a) (y := b) ha hb
  exact this
/-- What the loop's round at k does. -/
theorem less_step {y n s k : Nat} (hy : y < 16777216) (hk : k < 24) :
    let is := (List.range k).filter fun i => (sdiff s y).testBit i
    let is' := (List.range (k + 1)).filter fun i => (sdiff s y).testBit i
    (sdiff s (lessY y is)).testBit k = (sdiff s y).testBit k ∧ lessY y is < 16777216 ∧ is.length ≤ k ∧
      ((sdiff s y).testBit k = false → is' = is) ∧ ((sdiff s y).testBit k = true → lessL y n is' = lessL y n is ++ [(lessY y is, n ||| 2 ^ k)] ∧ lessY y is' = lessY y is ||| 2 ^ k) := by
  intro is is'
  have hst : is' = is ++ (if (sdiff s y).testBit k then [k] else []) := elems_step (sdiff s y) k
  refine ⟨?_, lessY_lt hy fun i hi => ?_, elems_len _ _, fun h => ?_, fun h => ?_⟩
  · have hnk : ¬ k ∈ is := fun h => by
      have := (List.mem_filter.1 h).1
      simp at this
    rw [sdiff_bit, sdiff_bit, lessY_bit]
    simp [hnk]
  · have := (List.mem_filter.1 hi).1
    have : i < k := by simpa using this
    omega
  · rw [hst, h]; simp
  · rw [hst, h]
    exact ⟨lessL_snoc n k is y, lessY_snoc y k is⟩
theorem ofCs_one (l : List (Nat × Nat)) (y n : Nat) : ofCs (l ++ [(y, n)]) = ofCs l ++ [((y : Int), (n : Int))] := by rw [ofCs_app]; rfl
theorem lessK_no {y n s : Nat} (h : s &&& n ≠ 0) : lessK (y, n) s = [(y, n)] := by unfold lessK; rw [if_pos h]
theorem lessK_yes {y n s : Nat} (h : s &&& n = 0) : lessK (y, n) s = lessL y n ((List.range 24).filter fun i => (sdiff s y).testBit i) := by unfold lessK; rw [if_neg (by simpa using h)]; rfl
theorem sd_lt24 {s y : Nat} (hs : s < 16777216) : sdiff s y < 16777216 := lt_24 fun j hj => by
  rw [sdiff_bit, Bool.and_eq_true] at hj
  exact bit_24 hs hj.1
theorem has_sd (s y k : Nat) (hs : s < 16777216) (W : World) (b : Bool) (hb : (sdiff s y).testBit k = b) : Calls Tryz.prog 132 #[.int .i64 (sdiff s y : Nat), .int .i64 k] W fun e w' => e = .returned (.bool b) ∧ w' = W := by
  have h := hasS_any (sdiff s y) k (sd_lt24 hs) W
  rw [hb] at h
  exact h
set_option maxRecDepth 100000 in
set_option maxHeartbeats 4000000 in
theorem less_any (y n s : Nat) (hy : y < 16777216) (hn : n < 16777216) (hs : s < 16777216) (w : World) :
    Calls Tryz.prog 162 #[.agg #[.int .i64 y, .int .i64 n], .int .i64 s] w fun e w' => (∃ v, e = .returned v ∧ CbsAt w' v (ofCs (lessK (y, n) s))) ∧ Kept w w' := by
  have hn63 : n < 9223372036854775808 := Nat.lt_trans hn (by decide)
  obtain ⟨z, hz⟩ : ∃ z, z = s &&& n := ⟨_, rfl⟩
  have pz := and_i64 s n (by omega) (by omega)
  rw [← hz] at pz
  by_cases h0 : z = 0
  · subst h0
    rw [lessK_yes hz.symm]
    have HST := Lib.hid fun k (hk : k < 24) => less_step (n := n) (s := s) hy hk
    have HSD := Lib.hid fun (x : Nat) (h : x < 16777216) => andNot_i64 s x (by omega) (by omega)
    have HHA := Lib.hid fun (x k : Nat) W b hb => has_sd s x k hs W b hb
    obtain ⟨w1, hw1⟩ : ∃ w1, w1 = w.alloc (.cells #[.int .i64 y, .int .i64 n] 77) := ⟨_, rfl⟩
    have HR1 : Hid (RowAt w1 w.heap.size 77 [.int .i64 y, .int .i64 n]) := Lib.hid (by rw [hw1]; exact RowAt.made w #[.int .i64 y, .int .i64 n] 77)
    have HK1 : Hid (Kept w w1) := Lib.hid (by rw [hw1]; exact (Kept.refl w).alloc _)
    have HS1 : Hid (w1.heap.size = w.heap.size + 1) := Lib.hid (by rw [hw1]; simp)
    have HW1 := Lib.hid hw1
    have b1 := HR1.out.cell (i := 1) (by simp)
    simp only [List.getElem_cons_succ, List.getElem_cons_zero] at b1
    clear hz hw1 hs
    go_enter Tryz.func162, Tryz.ntmps162
    go_wp2_with fail
    rw [← HW1.out]
    go_loopg [5, 15] 24 (fun kx s5 s15 wr => ∃ k : Nat, k ≤ 24 ∧ s15 = .int .i64 k ∧ 24 - k ≤ kx ∧ Hid (OwnCbs wr w1.heap.size s5 (ofCs (lessL y n ((List.range k).filter fun i => (sdiff s y).testBit i)))) ∧ Hid (RowAt wr w.heap.size 77 [.int .i64 (lessY y ((List.range k).filter fun i => (sdiff s y).testBit i) : Nat), .int .i64 n]) ∧ Hid (Kept w wr) ∧ Hid (w1.heap.size ≤ wr.heap.size))
    case atStart => exact ⟨0, Nat.zero_le _, rfl, by omega, Lib.hid (OwnCbs.nil _ _), HR1, HK1, Lib.hid (Nat.le_refl _)⟩
    case round =>
      obtain ⟨k, hk, rfl, hkx, HO, HR, HK, HSZ⟩ := hrel
      obtain ⟨a5, c5, e5⟩ := HO.out.at.shape
      by_cases hlt : k < 24
      · have hkn : (k : Int) < 24 := by omega
        obtain ⟨f1, f2, f3, f4, f5⟩ := HST.out k hlt
        obtain ⟨is, his⟩ : ∃ is, is = (List.range k).filter fun i => (sdiff s y).testBit i := ⟨_, rfl⟩
        obtain ⟨is', his'⟩ : ∃ is', is' = (List.range (k + 1)).filter fun i => (sdiff s y).testBit i := ⟨_, rfl⟩
        rw [← his] at HO HR f1 f2 f3 f4 f5 e5
        rw [← his'] at f4 f5
        rw [ofCs_len, lessL_len] at e5
        have HIS' := Lib.hid his'
        obtain ⟨yk, hyk⟩ : ∃ yk, yk = lessY y is := ⟨_, rfl⟩
        rw [← hyk] at HR f1 f2 f5
        have HYK := Lib.hid hyk
        have hy63 : yk < 9223372036854775808 := Nat.lt_trans f2 (by decide)
        have p1 := HSD.out yk f2
        obtain ⟨z, hz⟩ : ∃ z, z = sdiff s yk := ⟨_, rfl⟩
        have HHZ := Lib.hid fun W b hb => HHA.out yk k W b hb
        rw [← hz] at p1 f1 HHZ
        have y0 := HR.out.cell (i := 0) (by simp)
        have y1 := HR.out.cell (i := 1) (by simp)
        simp only [List.getElem_cons_succ, List.getElem_cons_zero] at y0 y1
        have g0 := HR.out.free 0
        clear hz his his' hyk
        cases hb : (sdiff s y).testBit k with
        | false =>
          have HC := Lib.hid fun W => HHZ.out W false (by rw [f1, hb])
          have HIE := Lib.hid (f4 hb)
          clear hb f1 f2 f3 f4 f5
          subst e5
          go_wp2_with (go_at_call 132; refine (HC.out _).mono ?_; rintro e w2 ⟨rfl, rfl⟩)
          go_roundg (24 - (k + 1))
          case measure => omega
          case rel => exact ⟨k + 1, by omega, by go_num, Nat.le_refl _, Lib.hid (by rw [← HIS'.out, HIE.out]; exact HO.out), Lib.hid (by rw [← HIS'.out, HIE.out, ← HYK.out]; exact HR.out), HK, HSZ⟩
        | true =>
          have HC := Lib.hid fun W => HHZ.out W true (by rw [f1, hb])
          have HIE := Lib.hid (f5 hb)
          have p2 := pow_i64 k (by omega)
          have hp := pow_lt24 (show k < 24 by omega)
          obtain ⟨pk, hpk⟩ : ∃ pk, pk = 2 ^ k := ⟨_, rfl⟩
          rw [← hpk] at p2 hp HIE
          clear hb f1 f2 f4 f5
          have hp63 : pk < 9223372036854775808 := Nat.lt_trans hp (by decide)
          have p3 := or_i64 n pk hn63 hp63
          have p4 := or_i64 yk pk hy63 hp63
          obtain ⟨nk, hnk⟩ : ∃ nk, nk = n ||| pk := ⟨_, rfl⟩
          obtain ⟨yk', hyk'⟩ : ∃ yk', yk' = yk ||| pk := ⟨_, rfl⟩
          rw [← hnk] at p3 HIE
          rw [← hyk'] at p4 HIE
          have HLN := Lib.hid f3
          clear f3 hpk hnk hyk' hp hp63 hy63
          subst e5
          go_wp2_with (go_at_call 132; refine (HC.out _).mono ?_; rintro e w2 ⟨rfl, rfl⟩)
          go_region
          all_goals
            go_wp2_with (at_builtin; refine app_cb rfl _ _ rfl w1.heap.size _ (ofCs (lessL y n is)) rfl (HO.out.kept ?k1) _ ((yk : Int), (nk : Int)) rfl ?k2 ?k3 ?k4 ?_)
            case k1 => exact (((Kept.refl _).alloc _).alloc _).drew
            case k2 =>
              have h := rangeC_kept (range_two (w2.alloc (.cells #[.int .i64 yk, .int .i64 nk] 77)) (.int .i64 yk) (.int .i64 nk) 77) ((Kept.refl _).drew)
              simpa [ccells] using h
            case k3 => rw [ofCs_len, lessL_len]; have := HLN.out; omega
            case k4 => have := HSZ.out; simp; omega
            intro v' w' h5 _ h6
            have H5 := Lib.hid h5
            have H6 := Lib.hid h6
            have hr6 := (HR.out.kept ((((Kept.refl w2).alloc (.cells #[.int .i64 yk, .int .i64 nk] 77)).alloc (.cells #[.int .i64 yk, .int .i64 nk] 77)).drew)).same (h6.block w.heap.size (by rw [HS1.out]; omega))
            have HR6 := Lib.hid hr6
            have z0 := hr6.cell (i := 0) (by simp)
            have z1 := hr6.cell (i := 1) (by simp)
            simp only [List.getElem_cons_succ, List.getElem_cons_zero] at z0 z1
            have t0 := hr6.free 0
            obtain ⟨a6, c6, rfl⟩ := h5.at.shape
            clear h5 h6 hr6
            go_wp2
            go_region
            all_goals
              go_wp2_with fail
              go_roundg (24 - (k + 1))
              case measure => omega
              case rel =>
                refine ⟨k + 1, by omega, by go_num, Nat.le_refl _, Lib.hid ?_, Lib.hid ?_, Lib.hid ?_, Lib.hid ?_⟩
                · rw [← HIS'.out, HIE.out.1, ofCs_one]
                  exact H5.out.older (g := w.heap.size) (by rw [HS1.out]; omega) (by first | exact (OnlyAt.refl _ _).store _ _ | exact ((OnlyAt.refl _ _).store _ _).trans (OnlyAt.kept (Kept.refl _).drew))
                · rw [← HIS'.out, HIE.out.2]
                  first
                    | exact HR6.out.store 0 _
                    | exact (HR6.out.kept ((Kept.refl _).drew)).store 0 _
                    | exact (HR6.out.store 0 _).kept ((Kept.refl _).drew)
                · have hk := ((HK.out.alloc (.cells #[.int .i64 yk, .int .i64 nk] 77)).alloc (.cells #[.int .i64 yk, .int .i64 nk] 77)).drew
                  have hk6 : Kept w w' := Below.trans hk (H6.out.mono (by rw [HS1.out]; omega))
                  first
                    | exact hk6.store (Nat.le_refl _) _ _
                    | exact hk6.drew.store (Nat.le_refl _) _ _
                    | exact (hk6.store (Nat.le_refl _) _ _).drew
                · have hz := H6.out.size
                  have := HSZ.out
                  simp at hz ⊢
                  omega
      · have hke : k = 24 := by omega
        have hkn : ¬ (k : Int) < 24 := by omega
        have HE := HO.out.at
        rw [hke] at HE
        have HE := Lib.hid HE
        subst e5
        clear hke
        go_wp2
        go_ret
        exact ⟨⟨_, rfl, HE.out⟩, HK.out⟩
  · have hn0 : ¬ (z : Int) = 0 := by omega
    rw [lessK_no (by rw [← hz]; exact h0)]
    clear hz h0
    go_enter Tryz.func162, Tryz.ntmps162
    go_wp2
    go_ret
    refine ⟨⟨_, rfl, ?_⟩, ((Kept.refl _).alloc _).alloc _⟩
    have h := (own_cube (w.alloc (.cells #[.int .i64 y, .int .i64 n] 77)) 0 ((y : Int), (n : Int)) (Nat.zero_le _)).at
    simpa [ofCs, ofC] using h
end Go.Proofs.YthiemjodcklejaaGreatDoor

/-
  Walks: faultlineref06.Error, Both, part, Least, limited.
-/
namespace Go.Proofs.YthiemjodcklejaaGreatDoor
open Go.RowKit

def partN (a b : Nat) : Bool := decide (a ≠ b) && subN a b
end Go.Proofs.YthiemjodcklejaaGreatDoor

/-
  Walks: family.lists of one list, family.Check, and the reference's Error and Check, of whatever list.
-/
namespace Go.Proofs.YthiemjodcklejaaGreatDoor
open Go.RowKit

def okI (xs : List Int) : Bool := xs.all fun x => decide (0 ≤ x ∧ x ≤ 16777215)
def errI (xs : List Int) : Nat := if 1024 < xs.length then 4 else if okI xs = true then 0 else 3
def natsI (xs : List Int) : List Nat := xs.map Int.toNat
/-- The number of Check's error. -/
def chkI (xs : List Int) : Nat := if errI xs ≠ 0 then errI xs else if natsI xs ≠ sortK (natsI xs) then 13 else if natsI xs ≠ minK (natsI xs) then 2 else 0
theorem okI_iff {xs : List Int} : okI xs = true ↔ ∀ x ∈ xs, 0 ≤ x ∧ x ≤ 16777215 := by
  unfold okI
  rw [List.all_eq_true]
  exact ⟨fun h x hx => of_decide_eq_true (h x hx), fun h x hx => decide_eq_true (h x hx)⟩
theorem nats_of {xs : List Int} (h : okI xs = true) : xs = ofN (natsI xs) ∧ ∀ n ∈ natsI xs, Mk n := by
  have h := okI_iff.1 h
  refine ⟨?_, fun n hn => ?_⟩
  · unfold ofN natsI
    rw [List.map_map]
    have : xs.map ((fun (n : Nat) => (n : Int)) ∘ Int.toNat) = xs.map id := List.map_congr_left fun x hx => by
      have := h x hx
      simp only [Function.comp, id]
      omega
    first | (rw [this, List.map_id]) | (rw [List.map_id] at this; exact this.symm)
  · obtain ⟨x, hx, rfl⟩ := List.mem_map.1 hn
    have := h x hx
    unfold Mk
    omega
theorem err_ok {xs : List Int} (h : errI xs = 0) : xs.length ≤ 1024 ∧ okI xs = true := by
  unfold errI at h
  split at h
  · omega
  · split at h
    · exact ⟨by omega, by assumption⟩
    · omega
theorem err_cases (xs : List Int) : errI xs = 0 ∨ errI xs = 3 ∨ errI xs = 4 := by unfold errI; split <;> first | (exact .inr (.inr rfl)) | (split <;> first | exact .inl rfl | exact .inr (.inl rfl))
theorem ofN_inj {a b : List Nat} : ofN a = ofN b ↔ a = b := by
  unfold ofN
  exact ⟨fun h => by
    have := congrArg (List.map Int.toNat) h
    simpa [List.map_map, Function.comp_def] using this, fun h => by rw [h]⟩
theorem equal_any (xs ys : List Int) (va vb : Value) (w : World) (ha : IntsAt w va xs) (hb : IntsAt w vb ys) : Calls Tryz.prog 159 #[va, vb] w fun e w' => e = .returned (.bool (decide (xs = ys))) ∧ Kept w w' := by
  obtain ⟨aa, ca, rfl, _, hla, hca⟩ := ha
  obtain ⟨ab, cb, rfl, _, hlb, hcb⟩ := hb
  by_cases hl : xs.length = ys.length
  · by_cases h0 : xs = []
    · subst h0
      have h1 : ys = [] := List.eq_nil_of_length_eq_zero hl.symm
      subst h1
      exact (Go.Proofs.Tryz.slices_Equal_int_empty aa ab ca 0 cb w (by omega)).mono fun e w' ⟨h1, h2⟩ => ⟨by rw [h1]; simp, by subst h2; exact Kept.refl _⟩
    · have hp : 0 < xs.length := List.length_pos_iff.2 h0
      obtain ⟨b1, o1, rfl, _⟩ := hca 0 hp
      obtain ⟨b2, o2, rfl, _⟩ := hcb 0 (by omega)
      refine (Go.Proofs.Tryz.slices_Equal_int b1 o1 xs.length ca b2 o2 ys.length cb xs ys w (Nat.le_refl _) (Nat.le_refl _) (by omega) (by omega) ?_ ?_).mono fun e w' ⟨h1, q, h2⟩ => ⟨by rw [h1, List.take_length, List.take_length, show (xs == ys) = decide (xs = ys) by rw [Bool.eq_iff_iff]; simp], by subst h2; exact (Kept.refl _).drewN _⟩
      · intro j hj
        obtain ⟨b, o, h1, h2⟩ := hca j hj
        cases h1
        rw [h2]; simp [hj]
      · intro j hj
        obtain ⟨b, o, h1, h2⟩ := hcb j hj
        cases h1
        rw [h2]; simp [hj]
  · refine (Go.Proofs.Tryz.slices_Equal_int_lens aa ab xs.length ca ys.length cb w hl).mono fun e w' ⟨h1, h2⟩ => ⟨?_, by subst h2; exact Kept.refl _⟩
    rw [h1, decide_eq_false (fun h => hl (by rw [h]))]
set_option maxRecDepth 100000 in
set_option maxHeartbeats 2000000 in
theorem lists_one (g : Nat) (va : Value) (xs : List Int) (w : World) (hc : w.cell? ⟨g, 0, none⟩ = some va) (hv : IntsAt w va xs) :
    Calls Tryz.prog 158 #[.slice (some ⟨g, 0, none⟩) 1 1] w fun e w' => e = .returned (errV (errI xs)) ∧ w = w' := by
  obtain ⟨a, c, rfl, _, hl, hx⟩ := hv
  obtain ⟨m, hm⟩ : ∃ m, m = xs.length := ⟨_, rfl⟩
  rw [← hm] at hc
  have hm9 : m ≤ 140737488355328 := by omega
  have HX := Lib.hid hx
  have HM := Lib.hid hm
  have HC := Lib.hid hc
  clear hx hm hl hc
  go_enter Tryz.func158, Tryz.ntmps158
  go_wp2
  go_loopg [9] 1 (fun kx s9 wr => ∃ k : Nat, k ≤ 1 ∧ s9 = .int .i64 k ∧ 1 - k ≤ kx ∧ Hid (k = 1 → errI xs = 0) ∧ w = wr)
  case atStart => exact ⟨0, by omega, rfl, by omega, Lib.hid (fun h => by omega), rfl⟩
  case round =>
    obtain ⟨k, hk, rfl, hkx, HE, rfl⟩ := hrel
    by_cases hk1 : k = 1
    · subst hk1
      have HE0 := Lib.hid (HE.out rfl)
      go_wp2
      go_ret
      exact ⟨by rw [HE0.out]; rfl, rfl⟩
    · have hk0 : k = 0 := by omega
      subst hk0
      have hcell := HC.out
      by_cases hlen : m ≤ 1024
      · have hl1 : ¬ (1024 : Int) < (m : Int) := by omega
        go_wp2
        go_loopg [19] m (fun kx s19 wq => ∃ q : Nat, q ≤ m ∧ s19 = .int .i64 q ∧ m - q ≤ kx ∧ Hid (∀ x ∈ xs.take q, 0 ≤ x ∧ x ≤ 16777215) ∧ w = wq)
        case atStart => exact ⟨0, Nat.zero_le _, rfl, by omega, Lib.hid (by simp), rfl⟩
        case round =>
          obtain ⟨q, hq, rfl, hqx, HF, rfl⟩ := hrel
          by_cases hqm : q < m
          · have hqx : q < xs.length := by have := HM.out; omega
            obtain ⟨b2, o2, rfl, hcell2⟩ := HX.out q hqx
            obtain ⟨s, hs⟩ : ∃ s, s = xs[q] := ⟨_, rfl⟩
            rw [← hs] at hcell2
            have HS := Lib.hid hs
            have hqi : (q : Int) < (m : Int) := by omega
            cases hd : decide (0 ≤ s ∧ s ≤ 16777215) with
            | true =>
              have HVA : Hid (∀ W, Calls Tryz.prog 222 #[.int .i64 s] W fun e w' => e = .returned (.bool true) ∧ W = w') := Lib.hid fun W => by have := valid_any s W; rwa [hd] at this
              have HD := Lib.hid (of_decide_eq_true hd)
              clear hd hs
              go_wp2_with (go_at_call 222; refine (HVA.out _).mono ?_; rintro e w' ⟨rfl, rfl⟩)
              go_roundg (m - (q + 1))
              case measure => omega
              case rel => exact ⟨q + 1, by omega, by go_num, Nat.le_refl _, Lib.hid (fun y hy => by
                rw [List.take_succ_eq_append_getElem hqx] at hy
                rcases List.mem_append.1 hy with hy | hy
                · exact HF.out y hy
                · simp at hy; rw [hy, ← HS.out]; exact HD.out), rfl⟩
            | false =>
              have HVA : Hid (∀ W, Calls Tryz.prog 222 #[.int .i64 s] W fun e w' => e = .returned (.bool false) ∧ W = w') := Lib.hid fun W => by have := valid_any s W; rwa [hd] at this
              have HD := Lib.hid (of_decide_eq_false hd)
              have HER : Hid (errI xs = 3) := Lib.hid (by
                unfold errI
                rw [if_neg (by have := HM.out; omega), if_neg]
                intro h
                exact HD.out (okI_iff.1 h s (by rw [HS.out]; exact List.getElem_mem _)))
              clear hd hs
              go_wp2_with (go_at_call 222; refine (HVA.out _).mono ?_; rintro e w' ⟨rfl, rfl⟩)
              go_ret
              exact ⟨by rw [HER.out]; rfl, rfl⟩
          · have HE0 : Hid (errI xs = 0) := Lib.hid (by
              have hf := HF.out
              rw [List.take_of_length_le (by have := HM.out; omega)] at hf
              unfold errI
              rw [if_neg (by have := HM.out; omega), if_pos (okI_iff.2 hf)])
            have hqi : ¬ (q : Int) < (m : Int) := by omega
            go_wp2
            go_roundg 0
            case measure => omega
            case rel => exact ⟨1, by omega, by go_num, by omega, Lib.hid (fun _ => HE0.out), rfl⟩
      · have hl1 : (1024 : Int) < (m : Int) := by omega
        have HER : Hid (errI xs = 4) := Lib.hid (by unfold errI; rw [if_pos (by have := HM.out; omega)])
        go_wp2
        go_ret
        exact ⟨by rw [HER.out]; rfl, rfl⟩
theorem fold_subA (l : List Nat) : ∀ out, (l.foldl keepN out).Sublist (out ++ l) := by
  induction l with
  | nil => intro out; simp
  | cons s l ih =>
    intro out
    have h := ih (keepN out s)
    show (l.foldl keepN (keepN out s)).Sublist _
    unfold keepN at h ⊢
    split at h
    · rename_i hk
      rw [if_pos hk]
      exact h.trans ((List.Sublist.refl out).append (List.sublist_cons_self s l))
    · rename_i hk
      rw [if_neg hk]
      simpa using h
theorem minK_len_eq {ns : List Nat} (h : ns = sortK ns) : (minK ns).length = ns.length ↔ ns = minK ns := by
  constructor
  · intro hl
    have hs : (minK ns).Sublist ns := by
      unfold minK
      rw [← h]
      exact fold_subA ns []
    exact (hs.eq_of_length hl).symm
  · intro he; rw [← he]
set_option maxRecDepth 100000 in
set_option maxHeartbeats 2000000 in
theorem fcheck_any (va : Value) (xs : List Int) (w : World) (hv : IntsAt w va xs) :
    Calls Tryz.prog 106 #[va] w fun e w' => e = .returned (errV (chkI xs)) ∧ Kept w w' := by
  have HL : Hid (Calls Tryz.prog 158 #[.slice (some ⟨w.heap.size, 0, none⟩) 1 1] (w.alloc (.cells #[va] 52)) fun e w' => e = .returned (errV (errI xs)) ∧ Kept w w') := Lib.hid
    ((lists_one w.heap.size va xs _ (by simp) (hv.kept ((Kept.refl _).alloc _))).mono fun _ _ ⟨h1, h2⟩ => ⟨h1, by rw [← h2]; exact (Kept.refl _).alloc _⟩)
  have HV := Lib.hid hv
  obtain ⟨a, c, hva, _⟩ := id hv
  subst hva
  obtain ⟨m, hm⟩ : ∃ m, m = xs.length := ⟨_, rfl⟩
  rw [← hm] at HL HV ⊢
  have HM := Lib.hid hm
  clear hm hv
  rcases Nat.eq_zero_or_pos (errI xs) with he | he
  · obtain ⟨hl, hok⟩ := err_ok he
    obtain ⟨hxs, hmk⟩ := nats_of hok
    have hchk : chkI xs = if natsI xs ≠ sortK (natsI xs) then 13 else if natsI xs ≠ minK (natsI xs) then 2 else 0 := by unfold chkI; rw [if_neg (by omega)]
    rw [hchk]
    obtain ⟨ns, hns⟩ : ∃ ns, ns = natsI xs := ⟨_, rfl⟩
    rw [← hns] at hxs hmk ⊢
    have hlm : m = ns.length := by rw [HM.out, hns]; unfold natsI; rw [List.length_map]
    have HVS : Hid (SetsAt w (.slice a m c) ns) := Lib.hid ⟨by rw [← hxs]; exact HV.out, hmk⟩
    have hnl : ns.length ≤ 1024 := by rw [← hlm, HM.out]; exact hl
    have HE := Lib.hid he
    rw [he, errV_zero] at HL
    have HS : Hid (∀ W, Kept w W → Calls Tryz.prog 160 #[.slice a m c] W fun e w' => (∃ v', e = .returned v' ∧ IntsAt w' v' (ofN (sortK ns))) ∧ Kept W w') := Lib.hid fun W hk => by
      refine (sorted_any _ ns W hmk (HVS.out.kept hk).1 (by omega)).mono ?_
      rintro e w' ⟨v', h1, h2, h3⟩
      exact ⟨⟨v', h1, h2.ints⟩, h3⟩
    have HMN : Hid (∀ W, Kept w W → Calls Tryz.prog 161 #[.slice a m c] W fun e w' => (∃ v', e = .returned v' ∧ SetsAt w' v' (minK ns)) ∧ Kept W w') := Lib.hid fun W hk => by
      refine (minimalS_any _ ns W (HVS.out.kept hk) (by omega)).mono ?_
      rintro e w' ⟨v', h1, h2, h3⟩
      exact ⟨⟨v', h1, h2.sets⟩, h3⟩
    have HLM := Lib.hid hlm
    clear hxs hmk hns hl hok he hchk hlm hnl
    by_cases h1 : ns = sortK ns
    · have HEQ : Hid (∀ W vb, Kept w W → IntsAt W vb (ofN (sortK ns)) → Calls Tryz.prog 159 #[.slice a m c, vb] W fun e w' => e = .returned (.bool true) ∧ Kept W w') := Lib.hid fun W vb hk hb => by
        have h := equal_any (ofN ns) (ofN (sortK ns)) (.slice a m c) vb W (HVS.out.kept hk).1 hb
        rwa [decide_eq_true (by rw [← h1])] at h
      rw [if_neg (fun h => h h1)]
      have hiff := minK_len_eq h1
      obtain ⟨z, hz⟩ : ∃ z, z = (minK ns).length := ⟨_, rfl⟩
      have HZ := Lib.hid hz
      rw [← hz, ← HLM.out] at hiff
      by_cases h2 : ns = minK ns
      · rw [if_neg (fun h => h h2)]
        have hzm : z = m := hiff.2 h2
        have hb : ((z : Int) != (m : Int)) = false := by rw [hzm]; simp
        clear hiff h1 h2 hz
        go_enter Tryz.func106, Tryz.ntmps106
        go_wp2_with fail
        refine HL.out.mono ?_
        rintro e w1 ⟨rfl, hk1⟩
        have K1 := Lib.hid hk1
        clear hk1
        go_wp2_with (first
          | (go_at_call 160; refine (HS.out _ K1.out).mono ?_; rintro e w2 ⟨⟨v2, rfl, hv2⟩, hk2⟩; have HV2 := Lib.hid hv2; have K2 := Lib.hid (K1.out.trans hk2); clear hv2 hk2)
          | (go_at_call 159; refine (HEQ.out _ _ K2.out HV2.out).mono ?_; rintro e w3 ⟨rfl, hk3⟩; have K3 := Lib.hid (K2.out.trans hk3); clear hk3)
          | (go_at_call 161; refine (HMN.out _ K3.out).mono ?_; rintro e w4 ⟨⟨v4, rfl, hv4⟩, hk4⟩; obtain ⟨a4, c4, rfl, _, _⟩ := hv4.shape; rw [← HZ.out]; have K4 := Lib.hid (K3.out.trans hk4); clear hk4 hv4))
        go_ret
        exact ⟨rfl, K4.out⟩
      · rw [if_pos h2]
        have hzm : z ≠ m := fun h => h2 (hiff.1 h)
        have hb : ((z : Int) != (m : Int)) = true := by simp [bne]; omega
        have hzi : ¬ (z : Int) = (m : Int) := by omega
        clear hiff h1 h2 hz
        go_enter Tryz.func106, Tryz.ntmps106
        go_wp2_with fail
        refine HL.out.mono ?_
        rintro e w1 ⟨rfl, hk1⟩
        have K1 := Lib.hid hk1
        clear hk1
        go_wp2_with (first
          | (go_at_call 160; refine (HS.out _ K1.out).mono ?_; rintro e w2 ⟨⟨v2, rfl, hv2⟩, hk2⟩; have HV2 := Lib.hid hv2; have K2 := Lib.hid (K1.out.trans hk2); clear hv2 hk2)
          | (go_at_call 159; refine (HEQ.out _ _ K2.out HV2.out).mono ?_; rintro e w3 ⟨rfl, hk3⟩; have K3 := Lib.hid (K2.out.trans hk3); clear hk3)
          | (go_at_call 161; refine (HMN.out _ K3.out).mono ?_; rintro e w4 ⟨⟨v4, rfl, hv4⟩, hk4⟩; obtain ⟨a4, c4, rfl, _, _⟩ := hv4.shape; rw [← HZ.out]; have K4 := Lib.hid (K3.out.trans hk4); clear hk4 hv4))
        go_ret
        exact ⟨rfl, K4.out⟩
    · have HEQ : Hid (∀ W vb, Kept w W → IntsAt W vb (ofN (sortK ns)) → Calls Tryz.prog 159 #[.slice a m c, vb] W fun e w' => e = .returned (.bool false) ∧ Kept W w') := Lib.hid fun W vb hk hb => by
        have h := equal_any (ofN ns) (ofN (sortK ns)) (.slice a m c) vb W (HVS.out.kept hk).1 hb
        rwa [decide_eq_false (fun h => h1 (ofN_inj.1 h))] at h
      rw [if_pos h1]
      clear h1
      go_enter Tryz.func106, Tryz.ntmps106
      go_wp2_with fail
      refine HL.out.mono ?_
      rintro e w1 ⟨rfl, hk1⟩
      have K1 := Lib.hid hk1
      clear hk1
      go_wp2_with (first
        | (go_at_call 160; refine (HS.out _ K1.out).mono ?_; rintro e w2 ⟨⟨v2, rfl, hv2⟩, hk2⟩; have HV2 := Lib.hid hv2; have K2 := Lib.hid (K1.out.trans hk2); clear hv2 hk2)
        | (go_at_call 159; refine (HEQ.out _ _ K2.out HV2.out).mono ?_; rintro e w3 ⟨rfl, hk3⟩; have K3 := Lib.hid (K2.out.trans hk3); clear hk3))
      go_ret
      exact ⟨rfl, K3.out⟩
  · have hchk : chkI xs = errI xs := by unfold chkI; rw [if_pos (by omega)]
    rw [hchk]
    obtain ⟨q, hq⟩ : ∃ q, q = errI xs := ⟨_, rfl⟩
    rw [← hq] at HL he ⊢
    have hqe : errV q = .iface 45 (.int .i64 q) := errV_pos (by omega)
    rw [hqe] at HL ⊢
    clear hchk hq hqe
    go_enter Tryz.func106, Tryz.ntmps106
    go_wp2_with fail
    refine HL.out.mono ?_
    rintro e w1 ⟨rfl, hk1⟩
    go_wp2
    go_ret
    exact ⟨rfl, hk1⟩
end Go.Proofs.YthiemjodcklejaaGreatDoor

/-
  Walks: disjoint.without, Cubes.
-/
namespace Go.Proofs.YthiemjodcklejaaGreatDoor
open Go.RowKit

theorem lessK_len (c : Nat × Nat) (s : Nat) : (lessK c s).length ≤ 24 := by
  unfold lessK
  split
  · simp
  · rw [lessL_len]; exact elems_len _ 24
theorem withK_snoc (l : List (Nat × Nat)) (c : Nat × Nat) (s : Nat) : withK (l ++ [c]) s = withK l s ++ lessK c s := by unfold withK; rw [List.flatMap_append]; simp
theorem withK_len (s : Nat) : ∀ l : List (Nat × Nat), (withK l s).length ≤ 24 * l.length := by
  intro l
  induction l with
  | nil => simp [withK]
  | cons c l ih =>
    have e : withK (c :: l) s = lessK c s ++ withK l s := by simp [withK]
    rw [e, List.length_append, List.length_cons]
    have := lessK_len c s
    omega
theorem ofCs_get {l : List (Nat × Nat)} {i : Nat} (h : i < (ofCs l).length) : (ofCs l)[i] = ofC (l[i]'(by rw [ofCs_len] at h; exact h)) := by simp [ofCs]
/-- The cells of a cube of a list. -/
theorem CbsAt.cells {w : World} {a : Option Addr} {n c : Nat} {l : List (Nat × Nat)} (h : CbsAt w (.slice a n c) (ofCs l)) (i : Nat) (hi : i < l.length) :
    ∃ b o, a = some ⟨b, o, none⟩ ∧ w.rangeAt b (o + i * 2) [.int .i64 (l[i].1 : Nat), .int .i64 (l[i].2 : Nat)] := by
  obtain ⟨a', c', h1, _, _, h5⟩ := h
  injection h1 with h1
  subst h1
  obtain ⟨b, o, h6, h7⟩ := h5 i (by rw [ofCs_len]; exact hi)
  refine ⟨b, o, h6, ?_⟩
  rw [ofCs_get] at h7
  exact h7
set_option maxRecDepth 100000 in
set_option maxHeartbeats 4000000 in
theorem without_any (va : Value) (l : List (Nat × Nat)) (s most : Nat) (w : World) (hv : CbsAt w va (ofCs l)) (hl : l.length ≤ 1024) (hb : ∀ c ∈ l, c.1 < 16777216 ∧ c.2 < 16777216) (hs : s < 16777216) (_hm : most ≤ 1024) :
    Calls Tryz.prog 107 #[va, .int .i64 s, .int .i64 most] w fun e w' => ((most < (withK l s).length ∧ e = .returned (.tuple #[.slice none 0 0, errV 4])) ∨ (¬ most < (withK l s).length ∧ ∃ v, e = .returned (.tuple #[v, .nilIface]) ∧ CbsAt w' v (ofCs (withK l s)))) ∧ Kept w w' := by
  have HLE := Lib.hid fun (c : Nat × Nat) W (h : c.1 < 16777216 ∧ c.2 < 16777216) => less_any c.1 c.2 s h.1 h.2 hs W
  have HV := Lib.hid hv
  have HB := Lib.hid hb
  obtain ⟨a, c, rfl⟩ := hv.shape
  rw [ofCs_len] at HV ⊢
  obtain ⟨n, hn⟩ : ∃ n, n = l.length := ⟨_, rfl⟩
  rw [← hn] at HV hl ⊢
  have HN := Lib.hid hn
  have HWL := Lib.hid fun k => withK_len s (l.take k)
  obtain ⟨z, hz⟩ : ∃ z, z = (withK l s).length := ⟨_, rfl⟩
  rw [← hz]
  have HZ := Lib.hid hz
  clear hv hb hn hs hz
  go_enter Tryz.func107, Tryz.ntmps107
  go_wp2_with fail
  go_loopg [8, 13] n (fun kx s8 s13 wr => ∃ k : Nat, k ≤ n ∧ s13 = .int .i64 k ∧ n - k ≤ kx ∧ Hid (OwnCbs wr w.heap.size s8 (ofCs (withK (l.take k) s))) ∧ Hid (Kept w wr))
  case atStart => exact ⟨0, Nat.zero_le _, rfl, by omega, Lib.hid (OwnCbs.nil _ _), Lib.hid (Kept.refl _)⟩
  case round =>
    obtain ⟨k, hk, rfl, hkx, HO, HK⟩ := hrel
    obtain ⟨a8, c8, e8⟩ := HO.out.at.shape
    rw [ofCs_len] at e8
    by_cases hlt : k < n
    · have hkn : (k : Int) < (n : Int) := by omega
      have hkl : k < l.length := by have := HN.out; omega
      obtain ⟨b, o, rfl, hrg⟩ := HV.out.cells k hkl
      have hrg2 := rangeC_kept hrg HK.out
      have y0 := hrg2 0 _ rfl
      have y1 := hrg2 1 _ rfl
      rw [Nat.add_zero] at y0
      have HLC := Lib.hid fun W => HLE.out l[k] W (HB.out _ (List.getElem_mem hkl))
      have HST : Hid (withK (l.take (k + 1)) s = withK (l.take k) s ++ lessK l[k] s) := Lib.hid (by rw [List.take_succ_eq_append_getElem hkl, withK_snoc])
      have HLL : Hid ((withK (l.take k) s).length + (lessK l[k] s).length ≤ 1099511627776) := Lib.hid (by
        have h1 := HWL.out k
        have h2 := lessK_len l[k] s
        have h3 : (l.take k).length ≤ k := by rw [List.length_take]; omega
        omega)
      obtain ⟨z0, hz0⟩ : ∃ z0, z0 = l[k].1 := ⟨_, rfl⟩
      obtain ⟨z1, hz1⟩ : ∃ z1, z1 = l[k].2 := ⟨_, rfl⟩
      obtain ⟨M, hM⟩ : ∃ M, M = lessK l[k] s := ⟨_, rfl⟩
      have e : (l[k].1, l[k].2) = l[k] := rfl
      rw [e, ← hM] at HLC
      rw [← hz0, ← hz1] at HLC
      rw [← hM] at HST HLL
      rw [← hz0] at y0
      rw [← hz1] at y1
      subst e8
      clear hrg hrg2 hz0 hz1 hM e hkl
      go_wp2_with (first
        | (go_at_call 162; refine (HLC.out _).mono ?_; rintro e w2 ⟨⟨v2, rfl, hv2⟩, hk2⟩; have HV2 := Lib.hid hv2; have HK2 := Lib.hid (((Kept.refl wr).alloc _).trans hk2); clear hv2 hk2)
        | (at_builtin; refine app_cbs rfl _ _ rfl w.heap.size _ (ofCs (withK (l.take k) s)) rfl (HO.out.kept HK2.out) _ (ofCs M) rfl HV2.out (by rw [ofCs_len, ofCs_len]; exact HLL.out) (Nat.le_trans HK.out.size HK2.out.size) ?_; intro v' w' h5 _ h6; have H5 := Lib.hid h5; have H6 := Lib.hid h6; clear h5 h6))
      obtain ⟨a5, c5, rfl⟩ := H5.out.at.shape
      go_roundg (n - (k + 1))
      case measure => omega
      case rel => exact ⟨k + 1, by omega, by go_num, Nat.le_refl _, Lib.hid (by rw [HST.out, ofCs_app]; exact H5.out), Lib.hid ((HK.out.trans HK2.out).app H6.out)⟩
    · have hke : k = n := by omega
      have hkn : ¬ (k : Int) < (n : Int) := by omega
      have ht : l.take k = l := by rw [hke, HN.out]; exact List.take_length
      rw [ht] at HO e8
      rw [← HZ.out] at e8
      clear ht hke
      subst e8
      by_cases hmz : most < z
      · have hmi : (most : Int) < (z : Int) := by omega
        go_wp2
        go_ret2
        exact ⟨by rw [errV_pos (by omega)]; rfl, HK.out⟩
      · have hmi : ¬ (most : Int) < (z : Int) := by omega
        go_wp2
        go_ret2
        exact ⟨⟨_, rfl, HO.out.at⟩, HK.out⟩
theorem chkI_ok {xs : List Int} (h : chkI xs = 0) : xs.length ≤ 1024 ∧ okI xs = true := by
  unfold chkI at h
  by_cases he : errI xs = 0
  · exact err_ok he
  · rw [if_pos he] at h; exact absurd h he
/-- What Cubes answers. -/
def cubR (xs : List Int) : Nat × List (Nat × Nat) := if chkI xs ≠ 0 then (chkI xs, []) else match cubesK (natsI xs) with | none => (4, []) | some l => (0, l)
theorem ownC_step (most : Nat) (L : List Nat) (l : List (Nat × Nat)) (j : Nat) (hj : j < L.length) : ownC most (L.drop j) l = if most < (withK l L[j]).length then none else ownC most (L.drop (j + 1)) (withK l L[j]) := by
  rw [List.drop_eq_getElem_cons hj, ownC]
theorem cubesC_step (pre : List Nat) (out : List (Nat × Nat)) (L : List Nat) (k : Nat) (hk : k < L.length) : cubesC pre out (L.drop k) = match ownC (1024 - out.length) pre [(L[k], 0)] with | none => none | some l => cubesC (pre ++ [L[k]]) (out ++ l) (L.drop (k + 1)) := by
  rw [List.drop_eq_getElem_cons hk, cubesC]
  cases ownC (1024 - out.length) pre [(L[k], 0)] <;> rfl
theorem own_fits {most ol s : Nat} {bs : List Nat} {l : List (Nat × Nat)} (h : ownC most bs [(s, 0)] = some l) (hm : most = 1024 - ol) (ho : ol ≤ 1024) (h0 : bs = [] → ol = 0) : ol + l.length ≤ 1024 := by
  by_cases hb : bs = []
  · subst hb
    cases h
    have := h0 rfl
    simp; omega
  · have := own_le h hb
    omega
theorem less_lt {b : Nat} {c : Nat × Nat} (hc : c.1 < 16777216 ∧ c.2 < 16777216) : ∀ d ∈ lessK c b, d.1 < 16777216 ∧ d.2 < 16777216 := by
  intro d hd
  unfold lessK at hd
  split at hd
  · rw [List.mem_singleton] at hd; rw [hd]; exact hc
  · refine lessL_all (Pr := fun d => d.1 < 16777216 ∧ d.2 < 16777216) (elems_nodup _) (fun i hi => ?_) ?_ d hd
    · have := (elems_lt hi).2
      rw [sdiff_bit, Bool.and_eq_true] at this
      simpa using this.2
    · intro y' i hi h4 _ _
      refine ⟨lt_24 fun j hj => ?_, lt_24 fun j hj => ?_⟩
      · rcases h4 j hj with h | h
        · exact bit_24 hc.1 h
        · exact (elems_lt h).1
      · replace hj : (c.2 ||| 2 ^ i).testBit j = true := hj
        rw [Nat.testBit_or, Nat.testBit_two_pow, Bool.or_eq_true, decide_eq_true_eq] at hj
        rcases hj with h | rfl
        · exact bit_24 hc.2 h
        · exact (elems_lt hi).1
theorem with_lt {b : Nat} {l : List (Nat × Nat)} (hl : ∀ c ∈ l, c.1 < 16777216 ∧ c.2 < 16777216) : ∀ d ∈ withK l b, d.1 < 16777216 ∧ d.2 < 16777216 := by
  intro d hd
  obtain ⟨c, hc, hd⟩ := List.mem_flatMap.1 hd
  exact less_lt (hl c hc) d hd
set_option maxRecDepth 100000 in
set_option maxHeartbeats 8000000 in
theorem cubes_any (va : Value) (xs : List Int) (w : World) (hv : IntsAt w va xs) :
    Calls Tryz.prog 49 #[va] w fun e w' => (∃ v', e = .returned (.tuple #[v', errV (cubR xs).1]) ∧ CbsAt w' v' (ofCs (cubR xs).2)) ∧ Kept w w' := by
  have HC := Lib.hid fun W (h : Kept w W) => fcheck_any va xs W (hv.kept h)
  obtain ⟨a, m, c, rfl⟩ := hv.shape
  by_cases h0 : chkI xs = 0
  · obtain ⟨hlen, hok⟩ := chkI_ok h0
    obtain ⟨hxs, hmk⟩ := nats_of hok
    have hcr : cubR xs = match cubesK (natsI xs) with | none => (4, []) | some l => (0, l) := by unfold cubR; rw [if_neg (by omega)]
    obtain ⟨q, hq⟩ : ∃ q, q = (cubR xs).1 := ⟨_, rfl⟩
    obtain ⟨Lr, hLr⟩ : ∃ Lr, Lr = (cubR xs).2 := ⟨_, rfl⟩
    rw [← hq, ← hLr]
    rw [hcr] at hq hLr
    rw [h0, errV_zero] at HC
    obtain ⟨ns, hns⟩ : ∃ ns, ns = natsI xs := ⟨_, rfl⟩
    rw [← hns] at hxs hmk hq hLr
    have hnl : ns.length ≤ 1024 := by rw [hns]; unfold natsI; rw [List.length_map]; exact hlen
    have hml : m = ns.length := by
      obtain ⟨a', c', he, _⟩ := hv
      injection he with _ he _
      rw [he, hns]; unfold natsI; rw [List.length_map]
    have HS : Hid (IntsAt w (.slice a m c) (ofN ns)) := Lib.hid (by rw [← hxs]; exact hv)
    have HMK : Hid (∀ s ∈ ns, s < 16777216) := Lib.hid fun s hs => by have := hmk s hs; unfold Mk at this; omega
    have HML := Lib.hid hml
    have HWI := Lib.hid fun va l s most W hv hl hb hs hm => without_any va l s most W hv hl hb hs hm
    obtain ⟨R, hR⟩ : ∃ R, R = cubesK ns := ⟨_, rfl⟩
    rw [← hR] at hq hLr
    have HR := Lib.hid hR
    have HQS : Hid (∀ o, R = some o → q = 0 ∧ Lr = o) := Lib.hid fun o h => by rw [h] at hq hLr; exact ⟨hq, hLr⟩
    have HQN : Hid (R = none → q = 4 ∧ Lr = []) := Lib.hid fun h => by rw [h] at hq hLr; exact ⟨hq, hLr⟩
    have hm9 : m ≤ 1024 := by omega
    clear hv hxs hmk hnl hml hR hns hcr h0 hlen hok hq hLr
    go_enter Tryz.func49, Tryz.ntmps49
    go_wp2_with fail
    refine (HC.out _ (Kept.refl _)).mono ?_
    rintro e w2 ⟨rfl, hk2⟩
    have HK2 := Lib.hid hk2
    clear hk2
    go_wp2_with fail
    go_loopg [5, 21] m (fun kx s5 s21 wr => ∃ (k : Nat) (out : List (Nat × Nat)), k ≤ m ∧ s21 = .int .i64 k ∧ m - k ≤ kx ∧ out.length ≤ 1024 ∧ Hid (OwnCbs wr w2.heap.size s5 (ofCs out)) ∧ Hid (cubesC (ns.take k) out (ns.drop k) = R) ∧ Hid (ns.take k = [] → out = []) ∧ Hid (Kept w2 wr))
    case atStart => exact ⟨0, [], Nat.zero_le _, rfl, by omega, by simp, Lib.hid (OwnCbs.nil _ _), Lib.hid (by rw [HR.out]; simp [cubesK]), Lib.hid (fun _ => rfl), Lib.hid (Kept.refl _)⟩
    case round =>
      obtain ⟨k, out, hk, rfl, hkx, hol, HO, HCC, HE0, HK⟩ := hrel
      obtain ⟨a5, c5, e5⟩ := HO.out.at.shape
      rw [ofCs_len] at e5
      by_cases hlt : k < m
      · have hkl : k < ns.length := by have := HML.out; omega
        have hkn : (k : Int) < (m : Int) := by omega
        obtain ⟨fa', fc', he1, ⟨he6, _⟩, _, he2⟩ := HS.out
        injection he1 with he3 he4 he5
        subst he3
        have hkc : k ≤ c := by rw [he5]; omega
        have hkc1 : ¬ (c : Int) < (k : Int) := by omega
        have hkc2 : (k : Int) ≤ (c : Int) := by omega
        obtain ⟨b, o, rfl, hce⟩ := he2 k (by simpa [ofN] using hkl)
        obtain ⟨s, hs⟩ : ∃ s, s = ns[k] := ⟨_, rfl⟩
        have e1 : (ofN ns)[k]'(by simpa [ofN] using hkl) = (s : Int) := by rw [hs]; simp [ofN]
        rw [e1] at hce
        have hcr := HK.out.cell (HK2.out.cell hce)
        have HSS := Lib.hid hs
        obtain ⟨ol, hol2⟩ : ∃ ol, ol = out.length := ⟨_, rfl⟩
        rw [← hol2] at e5 hol
        obtain ⟨most, hmost⟩ : ∃ most, most = 1024 - ol := ⟨_, rfl⟩
        have HWK : Hid (∀ va l (s : Nat) W, CbsAt W va (ofCs l) → l.length ≤ 1024 → (∀ c ∈ l, c.1 < 16777216 ∧ c.2 < 16777216) → s < 16777216 → Calls Tryz.prog 107 #[va, .int .i64 s, .int .i64 (1024 - (ol : Int))] W fun e w' => ((most < (withK l s).length ∧ e = .returned (.tuple #[.slice none 0 0, errV 4])) ∨ (¬ most < (withK l s).length ∧ ∃ v, e = .returned (.tuple #[v, .nilIface]) ∧ CbsAt w' v (ofCs (withK l s)))) ∧ Kept W w') := Lib.hid fun va l s W h1 h2 h3 h4 => by
          have e : (1024 : Int) - (ol : Int) = (most : Int) := by omega
          rw [e]
          exact HWI.out va l s most W h1 h2 h3 h4 (by omega)
        have HOL := Lib.hid hol2
        have HMO := Lib.hid hmost
        have hmo : most ≤ 1024 := by omega
        have hki : ¬ (k : Int) < 0 := by omega
        subst e5
        clear he2 he4 he5 he6 e1 hce hs hol2 hmost
        go_wp2_with fail
        obtain ⟨wo, rfl⟩ : ∃ wo : World, wo = wr := ⟨_, rfl⟩
        obtain ⟨w5, hw5⟩ : ∃ w5, w5 = wo.alloc (.cells #[.int .i64 s, .int .i64 0] 77) := ⟨_, rfl⟩
        have HL5 : Hid (CbsAt w5 (.slice (some ⟨wo.heap.size, 0, none⟩) 1 1) (ofCs [(s, 0)])) := Lib.hid (by rw [hw5]; exact (own_cube wo 0 ((s : Int), ((0 : Nat) : Int)) (Nat.zero_le _)).at)
        have HK5 : Hid (Kept wo w5) := Lib.hid (by rw [hw5]; exact (Kept.refl wo).alloc _)
        have hs24 : s < 16777216 := HMK.out s (by rw [HSS.out]; exact List.getElem_mem hkl)
        rw [← hw5]
        have HB5 : Hid (∀ c ∈ [(s, 0)], c.1 < 16777216 ∧ c.2 < 16777216) := Lib.hid fun c hc => by rw [List.mem_singleton] at hc; rw [hc]; exact ⟨hs24, by show (0 : Nat) < 16777216; decide⟩
        clear hw5 hs24
        go_loopg [9, 36] k (fun jx s9 s36 W => ∃ (j : Nat) (l : List (Nat × Nat)), j ≤ k ∧ s36 = .int .i64 j ∧ k - j ≤ jx ∧ l.length ≤ 1024 ∧ Hid (CbsAt W s9 (ofCs l)) ∧ Hid (ownC most ((ns.take k).drop j) l = ownC most (ns.take k) [(s, 0)]) ∧ Hid (∀ c ∈ l, c.1 < 16777216 ∧ c.2 < 16777216) ∧ Hid (Kept wo W))
        case atStart => exact ⟨0, [(s, 0)], Nat.zero_le _, rfl, by omega, by simp, HL5, Lib.hid (by rw [List.drop_zero]), HB5, HK5⟩
        case round =>
          obtain ⟨j, l, hj, rfl, hjx, hll, HL, HOW, HBL, HKW⟩ := hrel
          obtain ⟨a9, c9, e9⟩ := HL.out.shape
          rw [ofCs_len] at e9
          by_cases hjk : j < k
          · have hji : (j : Int) < (k : Int) := by omega
            have hjl : j < ns.length := by omega
            have hce2 := HS.out
            obtain ⟨fa', fc', he1, _, _, he2⟩ := hce2
            injection he1 with he3 he4 he5
            subst he3
            obtain ⟨b', o', he7, hce⟩ := he2 j (by simpa [ofN] using hjl)
            cases he7
            obtain ⟨y, hy⟩ : ∃ y, y = ns[j] := ⟨_, rfl⟩
            have e1 : (ofN ns)[j]'(by simpa [ofN] using hjl) = (y : Int) := by rw [hy]; simp [ofN]
            rw [e1] at hce
            have hcy := HKW.out.cell (HK.out.cell (HK2.out.cell hce))
            have hy24 : y < 16777216 := HMK.out y (by rw [hy]; exact List.getElem_mem hjl)
            have HST : Hid (ownC most ((ns.take k).drop j) l = if most < (withK l y).length then none else ownC most ((ns.take k).drop (j + 1)) (withK l y)) := Lib.hid (by
              have h := ownC_step most (ns.take k) l j (by rw [List.length_take]; omega)
              have e : (ns.take k)[j]'(by rw [List.length_take]; omega) = y := by rw [List.getElem_take, hy]
              rw [e] at h
              exact h)
            have HWC := Lib.hid (HWK.out _ l y _ HL.out hll HBL.out hy24)
            have HBW := Lib.hid (with_lt (b := y) (l := l) HBL.out)
            subst e9
            clear he2 he4 he5 hce e1 hy hy24
            go_wp2_with (go_at_call 107; refine HWC.out.mono ?_)
            rintro e w6 ⟨h6, hk6⟩
            have HK6 := Lib.hid hk6
            rcases h6 with ⟨hlt6, rfl⟩ | ⟨hge6, v6, rfl, hv6⟩
            · rw [errV_pos (by omega)]
              have HN : Hid (R = none) := Lib.hid (by
                rw [← HCC.out, cubesC_step (ns.take k) out ns k hkl, ← HOL.out, ← HMO.out, ← HSS.out, ← HOW.out, HST.out, if_pos hlt6])
              clear hk6 hlt6
              go_wp2
              go_ret2
              obtain ⟨e1, e2⟩ := HQN.out HN.out
              rw [e1, e2]
              exact ⟨⟨_, rfl, CbsAt.nil _⟩, HK2.out.trans (HK.out.trans (HKW.out.trans HK6.out))⟩
            · have HV6 := Lib.hid hv6
              have HG6 := Lib.hid hge6
              clear hk6 hv6 hge6
              go_wp2_with fail
              go_roundg (k - (j + 1))
              case measure => omega
              case rel => exact ⟨j + 1, withK l y, by omega, by go_num, Nat.le_refl _, by have := HG6.out; omega, HV6, Lib.hid (by rw [← HOW.out, HST.out, if_neg HG6.out]), HBW, Lib.hid (HKW.out.trans HK6.out)⟩
          · have hje : j = k := by omega
            have hji : ¬ (j : Int) < (k : Int) := by omega
            have HOS : Hid (ownC most (ns.take k) [(s, 0)] = some l) := Lib.hid (by
              rw [← HOW.out, hje, List.drop_of_length_le (by rw [List.length_take]; omega)]
              rfl)
            have HFT : Hid (ol + l.length ≤ 1024) := Lib.hid (own_fits HOS.out HMO.out hol fun h => by rw [HOL.out, HE0.out h]; rfl)
            have HCN : Hid (cubesC (ns.take (k + 1)) (out ++ l) (ns.drop (k + 1)) = R) := Lib.hid (by
              have h := HCC.out
              rw [cubesC_step (ns.take k) out ns k hkl, ← HOL.out, ← HMO.out, ← HSS.out, HOS.out] at h
              rw [List.take_succ_eq_append_getElem hkl, ← HSS.out]
              exact h)
            subst e9
            clear hje
            go_wp2_with (at_builtin; refine app_cbs rfl _ _ rfl w2.heap.size _ (ofCs out) rfl (HO.out.kept HKW.out) _ (ofCs l) rfl HL.out (by rw [ofCs_len, ofCs_len, ← HOL.out]; have := HFT.out; omega) (Nat.le_trans HK.out.size HKW.out.size) ?_; intro v' w' h5 _ h6; have H5 := Lib.hid h5; have H6 := Lib.hid h6; clear h5 h6)
            go_roundg (m - (k + 1))
            case measure => omega
            case rel =>
              refine ⟨k + 1, out ++ l, by omega, by go_num, Nat.le_refl _, by rw [List.length_append, ← HOL.out]; exact HFT.out, Lib.hid (by rw [ofCs_app]; exact H5.out), HCN, Lib.hid (fun h => ?_), Lib.hid ((HK.out.trans HKW.out).app H6.out)⟩
              have := congrArg List.length h
              rw [List.length_take, List.length_nil] at this
              omega
      · have hke : k = m := by omega
        have hkn : ¬ (k : Int) < (m : Int) := by omega
        have HE : Hid (R = some out) := Lib.hid (by
          have h := HCC.out
          rw [hke, HML.out, List.drop_length] at h
          exact h.symm)
        subst e5
        clear hke
        go_wp2
        go_ret2
        obtain ⟨e1, e2⟩ := HQS.out _ HE.out
        rw [e1, e2]
        exact ⟨⟨_, rfl, HO.out.at⟩, HK2.out.trans HK.out⟩
  · have hcr : cubR xs = (chkI xs, []) := by unfold cubR; rw [if_pos h0]
    rw [hcr]
    obtain ⟨q, hq⟩ : ∃ q, q = chkI xs := ⟨_, rfl⟩
    rw [← hq] at HC h0 ⊢
    rw [errV_pos h0] at HC ⊢
    clear hv hq hcr
    go_enter Tryz.func49, Tryz.ntmps49
    go_wp2_with (go_at_call 106; refine (HC.out _ (Kept.refl _)).mono ?_; rintro e w2 ⟨rfl, hk2⟩; have HK2 := Lib.hid hk2; clear hk2)
    go_ret2
    exact ⟨⟨_, rfl, CbsAt.nil _⟩, HK2.out⟩
end Go.Proofs.YthiemjodcklejaaGreatDoor

/-
  Walks: faultlinebase.Cubes of equal lists; faultlinelaw38.many.
-/
namespace Go.Proofs.YthiemjodcklejaaGreatDoor
open Go.RowKit

set_option maxRecDepth 100000 in
set_option maxHeartbeats 2000000 in
theorem cubes_true (L : List (Int × Int)) (va vb : Value) (w : World) (ha : CbsAt w va L) (hb : CbsAt w vb L) :
    Calls Tryz.prog 52 #[va, vb] w fun e w' => e = .returned (.bool true) ∧ Kept w w' := by
  have HA := Lib.hid ha
  have HB := Lib.hid hb
  have hl := ha.len
  obtain ⟨a0, c0, rfl⟩ := ha.shape
  obtain ⟨a1, c1, rfl⟩ := hb.shape
  obtain ⟨n, hn⟩ : ∃ n, n = L.length := ⟨_, rfl⟩
  rw [← hn] at HA HB hl ⊢
  have HN := Lib.hid hn
  clear ha hb hn
  go_enter Tryz.func52, Tryz.ntmps52
  go_wp2
  go_loopg [13] n (fun kx s13 wr => ∃ k : Nat, k ≤ n ∧ s13 = .int .i64 k ∧ n - k ≤ kx ∧ Hid (Kept w wr))
  case atStart => exact ⟨0, Nat.zero_le _, rfl, by omega, Lib.hid (Kept.refl _)⟩
  case round =>
    obtain ⟨k, hk, rfl, hkx, HK⟩ := hrel
    by_cases hlt : k < n
    · have hkl : k < L.length := by have := HN.out; omega
      obtain ⟨b1, o1, rfl, g1, g2⟩ := HA.out.get k hkl
      obtain ⟨b2, o2, rfl, g3, g4⟩ := HB.out.get k hkl
      have x1 := HK.out.cell g1
      have x2 := HK.out.cell g2
      have x3 := HK.out.cell g3
      have x4 := HK.out.cell g4
      rw [← Nat.add_assoc] at x2 x4
      generalize (L.getD k default).1 = x at *
      generalize (L.getD k default).2 = y at *
      have hki : (k : Int) < (n : Int) := by omega
      have e1 : ((x : Int) == (x : Int)) = true := by simp
      have e2 : ((y : Int) == (y : Int)) = true := by simp
      clear g1 g2 g3 g4 hkl
      go_wp2
      go_quiet (fail)
      go_wp2
      go_roundg (n - (k + 1))
      case measure => omega
      case rel => exact ⟨k + 1, by omega, by go_num, Nat.le_refl _, Lib.hid (HK.out.drewN _)⟩
    · have hki : ¬ (k : Int) < (n : Int) := by omega
      go_wp2
      go_ret
      exact ⟨rfl, HK.out⟩
/-- A list is too long to be looked at. -/
def manyB (n most : Nat) : Bool := (decide (40 < n) && decide (n ≤ most)) || decide (3000 < n)
end Go.Proofs.YthiemjodcklejaaGreatDoor

/-
  Walks: writing to a strings.Builder that is new.
-/
namespace Go.Proofs.YthiemjodcklejaaGreatDoor
open Go.RowKit

set_option maxHeartbeats 1000000 in
set_option maxRecDepth 100000 in
theorem bcheck_new (b : Nat) (w : World) (h0 : w.cell? ⟨b, 0, none⟩ = some (.pointer none)) (hsh : w.shape? b = some (178, 2)) (hfz : w.frozen? ⟨b, 0, none⟩ = false) :
    Calls Tryz.prog 228 #[.pointer (some ⟨b, 0, none⟩)] w fun e w' => e = .returned (.tuple #[]) ∧ w' = w.setCell ⟨b, 0, none⟩ (.pointer (some ⟨b, 0, none⟩)) := by
  have hsz : (Tryz.prog.info? 178).map (fun i => i.size) = some 2 := by kernel_rfl
  obtain ⟨j, hj, hjs⟩ := Option.map_eq_some_iff.1 hsz
  have hne : j.size ≠ 0 := by rw [hjs]; decide
  go_enter Tryz.func228, Tryz.ntmps228
  go_wp2
  rw [Lib.run_to_unsafe w ⟨b, 0, none⟩ Tryz.underlying175 Tryz.underlying246 hj hne hsh (Nat.zero_lt_succ 1)]
  simp only [Result.andThen]
  rw [Oper.upon_value]
  go_wp2
  rw [run_callFunc_extern Tryz.func258 (by kernel_rfl) (by kernel_rfl) (by kernel_rfl) (e := Extern.AbiNoEscape.same) (by kernel_rfl)]
  rw [Lib.run_noEscape]
  simp only [Result.andThen]
  rw [Oper.upon_value]
  go_wp2
  rw [Lib.run_from_unsafe w ⟨b, 0, none⟩ Tryz.underlying246 Tryz.underlying175 hj hsh Go.Proofs.Tryz.Builder_Extra_169.liesBuilder]
  simp only [Result.andThen]
  rw [Oper.upon_value]
  go_wp2
  go_end0
  exact ⟨rfl, rfl⟩
set_option maxHeartbeats 2000000 in
set_option maxRecDepth 100000 in
/-- WriteString to a new builder. -/
theorem bwrite_new (B b : Nat) (s : ByteArray) (w : World) (hB : B ≤ b) (hbk : w.heap[b]? = some (.cells #[.pointer none, .slice none 0 0] 178 (0, 0))) (hlen : s.size ≤ 140737488355328) (hBw : B ≤ w.heap.size) :
    Calls Tryz.prog 166 #[.pointer (some ⟨b, 0, none⟩), .string s] w fun e w' => e = .returned (.tuple #[.int .i64 s.size, .nilIface]) ∧ (Lib.BuilderAt 178 5 B b (.pointer (some ⟨b, 0, none⟩)) (Lib.strCells s) w' ∧ Below B w w') := by
  obtain ⟨i0, hi, hz0, hz1, hz2⟩ := info_parts Go.Proofs.Tryz.Builder_Extra_169.infoByte
  have hlt : b < w.heap.size := by
    rcases Nat.lt_or_ge b w.heap.size with h' | h'
    · exact h'
    · simp [Array.getElem?_eq_none h'] at hbk
  have e0 : w.cell? ⟨b, 0, none⟩ = some (.pointer none) := by simp [World.cell?, hbk]
  have ef : w.frozen? ⟨b, 0, none⟩ = false := Lib.frozen_of_heap hbk 0
  have es : w.shape? b = some (178, 2) := by simp [World.shape?, hbk]
  obtain ⟨w1, hw1⟩ : ∃ w1, w1 = w.setCell ⟨b, 0, none⟩ (.pointer (some ⟨b, 0, none⟩)) := ⟨_, rfl⟩
  have HCK : Hid (Calls Tryz.prog 228 #[.pointer (some ⟨b, 0, none⟩)] w fun e w' => e = .returned (.tuple #[]) ∧ w' = w1) := Lib.hid (by rw [hw1]; exact bcheck_new b w e0 es ef)
  obtain ⟨v, hv⟩ : ∃ v : Value, v = .slice none 0 0 := ⟨_, rfl⟩
  have HOW : Hid (w1.ownsRow B 5 1 v 0 []) := Lib.hid (by rw [hv]; exact World.ownsRow_nil _ _ _ _)
  have HNB : Hid (v.ownBlock = none) := Lib.hid (by rw [hv]; rfl)
  have hb1 : w1.heap[b]? = some (.cells #[.pointer (some ⟨b, 0, none⟩), v] 178 (0, 0)) := by
    rw [hw1, hv]
    have := heap_setCell_same w b 0 _ _ (.pointer (some ⟨b, 0, none⟩)) hbk
    simpa using this
  have hk1 : Below B w w1 := by rw [hw1]; exact (Below.refl B w).setCell (p := ⟨b, 0, none⟩) hB _
  have hs1 : w1.heap.size = w.heap.size := by rw [hw1]; simp
  have c0 : w1.cell? ⟨b, 0, none⟩ = some (.pointer (some ⟨b, 0, none⟩)) := by rw [Lib.cell_of_heap hb1]; rfl
  have c1 : w1.cell? ⟨b, 1, none⟩ = some v := by rw [Lib.cell_of_heap hb1]; rfl
  have HB1 := Lib.hid hb1
  have HK1 := Lib.hid hk1
  have HI := Lib.hid hi
  have HZ0 := Lib.hid hz0
  have HZ1 := Lib.hid hz1
  have HZ2 := Lib.hid hz2
  clear hw1 hv hbk e0 ef es hb1 hk1 hi hz0 hz1 hz2
  go_enter Tryz.func166, Tryz.ntmps166
  go_wp2_with (go_at_call 228; refine HCK.out.mono ?_)
  rintro e w1' ⟨rfl, rfl⟩
  go_wp2_with (at_builtin; refine Lib.wpList_append_own_string _ rfl _ _ 176 9 rfl B 5 i0 Tryz.underlying176 Tryz.underlying9 HI.out HZ0.out HZ1.out HZ2.out v 0 [] rfl HOW.out s rfl ?c3 ?c4 ?c5 ?_)
  case c3 => unfold maxLen; omega
  case c4 => omega
  case c5 => omega
  intro v' w2 hown' hgrow _
  have hb2 : w2.heap[b]? = some (.cells #[.pointer (some ⟨b, 0, none⟩), v] 178 (0, 0)) := by
    rw [hgrow.block b (by rw [hs1]; exact hlt) (fun e => by rw [HNB.out] at e; cases e)]
    exact HB1.out
  have d0 : w2.cell? ⟨b, 0, none⟩ = some (.pointer (some ⟨b, 0, none⟩)) := by rw [Lib.cell_of_heap hb2]; rfl
  have d1 : w2.cell? ⟨b, 1, none⟩ = some v := by rw [Lib.cell_of_heap hb2]; rfl
  have f1 : w2.frozen? ⟨b, 1, none⟩ = false := Lib.frozen_of_heap hb2 1
  obtain ⟨ao, n', cap, rfl⟩ : ∃ ao n' cap, v' = .slice ao n' cap := by
    rcases hown'.2 with ⟨hv, _⟩ | ⟨g, cap, cur, hv, _⟩
    · exact ⟨_, _, _, hv⟩
    · exact ⟨_, _, _, hv⟩
  go_wp2
  go_ret2
  refine ⟨rfl, ?_, ?_⟩
  · exact Lib.BuilderAt.put (T := 178) (e := 5) hB hb2 (bs' := Lib.strCells s) (by simpa [Lib.strCells_length] using hown') Go.Proofs.Tryz.Builder_Extra_169.neB5
  · exact (HK1.out.grown hgrow (by rw [hs1]; exact hBw) (fun k hk => by rw [HNB.out] at hk; cases hk)).setCell (p := ⟨b, 1, none⟩) hB _
end Go.Proofs.YthiemjodcklejaaGreatDoor

/-
  Walk: natural.nine.
-/
namespace Go.Proofs.YthiemjodcklejaaGreatDoor
open Go.RowKit

/-- The digits so far, from behind. -/
def arrK (r k : Nat) : List Value := (List.range 9).map fun j => .int .u8 (((if 9 ≤ j + k then 48 + r / 10 ^ (8 - j) % 10 else 0 : Nat)) : Int)
theorem arrK_step (r k : Nat) (hk : k < 9) : (arrK r k).set (8 - k) (.int .u8 ((48 + r / 10 ^ k % 10 : Nat) : Int)) = arrK r (k + 1) := by
  match k, hk with
  | 0, _ => rfl
  | 1, _ => rfl
  | 2, _ => rfl
  | 3, _ => rfl
  | 4, _ => rfl
  | 5, _ => rfl
  | 6, _ => rfl
  | 7, _ => rfl
  | 8, _ => rfl
def nineB (r : Nat) : List UInt8 := (List.range 9).map fun j => UInt8.ofNat (48 + r / 10 ^ (8 - j) % 10)
theorem nineB_len (r : Nat) : (nineB r).length = 9 := by unfold nineB; simp
theorem nineB_get (r j : Nat) (h : j < (nineB r).length) : (((nineB r)[j].toNat : Nat) : Int) = ((48 + r / 10 ^ (8 - j) % 10 : Nat) : Int) := by
  rw [nineB_len] at h
  have : r / 10 ^ (8 - j) % 10 < 10 := Nat.mod_lt _ (by decide)
  simp [nineB]
  omega
theorem arrK_get (r j : Nat) (h : j < 9) : (arrK r 9)[j]'(by simp [arrK]; omega) = .int .u8 ((48 + r / 10 ^ (8 - j) % 10 : Nat) : Int) := by
  simp [arrK]
set_option maxRecDepth 100000 in
set_option maxHeartbeats 4000000 in
theorem nine_any (r : Nat) (hr : r < 4294967296) (w : World) : Calls Tryz.prog 165 #[.int .u32 r] w fun e w' => e = .returned (.string ⟨(nineB r).toArray⟩) ∧ Kept w w' := by
  obtain ⟨w1, hw1⟩ : ∃ w1, w1 = w.alloc (.cells #[.int .u8 0, .int .u8 0, .int .u8 0, .int .u8 0, .int .u8 0, .int .u8 0, .int .u8 0, .int .u8 0, .int .u8 0] 218) := ⟨_, rfl⟩
  have HR1 : Hid (RowAt w1 w.heap.size 218 (arrK r 0)) := Lib.hid (by rw [hw1]; exact RowAt.made w #[.int .u8 0, .int .u8 0, .int .u8 0, .int .u8 0, .int .u8 0, .int .u8 0, .int .u8 0, .int .u8 0, .int .u8 0] 218)
  have HK1 : Hid (Kept w w1) := Lib.hid (by rw [hw1]; exact (Kept.refl w).alloc _)
  have HW1 := Lib.hid hw1
  have HCV : Hid (∀ W, RowAt W w.heap.size 218 (arrK r 9) → (convert 176 9 (.slice (some ⟨w.heap.size, 0, none⟩) 9 9)).run Tryz.prog W = .ok (.string ⟨(nineB r).toArray⟩) W) := Lib.hid fun W hW => by
    have h := run_convert_bytes_back (P := Tryz.prog) W 176 9 5 ⟨w.heap.size, 0, none⟩ 9 (nineB r) Tryz.underlying176 Tryz.underlying5 Tryz.underlying9 (fun j hj => by
      have hj9 : j < 9 := by rw [nineB_len] at hj; exact hj
      have h1 := hW.cell (i := j) (by simp [arrK]; omega)
      rw [arrK_get r j hj9, ← nineB_get r j hj] at h1
      rw [show ({ block := w.heap.size, off := 0 } : Addr).add j = ⟨w.heap.size, j, none⟩ by unfold Addr.add; split <;> simp_all]
      exact h1)
    rw [nineB_len] at h
    exact h
  clear hw1
  go_enter Tryz.func165, Tryz.ntmps165
  go_wp2_with fail
  try rw [← HW1.out]
  go_loopg [0, 4] 9 (fun kx s0 s4 wr => ∃ k : Nat, k ≤ 9 ∧ s4 = .int .i64 (8 - (k : Int)) ∧ 9 - k ≤ kx ∧ s0 = .int .u32 (r / 10 ^ k : Nat) ∧ Hid (RowAt wr w.heap.size 218 (arrK r k)) ∧ Hid (Kept w wr))
  case atStart => exact ⟨0, Nat.zero_le _, rfl, by omega, by simp, HR1, HK1⟩
  case round =>
    obtain ⟨k, hk, rfl, hkx, rfl, HR, HK⟩ := hrel
    by_cases hlt : k < 9
    · have hkn : 0 ≤ (8 - (k : Int)) := by omega
      have HST := Lib.hid (arrK_step r k hlt)
      have hd : r / 10 ^ k < 4294967296 := Nat.lt_of_le_of_lt (Nat.div_le_self _ _) hr
      have HDD : Hid (r / 10 ^ (k + 1) = r / 10 ^ k / 10) := Lib.hid (by rw [Nat.pow_succ, Nat.div_div_eq_div_mul])
      obtain ⟨m, hm⟩ : ∃ m, m = r / 10 ^ k := ⟨_, rfl⟩
      rw [← hm] at hd HST HDD ⊢
      obtain ⟨d, hdd⟩ : ∃ d, d = m % 10 := ⟨_, rfl⟩
      have hd10 : d < 10 := by omega
      have f0 := HR.out.free (8 - k)
      have HLT : Hid (8 - k < (arrK r k).length) := Lib.hid (by simp [arrK]; omega)
      have hc := HR.out.cell (i := 8 - k) HLT.out
      have hix : (8 - (k : Int)).toNat = 8 - k := by omega
      have hi9 : (8 - (k : Int)) < 9 := by omega
      have p1 : Int.tmod (m : Int) 10 = (d : Int) := by rw [hdd]; exact Int.ofNat_tmod m 10
      have p2 : IntKind.u32.wrap (48 + (d : Int)) = ((48 + d : Nat) : Int) := by rw [IntKind.wrap_u32]; omega
      have p3 : IntKind.u8.wrap ((48 + d : Nat) : Int) = ((48 + d : Nat) : Int) := by rw [IntKind.wrap_u8]; omega
      clear hm
      go_wp2
      go_roundg (9 - (k + 1))
      case measure => omega
      case rel =>
        refine ⟨k + 1, by omega, by go_num, Nat.le_refl _, ?_, ?_, ?_⟩
        · rw [HDD.out]; simp
        · refine Lib.hid ?_
          have h := HR.out.store (8 - k) (.int .u8 ((48 + m % 10 : Nat) : Int))
          rw [HST.out] at h
          simpa using h
        · exact Lib.hid (HK.out.store (Nat.le_refl _) _ _)
    · have hke : k = 9 := by omega
      have hkn : ¬ 0 ≤ (8 - (k : Int)) := by omega
      rw [hke] at HR
      have hcv := HCV.out wr HR.out
      clear hke
      go_wp2
      go_ret
      exact ⟨rfl, HK.out⟩
end Go.Proofs.YthiemjodcklejaaGreatDoor
