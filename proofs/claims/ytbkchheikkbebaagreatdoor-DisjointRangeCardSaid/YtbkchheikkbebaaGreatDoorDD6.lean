import Derived.WalkKit
import Derived.WalkSpells
import Derived.WalkLawsBesides
import Derived.Deep.QuietTactic
import Derived.BigQuiet
import Derived.Lib.Hide
import Derived.Shelf.Abstract
import Derived.Deep.RegionWith
import Derived.Laws.AppendOwnNone
import Derived.Lib.AppendZerosOnto
import Derived.Lib.SliceRun
import Derived.Lib.SlicesCompact
import Derived.Shelf.SlSortCmp.NoneTotal
import Derived.Maps.OwnOps
import Derived.Maps.OwnSet
import Derived.Maps.Views
import Derived.Deep.MidRow
import Derived.Deep.RegionHeld3
import Derived.Deep.AppendLies
import Derived.Deep.RegionLaw
import Derived.IntWalk
import Derived.StillTailTactics
import Derived.ProofKit
import Derived.OpenShut
import Derived.SizedLaws
import Derived.Lib.SmallJoins
import Derived.Deep.Slices
import Derived.Deep.Fields
import Derived.Deep.Strs
import Derived.Carry
import Derived.BigRegion
import Derived.ChangeAlike
import Derived.Deep.DeepCutAuto
import Derived.Deep.LoopGhost
import Derived.Lib.ItoaNum
import Derived.RegionTactic
import Derived.Shelf.SlSortCmp.PdqK
import Derived.Sort.LotA
import Derived.Sort.LotD2
import Derived.Lib.BitFns
import Derived.Deep.CutBlock
import Derived.Test.YtbkchheikkbebaaGreatDoorDD5
import Derived.Test.YtbkchheikkbebaaGreatDoorDD1
/-
  Walk: faultlineref35.Product.
-/
namespace Go.Proofs.YtbkchheikkbebaaGreatDoor
open Go.RowKit

/-- The product over the first elements of a list. -/
def prodE (L : List Nat) (ps : List Rw) (j : Nat) : Rat := (L.take j).foldl (fun (q : Rat) (i : Nat) => q * ratOf (ps.getD i default)) 1
end Go.Proofs.YtbkchheikkbebaaGreatDoor

/-
  Walks: faultlineref05.Valid, Cut, Count, Compare.
-/
namespace Go.Proofs.YtbkchheikkbebaaGreatDoor
open Go.RowKit

theorem and_pred (n : Nat) : 0 < n → n &&& (n - 1) < n ∧ pc n = pc (n &&& (n - 1)) + 1 := by
  induction n using Nat.strongRecOn with
  | ind n ih =>
    intro h0
    have bits : ∀ a b : Nat, a = b ↔ a % 2 = b % 2 ∧ a / 2 = b / 2 := fun a b => by omega
    by_cases h : n % 2 = 1
    · have e : n &&& (n - 1) = n - 1 := by
        rw [bits]
        have e1 : (n &&& (n - 1)) % 2 = 0 := by
          rw [show (2 : Nat) = 2 ^ 1 from rfl, Nat.and_mod_two_pow, show (n - 1) % 2 ^ 1 = 0 by omega]; simp
        have e2 : (n &&& (n - 1)) / 2 = n / 2 := by
          rw [show (2 : Nat) = 2 ^ 1 from rfl, Nat.and_div_two_pow, show (n - 1) / 2 ^ 1 = n / 2 ^ 1 by omega, Nat.and_self]
        omega
      rw [e]
      refine ⟨by omega, ?_⟩
      rw [pc_one n, pc_one (n - 1), show (n - 1) / 2 = n / 2 by omega]
      omega
    · have h2 := ih (n / 2) (by omega) (by omega)
      have e1 : (n &&& (n - 1)) % 2 = 0 := by
        rw [show (2 : Nat) = 2 ^ 1 from rfl, Nat.and_mod_two_pow, show n % 2 ^ 1 = 0 by omega]; simp
      have e2 : (n &&& (n - 1)) / 2 = n / 2 &&& (n / 2 - 1) := by
        rw [show (2 : Nat) = 2 ^ 1 from rfl, Nat.and_div_two_pow, show (n - 1) / 2 ^ 1 = n / 2 ^ 1 - 1 by omega]
      refine ⟨by omega, ?_⟩
      rw [pc_one n, pc_one (n &&& (n - 1)), e1, e2]
      omega
theorem rcut_any {n : Nat} (h : Mk n) (w : World) : Calls Tryz.prog 275 #[.int .i64 n] w fun e w' => e = .returned (.int .i64 n) ∧ w = w' := by
  have hc := cut_mk h
  go_enter Tryz.func275, Tryz.ntmps275
  go_wp2
  go_ret
  exact ⟨rfl, rfl⟩
theorem rvalid_any (s : Int) (w : World) : Calls Tryz.prog 223 #[.int .i64 s] w fun e w' => e = .returned (.bool (decide (0 ≤ s ∧ s ≤ 16777215))) ∧ w = w' := by
  by_cases h : 0 ≤ s
  · by_cases h2 : s < 16777216
    all_goals
      go_enter Tryz.func223, Tryz.ntmps223
      go_wp2
      go_ret
      exact ⟨by congr 2; simp; omega, rfl⟩
  · go_enter Tryz.func223, Tryz.ntmps223
    go_wp2
    go_ret
    exact ⟨by congr 2; simp; omega, rfl⟩
theorem rcount_any {n : Nat} (h : Mk n) (w : World) : Calls Tryz.prog 276 #[.int .i64 n] w fun e w' => e = .returned (.int .i64 (pc n)) ∧ w = w' := by
  obtain ⟨r, hr⟩ : ∃ r, r = pc n := ⟨_, rfl⟩
  rw [← hr]
  have HR := Lib.hid hr
  have h' := h
  clear hr
  go_enter Tryz.func276, Tryz.ntmps276
  go_wp2_with (go_at_call 275; refine (rcut_any h' _).mono ?_; rintro e w' ⟨rfl, rfl⟩)
  go_loop [0, 3] (fun s k => ∃ m q : Nat, s = .int .i64 m ∧ k = .int .i64 q ∧ m < 16777216 ∧ q ≤ 16777216 - m ∧ Hid (pc m + q = r)) (fun s _ => (intOf s).toNat)
  case atStart => exact ⟨n, 0, rfl, rfl, h, by omega, Lib.hid (by rw [HR.out]; rfl)⟩
  case round =>
    obtain ⟨m, q, rfl, rfl, hm, hq, HI⟩ := hrel
    by_cases h0 : 0 < m
    · have hp := and_pred m h0
      have e1 : bits .and .i64 (m : Int) ((m : Int) - 1) = ((m &&& (m - 1) : Nat) : Int) := by
        rw [show (m : Int) - 1 = ((m - 1 : Nat) : Int) by omega]
        exact and_i64 _ _ (by omega) (by omega)
      have hne : ((m : Int) == 0) = false := by simp; omega
      have hne2 : ((m : Int) != 0) = true := by simp; omega
      have HP := Lib.hid hp
      clear hp
      go_wp2
      go_round
      case rel => exact ⟨m &&& (m - 1), q + 1, rfl, by go_num, by have := HP.out; omega, by have := HP.out; omega, Lib.hid (by have := HP.out; have := HI.out; omega)⟩
      case measure => have := HP.out; simp [intOf]; omega
    · obtain rfl : m = 0 := by omega
      go_wp2
      go_ret
      have hqr : q = r := by have := HI.out; rw [pc_zero] at this; omega
      exact ⟨by rw [hqr]; rfl, rfl⟩
def cmpR (a b : Nat) : Int := if a = b then 0 else if ltK a b then -1 else 1
set_option maxHeartbeats 1000000 in
theorem rcompare_any {a b : Nat} (ha : Mk a) (hb : Mk b) (w : World) : Calls Tryz.prog 224 #[.int .i64 a, .int .i64 b] w fun e w' => e = .returned (.int .i64 (cmpR a b)) ∧ w = w' := by
  obtain ⟨r, hr⟩ : ∃ r, r = cmpR a b := ⟨_, rfl⟩
  rw [← hr]
  obtain ⟨x, hx⟩ : ∃ x, x = pc a := ⟨_, rfl⟩
  obtain ⟨y, hy⟩ : ∃ x, x = pc b := ⟨_, rfl⟩
  have HR := Lib.hid hr
  have HA : Hid (∀ W, Calls Tryz.prog 276 #[.int .i64 a] W fun e w' => e = .returned (.int .i64 x) ∧ W = w') := Lib.hid (hx ▸ fun W => rcount_any ha W)
  have HB : Hid (∀ W, Calls Tryz.prog 276 #[.int .i64 b] W fun e w' => e = .returned (.int .i64 y) ∧ W = w') := Lib.hid (hy ▸ fun W => rcount_any hb W)
  have CA : Hid (∀ W, Calls Tryz.prog 275 #[.int .i64 a] W fun e w' => e = .returned (.int .i64 a) ∧ W = w') := Lib.hid fun W => rcut_any ha W
  have CB : Hid (∀ W, Calls Tryz.prog 275 #[.int .i64 b] W fun e w' => e = .returned (.int .i64 b) ∧ W = w') := Lib.hid fun W => rcut_any hb W
  have HX := Lib.hid hx
  have HY := Lib.hid hy
  clear hr hx hy ha hb
  by_cases e : a = b
  · have h0 : r = 0 := by rw [HR.out, cmpR, if_pos e]
    subst h0
    have ee : ((a : Int) == (b : Int)) = true := by simp; omega
    clear HX HY
    clear e
    go_enter Tryz.func224, Tryz.ntmps224
    go_wp2_with (first
      | (go_at_call_of 275 (Value.int .i64 (a : Int)); refine (CA.out _).mono ?_; rintro e w' ⟨rfl, rfl⟩)
      | (go_at_call_of 275 (Value.int .i64 (b : Int)); refine (CB.out _).mono ?_; rintro e w' ⟨rfl, rfl⟩))
    go_ret
    exact ⟨rfl, rfl⟩
  · have ee : ((a : Int) == (b : Int)) = false := by simp; omega
    have HE := Lib.hid e
    clear e
    by_cases h1 : x < y
    · have h0 : r = -1 := by rw [HR.out, cmpR, if_neg HE.out, if_pos (.inl (by rw [← HX.out, ← HY.out]; exact h1))]
      subst h0
      have h1' : (x : Int) < (y : Int) := by omega
      go_enter Tryz.func224, Tryz.ntmps224
      go_wp2_with (first
        | (go_at_call_of 275 (Value.int .i64 (a : Int)); refine (CA.out _).mono ?_; rintro e w' ⟨rfl, rfl⟩)
        | (go_at_call_of 275 (Value.int .i64 (b : Int)); refine (CB.out _).mono ?_; rintro e w' ⟨rfl, rfl⟩)
        | (go_at_call_of 276 (Value.int .i64 (a : Int)); refine (HA.out _).mono ?_; rintro e w' ⟨rfl, rfl⟩)
        | (go_at_call_of 276 (Value.int .i64 (b : Int)); refine (HB.out _).mono ?_; rintro e w' ⟨rfl, rfl⟩))
      go_ret
      exact ⟨rfl, rfl⟩
    · have h1' : ¬ (x : Int) < (y : Int) := by omega
      by_cases h2 : x = y
      · have h2' : ((x : Int) == (y : Int)) = true := by simp; omega
        by_cases h3 : a < b
        · have h0 : r = -1 := by rw [HR.out, cmpR, if_neg HE.out, if_pos (.inr ⟨by rw [← HX.out, ← HY.out]; exact h2, h3⟩)]
          subst h0
          have h3' : (a : Int) < (b : Int) := by omega
          clear HX HY h1
          clear h2
          go_enter Tryz.func224, Tryz.ntmps224
          go_wp2_with (first
            | (go_at_call_of 275 (Value.int .i64 (a : Int)); refine (CA.out _).mono ?_; rintro e w' ⟨rfl, rfl⟩)
            | (go_at_call_of 275 (Value.int .i64 (b : Int)); refine (CB.out _).mono ?_; rintro e w' ⟨rfl, rfl⟩)
            | (go_at_call_of 276 (Value.int .i64 (a : Int)); refine (HA.out _).mono ?_; rintro e w' ⟨rfl, rfl⟩)
            | (go_at_call_of 276 (Value.int .i64 (b : Int)); refine (HB.out _).mono ?_; rintro e w' ⟨rfl, rfl⟩))
          go_ret
          exact ⟨rfl, rfl⟩
        · have h0 : r = 1 := by
            rw [HR.out, cmpR, if_neg HE.out, if_neg]
            rintro (h | h)
            · rw [← HX.out, ← HY.out] at h; exact h1 h
            · exact h3 h.2
          subst h0
          have h3' : ¬ (a : Int) < (b : Int) := by omega
          clear HX HY h1
          clear h2
          go_enter Tryz.func224, Tryz.ntmps224
          go_wp2_with (first
            | (go_at_call_of 275 (Value.int .i64 (a : Int)); refine (CA.out _).mono ?_; rintro e w' ⟨rfl, rfl⟩)
            | (go_at_call_of 275 (Value.int .i64 (b : Int)); refine (CB.out _).mono ?_; rintro e w' ⟨rfl, rfl⟩)
            | (go_at_call_of 276 (Value.int .i64 (a : Int)); refine (HA.out _).mono ?_; rintro e w' ⟨rfl, rfl⟩)
            | (go_at_call_of 276 (Value.int .i64 (b : Int)); refine (HB.out _).mono ?_; rintro e w' ⟨rfl, rfl⟩))
          go_ret
          exact ⟨rfl, rfl⟩
      · have h2' : ((x : Int) == (y : Int)) = false := by simp; omega
        have h0 : r = 1 := by
          rw [HR.out, cmpR, if_neg HE.out, if_neg]
          rintro (h | h)
          · rw [← HX.out, ← HY.out] at h; exact h1 h
          · rw [← HX.out, ← HY.out] at h; exact h2 h.1
        subst h0
        clear HX HY h1
        clear h2
        go_enter Tryz.func224, Tryz.ntmps224
        go_wp2_with (first
          | (go_at_call_of 275 (Value.int .i64 (a : Int)); refine (CA.out _).mono ?_; rintro e w' ⟨rfl, rfl⟩)
          | (go_at_call_of 275 (Value.int .i64 (b : Int)); refine (CB.out _).mono ?_; rintro e w' ⟨rfl, rfl⟩)
          | (go_at_call_of 276 (Value.int .i64 (a : Int)); refine (HA.out _).mono ?_; rintro e w' ⟨rfl, rfl⟩)
          | (go_at_call_of 276 (Value.int .i64 (b : Int)); refine (HB.out _).mono ?_; rintro e w' ⟨rfl, rfl⟩))
        go_ret
        exact ⟨rfl, rfl⟩
end Go.Proofs.YtbkchheikkbebaaGreatDoor

/-
  Walks: faultlineref05.Sort.
-/
namespace Go.Proofs.YtbkchheikkbebaaGreatDoor
open Go.RowKit

theorem IntsAt.take {w : World} {a : Option Addr} {c : Nat} {xs : List Int} (h : IntsAt w (.slice a xs.length c) xs) (k : Nat) (hk : k ≤ xs.length) : IntsAt w (.slice a k c) (xs.take k) := by
  obtain ⟨a', c', h1, ⟨h0, hn⟩, h2, h3⟩ := h
  cases h1
  refine ⟨a, c, by simp [Nat.min_eq_left hk], ⟨by simp; omega, hn⟩, by simp; omega, fun i hi => ?_⟩
  simp only [List.length_take] at hi
  obtain ⟨b, o, h4, h5⟩ := h3 i (by omega)
  exact ⟨b, o, h4, by simpa using h5⟩
theorem IntsAt.drop {w : World} {b o c : Nat} {xs : List Int} (h : IntsAt w (.slice (some ⟨b, o, none⟩) xs.length c) xs) (k : Nat) (hk : k ≤ xs.length) : IntsAt w (.slice (some ⟨b, o + k, none⟩) (xs.length - k) (c - k)) (xs.drop k) := by
  obtain ⟨a', c', h1, ⟨h0, hn⟩, h2, h3⟩ := h
  cases h1
  refine ⟨some ⟨b, o + k, none⟩, c - k, by simp, ⟨by simp; omega, fun h => by cases h⟩, by simp; omega, fun i hi => ?_⟩
  simp only [List.length_drop] at hi
  obtain ⟨b', o', h4, h5⟩ := h3 (k + i) (by omega)
  cases h4
  exact ⟨b, o + k, rfl, by simpa [Nat.add_assoc] using h5⟩
theorem SetsAt.take {w : World} {a : Option Addr} {c : Nat} {ns : List Nat} (h : SetsAt w (.slice a ns.length c) ns) (k : Nat) (hk : k ≤ ns.length) : SetsAt w (.slice a k c) (ns.take k) := by
  refine ⟨?_, fun n hn => h.2 n (List.mem_of_mem_take hn)⟩
  have := IntsAt.take (xs := ofN ns) (by simpa using h.1) k (by simpa using hk)
  simpa [ofN, List.map_take] using this
theorem SetsAt.drop {w : World} {b o c : Nat} {ns : List Nat} (h : SetsAt w (.slice (some ⟨b, o, none⟩) ns.length c) ns) (k : Nat) (hk : k ≤ ns.length) : SetsAt w (.slice (some ⟨b, o + k, none⟩) (ns.length - k) (c - k)) (ns.drop k) := by
  refine ⟨?_, fun n hn => h.2 n (List.mem_of_mem_drop hn)⟩
  have := IntsAt.drop (xs := ofN ns) (by simpa using h.1) k (by simpa using hk)
  simpa [ofN, List.map_drop] using this
theorem SetsAt.shape {w : World} {v : Value} {ns : List Nat} (h : SetsAt w v ns) : ∃ a c, v = .slice a ns.length c ∧ ns.length ≤ c ∧ (ns ≠ [] → ∃ b o, a = some ⟨b, o, none⟩) := by
  obtain ⟨⟨a, c, h1, ⟨h0, _⟩, _, h3⟩, _⟩ := h
  refine ⟨a, c, by simpa using h1, by simpa using h0, fun hne => ?_⟩
  have : 0 < (ofN ns).length := by simpa using List.length_pos_iff.2 hne
  obtain ⟨b, o, h4, _⟩ := h3 0 this
  exact ⟨b, o, h4⟩

def lenV : Value → Nat | .slice _ n _ => n | _ => 0
/-- What a merge has taken, and what is left. -/
structure MInv (ns zs xs ys : List Nat) : Prop where
  left : (zs ++ xs).Pairwise ltK
  right : (zs ++ ys).Pairwise ltK
  mem : ∀ z, z ∈ ns ↔ z ∈ zs ∨ z ∈ xs ∨ z ∈ ys
  len : zs.length + xs.length + ys.length ≤ ns.length
theorem MInv.start (ns : List Nat) (h : Nat) : MInv ns [] (sortK (ns.take h)) (sortK (ns.drop h)) := by
  refine ⟨by simpa using pair_sortK _, by simpa using pair_sortK _, fun z => ?_, ?_⟩
  · rw [mem_sortK, mem_sortK]
    have := List.mem_append (a := z) (s := ns.take h) (t := ns.drop h)
    rw [List.take_append_drop] at this
    simpa using this
  · have h1 := len_sortK (ns.take h)
    have h2 := len_sortK (ns.drop h)
    simp at h1 h2 ⊢
    omega
theorem MInv.eq {ns zs xs ys : List Nat} {x : Nat} (h : MInv ns zs (x :: xs) (x :: ys)) : MInv ns (zs ++ [x]) xs ys :=
  ⟨by simpa using h.left, by simpa using h.right, fun z => by rw [h.mem]; simp only [List.mem_append, List.mem_cons, List.not_mem_nil]; grind, by have := h.len; simp at this ⊢; omega⟩
theorem MInv.lt {ns zs xs ys : List Nat} {x y : Nat} (h : MInv ns zs (x :: xs) (y :: ys)) (hl : ltK x y) : MInv ns (zs ++ [x]) xs (y :: ys) := by
  refine ⟨by simpa using h.left, ?_, fun z => by rw [h.mem]; simp only [List.mem_append, List.mem_cons, List.not_mem_nil]; grind, by have := h.len; simp at this ⊢; omega⟩
  have h1 := List.pairwise_append.1 h.left
  have h2 := List.pairwise_append.1 h.right
  rw [List.pairwise_append]
  refine ⟨?_, h2.2.1, ?_⟩
  · rw [List.pairwise_append]; exact ⟨h1.1, by simp, fun a ha b hb => by simp at hb; subst hb; exact h1.2.2 a ha b (List.mem_cons_self ..)⟩
  · intro a ha b hb
    rcases List.mem_append.1 ha with ha | ha
    · exact h2.2.2 a ha b hb
    · simp at ha; subst ha
      rcases List.mem_cons.1 hb with e | e
      · rw [e]; exact hl
      · exact ltK_tr _ _ _ hl ((List.pairwise_cons.1 h2.2.1).1 b e)
theorem MInv.symm {ns zs xs ys : List Nat} (h : MInv ns zs xs ys) : MInv ns zs ys xs :=
  ⟨h.right, h.left, fun z => by rw [h.mem]; constructor <;> (intro h; rcases h with h | h | h <;> simp_all), by have := h.len; omega⟩
theorem MInv.gt {ns zs xs ys : List Nat} {x y : Nat} (h : MInv ns zs (x :: xs) (y :: ys)) (hl : ltK y x) : MInv ns (zs ++ [y]) (x :: xs) ys := (h.symm.lt hl).symm
theorem MInv.doneL {ns zs ys : List Nat} (h : MInv ns zs [] ys) : zs ++ [] ++ ys = sortK ns := by
  rw [List.append_nil]
  exact sortK_unique ns _ h.right fun x => by rw [h.mem]; simp
theorem MInv.doneR {ns zs xs : List Nat} (h : MInv ns zs xs []) : zs ++ xs ++ [] = sortK ns := by
  rw [List.append_nil]
  exact sortK_unique ns _ h.left fun x => by rw [h.mem]; simp
theorem MInv.masks {ns zs xs ys : List Nat} (h : MInv ns zs xs ys) (hm : ∀ n ∈ ns, Mk n) : (∀ n ∈ zs, Mk n) ∧ (∀ n ∈ xs, Mk n) ∧ ∀ n ∈ ys, Mk n :=
  ⟨fun n hn => hm n ((h.mem n).2 (.inl hn)), fun n hn => hm n ((h.mem n).2 (.inr (.inl hn))), fun n hn => hm n ((h.mem n).2 (.inr (.inr hn)))⟩
/-- l[1:] of a list with a head. -/
abbrev restV (b o n c : Nat) : Value := .slice (if c = 1 then some ⟨b, o, none⟩ else some ⟨b, o + 1, none⟩) n (c - 1)
theorem SetsAt.rest {w : World} {b o c : Nat} {x : Nat} {xs : List Nat} (h : SetsAt w (.slice (some ⟨b, o, none⟩) (xs.length + 1) c) (x :: xs)) : SetsAt w (restV b o xs.length c) xs := by
  have h1 := SetsAt.drop (ns := x :: xs) h 1 (by simp)
  unfold restV
  obtain ⟨a', c', h2, h3, _⟩ := h.shape
  cases h2
  by_cases hc : c = 1
  · rw [if_pos hc]
    have : xs = [] := List.eq_nil_of_length_eq_zero (by simp at h3; omega)
    subst this
    subst hc
    exact ⟨⟨_, 0, rfl, ⟨by simp, fun h => by cases h⟩, by simp, fun i hi => by simp at hi⟩, by simp⟩
  · rw [if_neg hc]
    simpa using h1
theorem SetsAt.head {w : World} {b o c m : Nat} {x : Nat} {xs : List Nat} (h : SetsAt w (.slice (some ⟨b, o, none⟩) m c) (x :: xs)) : w.cell? ⟨b, o, none⟩ = some (.int .i64 x) := by
  obtain ⟨⟨a', c', h2, _, _, h3⟩, _⟩ := h
  obtain ⟨b', o', h4, h5⟩ := h3 0 (by simp)
  cases h2
  cases h4
  simpa using h5
theorem sorted_small {ns : List Nat} (h : ns.length < 2) : sortK ns = ns := by
  match ns, h with
  | [], _ => rfl
  | [x], _ => rfl
theorem own_empty (w : World) (B : Nat) (hB : B ≤ w.heap.size) : OwnInts (w.alloc (.cells #[] 3)) B (.slice (some ⟨w.heap.size, 0, none⟩) 0 0) [] :=
  ⟨⟨by simp, .inr ⟨w.heap.size, 0, #[], rfl, hB, heap_alloc_new w _, Nat.le_refl _, by unfold maxLen; omega, by simp, by simp⟩⟩, by simp⟩
set_option maxRecDepth 100000 in
set_option maxHeartbeats 4000000 in
theorem rsort_any : ∀ (k : Nat) (ns : List Nat) (v : Value) (w : World), ns.length ≤ k → SetsAt w v ns → ns.length ≤ 8796093022208 →
    Calls Tryz.prog 163 #[v] w fun e w' => (∃ v', e = .returned v' ∧ OwnSets w' 0 v' (sortK ns)) ∧ Kept w w' := by
  intro k
  induction k using Nat.strongRecOn with
  | ind k ih =>
    intro ns v w hk hv hl
    obtain ⟨a, c, rfl, hc, hne⟩ := hv.shape
    by_cases h2 : ns.length < 2
    · have h2' : (ns.length : Int) < 2 := by omega
      have HV := Lib.hid hv
      have HS := Lib.hid (sorted_small h2)
      clear ih hne hv h2
      go_enter Tryz.func163, Tryz.ntmps163
      go_wp2_with (at_builtin; refine app_ints rfl _ _ rfl w.heap.size _ [] rfl (own_empty w _ (Nat.le_refl _)) _ (ofN ns) rfl (HV.out.1.kept ((Kept.refl _).alloc _)) (by simp; omega) (by simp) ?_; intro v7 w7 hown7 _ hb7; have O7 := Lib.hid hown7; have HB7 := Lib.hid hb7; clear hown7 hb7)
      go_ret
      exact ⟨⟨_, rfl, ⟨by rw [HS.out]; simpa using O7.out.mono (Nat.zero_le _), by rw [HS.out]; exact HV.out.2⟩⟩, ((Kept.refl _).alloc _).app HB7.out⟩
    · obtain ⟨b, o, rfl⟩ := hne (fun e => by subst e; simp at h2)
      obtain ⟨h, hh⟩ : ∃ h, h = ns.length / 2 := ⟨_, rfl⟩
      have hT := hv.take h (by omega)
      have hD := hv.drop h (by omega)
      obtain ⟨n, hn⟩ : ∃ n, n = ns.length := ⟨_, rfl⟩
      rw [← hn] at hk hl hc h2 hD hh ⊢
      have HIH := Lib.hid ih
      have HT := Lib.hid hT
      have HD := Lib.hid hD
      have HN := Lib.hid hn
      have hv2 := Lib.hid hv.2
      have HL : Hid (∀ W, Kept w W → Calls Tryz.prog 163 #[.slice (some ⟨b, o, none⟩) h c] W fun e w' => (∃ v', e = .returned v' ∧ OwnSets w' 0 v' (sortK (ns.take h))) ∧ Kept W w') :=
        Lib.hid fun W hW => HIH.out h (by omega) (ns.take h) _ W (by simp; omega) (HT.out.kept hW) (by simp; omega)
      have HR : Hid (∀ W, Kept w W → Calls Tryz.prog 163 #[.slice (some ⟨b, o + h, none⟩) (n - h) (c - h)] W fun e w' => (∃ v', e = .returned v' ∧ OwnSets w' 0 v' (sortK (ns.drop h))) ∧ Kept W w') :=
        Lib.hid fun W hW => HIH.out (n - h) (by omega) (ns.drop h) _ W (by have := HN.out; simp; omega) (HD.out.kept hW) (by have := HN.out; simp; omega)
      have hq1 : Int.tdiv (n : Int) 2 = (h : Int) := by rw [Int.tdiv_eq_ediv_of_nonneg (by omega)]; omega
      have hq2 : (n : Int) / 2 = (h : Int) := by omega
      have hq3 : IntKind.i64.wrap (h : Int) = (h : Int) := by rw [IntKind.wrap_i64]; omega
      have hb1 : (0 : Int) ≤ (h : Int) := by omega
      have hb2 : (h : Int) ≤ (n : Int) := by omega
      have hb3 : (h : Int) ≤ (c : Int) := by omega
      have hb4 : (n : Int) ≤ (c : Int) := by omega
      have h2' : ¬ (n : Int) < 2 := by omega
      have hcn : h ≠ c := by omega
      clear hT hD hn hv ih hne hh h2
      go_enter Tryz.func163, Tryz.ntmps163
      go_upto_region 3 with fail
      go_cut [3, 4] (fun va vb wx => SetsAt wx va (sortK (ns.take h)) ∧ SetsAt wx vb (sortK (ns.drop h)) ∧ Kept w wx)
      case first =>
        go_region_held3 (fun _ => True) (trivial)
          (first
            | (go_at_call_of 163 (Value.slice (some ⟨b, o, none⟩) h c); refine (HL.out _ (by first | exact (Kept.refl _).drew | exact (Kept.refl _).drew.trans hk6)).mono ?_; rintro e w5 ⟨⟨va, rfl, hoa⟩, hk5⟩)
            | (go_at_call 163; refine (HR.out _ (by first | exact (Kept.refl _).drew | exact (Kept.refl _).drew.trans hk5)).mono ?_; rintro e w6 ⟨⟨vb, rfl, hob⟩, hk6⟩))
        all_goals (go_wp2_with fail; go_meet; exact ⟨hoa.sets.kept hk6, hob.sets, ((Kept.refl _).drew.trans hk5).trans hk6⟩)
      case rest =>
        obtain ⟨hA, hB, hK⟩ := hcut
        have HA := Lib.hid hA
        have HB := Lib.hid hB
        have HK := Lib.hid hK
        clear hA hB hK
        clear hq1 hq2 hq3 hb1 hb2 hb3 hb4 hcn HIH HT HD HL HR hk
        go_wp2_with fail
        obtain ⟨wo, rfl⟩ : ∃ wo : World, wo = wc := ⟨_, rfl⟩
        go_loopw [3, 4, 5, 6] (fun va vb vo _ wr => ∃ (xs ys zs : List Nat), Hid (SetsAt wo va xs ∧ SetsAt wo vb ys ∧ MInv ns zs xs ys) ∧ OwnInts wr wo.heap.size vo (ofN zs) ∧ Kept wo wr) (fun va vb _ _ _ => lenV va + lenV vb)
        case atStart => exact ⟨_, _, [], Lib.hid ⟨HA.out, HB.out, MInv.start ns h⟩, OwnInts.nil _ _, Kept.refl _⟩
        case round =>
          obtain ⟨xs, ys, zs, HI, hO, hKr⟩ := hrel
          have HO := Lib.hid hO
          have HKr := Lib.hid hKr
          have hlen := HI.out.2.2.len
          rw [← HN.out] at hlen
          have hmk := HI.out.2.2.masks (fun m hm => hv2.out m hm)
          have HM := Lib.hid hmk
          have hsz := hKr.size
          clear hO hKr hmk
          match xs, ys with
          | [], ys =>
            have HA2 := Lib.hid HI.out.1
            have HB2 := Lib.hid HI.out.2.1
            have HMI := Lib.hid HI.out.2.2
            clear HI HM
            obtain ⟨aa, ca, rfl, hca, hna⟩ := HA2.out.shape
            obtain ⟨ab, cb, rfl, hcb, hnb⟩ := HB2.out.shape
            simp only [List.length_nil] at HA2 hca hlen ⊢
            clear hna hnb
            go_wp2_with (first
              | (at_builtin; refine app_ints rfl _ _ rfl wo.heap.size _ (ofN zs) rfl HO.out _ (ofN []) rfl (HA2.out.1.kept HKr.out) (by simp; omega) hsz ?_; intro v7 w7 hown7 _ hb7; have O7 := Lib.hid hown7; have HB7 := Lib.hid hb7; clear hown7 hb7)
              | (at_builtin; refine app_ints rfl _ _ rfl wo.heap.size _ (ofN zs ++ ofN []) rfl O7.out _ (ofN ys) rfl (HB2.out.1.kept (HKr.out.app HB7.out)) (by simp; omega) (by have := (HKr.out.app HB7.out).size; omega) ?_; intro v8 w8 hown8 _ hb8; have O8 := Lib.hid hown8; have HB8 := Lib.hid hb8; clear hown8 hb8))
            go_ret
            refine ⟨⟨_, rfl, ⟨?_, fun z hz => hv2.out z ((mem_sortK ns z).1 hz)⟩⟩, HK.out.trans ((HKr.out.app HB7.out).app HB8.out)⟩
            have := O8.out
            rw [← List.map_append, ← List.map_append, HMI.out.doneL] at this
            exact this.mono (Nat.zero_le _)
          | x :: xs, [] =>
            have HA2 := Lib.hid HI.out.1
            have HB2 := Lib.hid HI.out.2.1
            have HMI := Lib.hid HI.out.2.2
            clear HI HM
            obtain ⟨aa, ca, rfl, hca, hna⟩ := HA2.out.shape
            obtain ⟨ab, cb, rfl, hcb, hnb⟩ := HB2.out.shape
            simp only [List.length_nil, List.length_cons] at HA2 HB2 hca hcb hlen ⊢
            have hp1 : (0 : Int) < ((xs.length + 1 : Nat) : Int) := by omega
            clear hna hnb
            go_wp2_with (first
              | (at_builtin; refine app_ints rfl _ _ rfl wo.heap.size _ (ofN zs) rfl HO.out _ (ofN (x :: xs)) rfl (HA2.out.1.kept HKr.out) (by simp; omega) hsz ?_; intro v7 w7 hown7 _ hb7; have O7 := Lib.hid hown7; have HB7 := Lib.hid hb7; clear hown7 hb7)
              | (at_builtin; refine app_ints rfl _ _ rfl wo.heap.size _ (ofN zs ++ ofN (x :: xs)) rfl O7.out _ (ofN []) rfl (HB2.out.1.kept (HKr.out.app HB7.out)) (by simp; omega) (by have := (HKr.out.app HB7.out).size; omega) ?_; intro v8 w8 hown8 _ hb8; have O8 := Lib.hid hown8; have HB8 := Lib.hid hb8; clear hown8 hb8))
            go_ret
            refine ⟨⟨_, rfl, ⟨?_, fun z hz => hv2.out z ((mem_sortK ns z).1 hz)⟩⟩, HK.out.trans ((HKr.out.app HB7.out).app HB8.out)⟩
            have := O8.out
            rw [← List.map_append, ← List.map_append, HMI.out.doneR] at this
            exact this.mono (Nat.zero_le _)
          | x :: xs, y :: ys =>
            have HA2 := Lib.hid HI.out.1
            have HB2 := Lib.hid HI.out.2.1
            have HMI := Lib.hid HI.out.2.2
            have mx : Mk x := HM.out.2.1 x (List.mem_cons_self ..)
            have my : Mk y := HM.out.2.2 y (List.mem_cons_self ..)
            clear HI HM
            obtain ⟨aa, ca, rfl, hca, hna⟩ := HA2.out.shape
            obtain ⟨ab, cb, rfl, hcb, hnb⟩ := HB2.out.shape
            obtain ⟨ba, oa, rfl⟩ := hna (by simp)
            obtain ⟨bb, ob, rfl⟩ := hnb (by simp)
            simp only [List.length_cons] at HA2 HB2 hca hcb hlen ⊢
            have c1 := HKr.out.cell HA2.out.head
            have c2 := HKr.out.cell HB2.out.head
            clear hna hnb
            have hp1 : (0 : Int) < ((xs.length + 1 : Nat) : Int) := by omega
            have hp2 : (0 : Int) < ((ys.length + 1 : Nat) : Int) := by omega
            have hp3 : (1 : Int) ≤ ((xs.length + 1 : Nat) : Int) := by omega
            have hp4 : (1 : Int) ≤ ((ys.length + 1 : Nat) : Int) := by omega
            have hp5 : (1 : Int) ≤ (ca : Int) := by omega
            have hp6 : (1 : Int) ≤ (cb : Int) := by omega
            have hcmp : ∀ W, Calls Tryz.prog 224 #[.int .i64 x, .int .i64 y] W fun e w' => e = .returned (.int .i64 (cmpR x y)) ∧ w' = W := fun W => (rcompare_any mx my W).mono fun _ _ ⟨h1, h2⟩ => ⟨h1, h2.symm⟩
            by_cases hxy : x = y
            · rw [show cmpR x y = 0 from if_pos hxy] at hcmp
              subst hxy
              have HC := Lib.hid hcmp
              clear hcmp
              go_wp2_with fail
              go_quiet ((go_at_call 224; exact Calls.quiet_of_same (HC.out _)))
              generalize HWQ : World.drewN wr _ = wq
              have HKq : Hid (Kept wr wq) := Lib.hid (by rw [← HWQ]; exact (Kept.refl _).drewN _)
              have HSq : wo.heap.size ≤ wq.heap.size := by have := HKq.out.size; omega
              have d1 := HKq.out.cell c1
              have d2 := HKq.out.cell c2
              clear HWQ c1 c2
              go_wp2_with (at_builtin; refine app_int rfl _ _ rfl wo.heap.size _ (ofN zs) rfl (HO.out.kept (HKq.out.alloc _)) _ (x : Int) rfl (by simp) (by simp; omega) (by simp; omega) ?_; intro v7 w7 hown7 _ hb7; have O7 := Lib.hid hown7; have HB7 := Lib.hid hb7; clear hown7 hb7)
              go_roundw
              case rel => exact ⟨xs, ys, zs ++ [x], Lib.hid ⟨HA2.out.rest, HB2.out.rest, HMI.out.eq⟩, by simpa [ofN] using O7.out, ((HKr.out.trans (HKq.out.alloc _)).app HB7.out)⟩
              case measure => simp [lenV]; try omega
            · by_cases hlt : ltK x y
              · rw [show cmpR x y = -1 by unfold cmpR; rw [if_neg hxy, if_pos hlt]] at hcmp
                have HC := Lib.hid hcmp
                have HXY := Lib.hid hlt
                clear hcmp hlt hxy
                go_wp2_with fail
                go_quiet ((go_at_call 224; exact Calls.quiet_of_same (HC.out _)))
                generalize HWQ : World.drewN wr _ = wq
                have HKq : Hid (Kept wr wq) := Lib.hid (by rw [← HWQ]; exact (Kept.refl _).drewN _)
                have HSq : wo.heap.size ≤ wq.heap.size := by have := HKq.out.size; omega
                have d1 := HKq.out.cell c1
                have d2 := HKq.out.cell c2
                clear HWQ c1 c2
                go_wp2_with (at_builtin; refine app_int rfl _ _ rfl wo.heap.size _ (ofN zs) rfl (HO.out.kept (HKq.out.alloc _)) _ (x : Int) rfl (by simp) (by simp; omega) (by simp; omega) ?_; intro v7 w7 hown7 _ hb7; have O7 := Lib.hid hown7; have HB7 := Lib.hid hb7; clear hown7 hb7)
                go_roundw
                case rel => exact ⟨xs, y :: ys, zs ++ [x], Lib.hid ⟨HA2.out.rest, HB2.out, HMI.out.lt HXY.out⟩, by simpa [ofN] using O7.out, ((HKr.out.trans (HKq.out.alloc _)).app HB7.out)⟩
                case measure => simp [lenV]; try omega
              · rw [show cmpR x y = 1 by unfold cmpR; rw [if_neg hxy, if_neg hlt]] at hcmp
                have HC := Lib.hid hcmp
                have hgt : ltK y x := by rcases ltK_total x y with h | h | h; exact absurd h hlt; exact absurd h hxy; exact h
                have HXY := Lib.hid hgt
                clear hcmp hlt hxy hgt
                go_wp2_with fail
                go_quiet ((go_at_call 224; exact Calls.quiet_of_same (HC.out _)))
                generalize HWQ : World.drewN wr _ = wq
                have HKq : Hid (Kept wr wq) := Lib.hid (by rw [← HWQ]; exact (Kept.refl _).drewN _)
                have HSq : wo.heap.size ≤ wq.heap.size := by have := HKq.out.size; omega
                have d1 := HKq.out.cell c1
                have d2 := HKq.out.cell c2
                clear HWQ c1 c2
                go_wp2_with (at_builtin; refine app_int rfl _ _ rfl wo.heap.size _ (ofN zs) rfl (HO.out.kept (HKq.out.alloc _)) _ (y : Int) rfl (by simp) (by simp; omega) (by simp; omega) ?_; intro v7 w7 hown7 _ hb7; have O7 := Lib.hid hown7; have HB7 := Lib.hid hb7; clear hown7 hb7)
                go_roundw
                case rel => exact ⟨x :: xs, ys, zs ++ [y], Lib.hid ⟨HA2.out, HB2.out.rest, HMI.out.gt HXY.out⟩, by simpa [ofN] using O7.out, ((HKr.out.trans (HKq.out.alloc _)).app HB7.out)⟩
                case measure => simp [lenV]; try omega
end Go.Proofs.YtbkchheikkbebaaGreatDoor

/-
  Walks: faultlineref06.Error, Both, part, Least, limited.
-/
namespace Go.Proofs.YtbkchheikkbebaaGreatDoor
open Go.RowKit

theorem SetsAt.cell {w : World} {a : Option Addr} {c m : Nat} {ns : List Nat} (h : SetsAt w (.slice a m c) ns) (i : Nat) (hi : i < ns.length) : ∃ b o, a = some ⟨b, o, none⟩ ∧ w.cell? ⟨b, o + i, none⟩ = some (.int .i64 (ns[i] : Nat)) := by
  obtain ⟨⟨a', c', h1, _, _, h3⟩, _⟩ := h
  cases h1
  obtain ⟨b, o, h4, h5⟩ := h3 i (by simpa using hi)
  exact ⟨b, o, h4, by simpa using h5⟩
theorem and_sub (a b : Nat) : (a &&& b = a) ↔ subN a b = true := by
  rw [subN_iff]
  constructor
  · intro h i hi
    have h1 : (a &&& b).testBit i = true := by rw [h]; exact hi
    simp at h1
    exact h1.2
  · intro h
    apply Nat.eq_of_testBit_eq
    intro i
    simp only [Nat.testBit_and]
    cases ha : a.testBit i with
    | false => simp
    | true => simp [h i ha]
def partN (a b : Nat) : Bool := decide (a ≠ b) && subN a b
theorem part_any {a b : Nat} (ha : Mk a) (hb : Mk b) (w : World) : Calls Tryz.prog 225 #[.int .i64 a, .int .i64 b] w fun e w' => e = .returned (.bool (partN a b)) ∧ w = w' := by
  have hand : bits .and .i64 (a : Int) (b : Int) = ((a &&& b : Nat) : Int) := and_i64 a b (by unfold Mk at ha; omega) (by unfold Mk at hb; omega)
  clear ha hb
  by_cases e : a = b
  · have h1 : partN a b = false := by unfold partN; simp [e]
    rw [h1]
    have ee : ((a : Int) == (b : Int)) = true := by simp; omega
    have ee2 : ((a : Int) != (b : Int)) = false := by simp; omega
    clear e h1
    go_enter Tryz.func225, Tryz.ntmps225
    go_wp2
    go_ret
    exact ⟨rfl, rfl⟩
  · have h1 : partN a b = subN a b := by unfold partN; simp [e]
    rw [h1]
    have ee : ((a : Int) == (b : Int)) = false := by simp; omega
    have ee2 : ((a : Int) != (b : Int)) = true := by simp; omega
    clear e h1
    cases hs : subN a b with
    | true =>
      have h2 : (((a &&& b : Nat) : Int) == (a : Int)) = true := by have := (and_sub a b).2 hs; simp; omega
      clear hs
      generalize (a &&& b : Nat) = z at hand h2
      go_enter Tryz.func225, Tryz.ntmps225
      go_wp2
      go_ret
      exact ⟨rfl, rfl⟩
    | false =>
      have h2 : (((a &&& b : Nat) : Int) == (a : Int)) = false := by
        have : ¬ (a &&& b = a) := fun h => by rw [(and_sub a b).1 h] at hs; cases hs
        simp; omega
      clear hs
      generalize (a &&& b : Nat) = z at hand h2
      go_enter Tryz.func225, Tryz.ntmps225
      go_wp2
      go_ret
      exact ⟨rfl, rfl⟩
theorem keep_part (ns : List Nat) (hs : ns.Pairwise ltK) (k : Nat) (hk : k < ns.length) : ((ns.take k).foldl keepN []).any (fun x => partN x ns[k]) = ((ns.take k).foldl keepN []).any (fun x => subN x ns[k]) := by
  rw [Bool.eq_iff_iff, List.any_eq_true, List.any_eq_true]
  have hne : ∀ x ∈ (ns.take k).foldl keepN [], x ≠ ns[k] := by
    intro x hx e
    rcases mem_minN _ _ _ hx with h | h
    · cases h
    · obtain ⟨i, hi, rfl⟩ := List.getElem_of_mem h
      simp only [List.length_take] at hi
      rw [List.getElem_take] at e
      have := List.pairwise_iff_getElem.1 hs i k (by omega) hk (by omega)
      rw [e] at this
      exact ltK_irr _ this
  constructor
  · rintro ⟨x, hx, h⟩
    refine ⟨x, hx, ?_⟩
    unfold partN at h; simp at h; exact h.2
  · rintro ⟨x, hx, h⟩
    refine ⟨x, hx, ?_⟩
    unfold partN; simp [hne x hx, h]
set_option maxRecDepth 100000 in
set_option maxHeartbeats 4000000 in
theorem least_own (ns : List Nat) (v : Value) (w : World) (hv : SetsAt w v ns) (hl : ns.length ≤ 8796093022208) :
    Calls Tryz.prog 164 #[v] w fun e w' => (∃ v', e = .returned v' ∧ OwnSets w' w.heap.size v' (minK ns)) ∧ Kept w w' := by
  have HS := Lib.hid (rsort_any ns.length ns v w (Nat.le_refl _) hv hl)
  obtain ⟨a, c, rfl, hc, _⟩ := hv.shape
  obtain ⟨ss, hss⟩ : ∃ ss, ss = sortK ns := ⟨_, rfl⟩
  have hps : ss.Pairwise ltK := by rw [hss]; exact pair_sortK ns
  have hsl : ss.length ≤ ns.length := by rw [hss]; exact len_sortK ns
  have hmin : minK ns = ss.foldl keepN [] := by rw [hss]; rfl
  have hmk : ∀ n ∈ ss, Mk n := by rw [hss]; exact fun n hn => hv.2 n ((mem_sortK ns n).1 hn)
  rw [← hss] at HS
  rw [hmin]
  have HM := Lib.hid hmk
  have HP := Lib.hid hps
  clear hss hmin hmk hps hv
  go_enter Tryz.func164, Tryz.ntmps164
  go_wp2_with fail
  refine HS.out.mono ?_
  rintro e w1 ⟨⟨v1, rfl, ho1⟩, hk1⟩
  have HV := Lib.hid ho1.sets
  have HK1 := Lib.hid hk1
  obtain ⟨b1, c1, rfl, hc1, _⟩ := ho1.sets.shape
  obtain ⟨n, hn⟩ : ∃ n, n = ss.length := ⟨_, rfl⟩
  rw [← hn] at HV hc1 hsl ⊢
  have HN := Lib.hid hn
  clear ho1 hk1 hn HS
  go_wp2_with fail
  go_loopw [3, 5, 6, 8, 12, 16, 17, 18] (fun vo _ _ _ i _ _ _ wr => ∃ (k : Nat), k ≤ n ∧ i = .int .i64 k ∧ OwnInts wr w1.heap.size vo (ofN ((ss.take k).foldl keepN [])) ∧ Kept w1 wr) (fun _ _ _ _ i _ _ _ _ => n - (intOf i).toNat)
  case atStart => exact ⟨0, Nat.zero_le _, rfl, OwnInts.nil _ _, Kept.refl _⟩
  case round =>
    obtain ⟨k, hk, rfl, hO, hKr⟩ := hrel
    have HO := Lib.hid hO
    have HKr := Lib.hid hKr
    have hsz := hKr.size
    clear hO hKr
    by_cases hlt : k < n
    · have hkx : k < ss.length := by have := HN.out; omega
      obtain ⟨b, o, rfl, hcell0⟩ := HV.out.cell k hkx
      have hcell := HKr.out.cell hcell0
      have hkp := keep_part ss HP.out k hkx
      have hms := HM.out _ (List.getElem_mem hkx)
      have htk : (ss.take (k + 1)).foldl keepN [] = keepN ((ss.take k).foldl keepN []) ss[k] := by rw [List.take_succ_eq_append_getElem hkx, List.foldl_append]; rfl
      have hma : ∀ x ∈ (ss.take k).foldl keepN [], Mk x := fun x hx => by
        rcases mem_minN _ _ _ hx with h | h
        · cases h
        · exact HM.out x (List.mem_of_mem_take h)
      have hla : ((ss.take k).foldl keepN []).length ≤ k := by
        have := len_minN (ss.take k) []
        simp at this
        omega
      obtain ⟨s, hs⟩ : ∃ s, s = ss[k] := ⟨_, rfl⟩
      rw [← hs] at hcell hkp hms htk
      obtain ⟨acc, hacc⟩ : ∃ x, x = (ss.take k).foldl keepN [] := ⟨_, rfl⟩
      rw [← hacc] at HO hkp htk hma hla
      have HKP := Lib.hid hkp
      have HTK := Lib.hid htk
      have HMA := Lib.hid hma
      have HMS := Lib.hid hms
      have ho3 := OwnInts.ints HO.out
      obtain ⟨ao, no, co, rfl⟩ := ho3.shape
      have hal : no = acc.length := by obtain ⟨_, _, h, _⟩ := ho3; cases h; simp
      subst hal
      have HSO : Hid (SetsAt wr (.slice ao acc.length co) acc) := Lib.hid ⟨ho3, HMA.out⟩
      obtain ⟨m, hm⟩ : ∃ m, m = acc.length := ⟨_, rfl⟩
      rw [← hm] at HSO HO hla ⊢
      have HML := Lib.hid hm
      clear hcell0 hkp htk hma hms hs hacc ho3 hm
      go_wp2_with fail
      obtain ⟨wo, rfl⟩ : ∃ wo : World, wo = wr := ⟨_, rfl⟩
      go_loop [6, 8, 18] (fun sm _ j => ∃ q : Nat, q ≤ m ∧ j = .int .i64 q ∧ sm = .bool (!((acc.take q).any fun x => partN x s))) (fun _ _ j => m - (intOf j).toNat)
      case atStart => exact ⟨0, Nat.zero_le _, rfl, rfl⟩
      case round =>
        obtain ⟨q, hq, rfl, rfl⟩ := hrel
        by_cases hqm : q < m
        · have hqx : q < acc.length := by have := HML.out; omega
          obtain ⟨b2, o2, rfl, hcell2⟩ := HSO.out.cell q hqx
          have hmx := HMA.out _ (List.getElem_mem hqx)
          have hst : (acc.take (q + 1)).any (fun x => partN x s) = ((acc.take q).any (fun x => partN x s) || partN acc[q] s) := by
            rw [List.take_succ_eq_append_getElem hqx, List.any_append]; simp
          obtain ⟨x, hx⟩ : ∃ x, x = acc[q] := ⟨_, rfl⟩
          rw [← hx] at hcell2 hmx hst
          have HP2 : Hid (∀ W, Calls Tryz.prog 225 #[.int .i64 x, .int .i64 s] W fun e w' => e = .returned (.bool (partN x s)) ∧ W = w') := Lib.hid fun W => part_any hmx HMS.out W
          have HST := Lib.hid hst
          clear hx hmx hst
          cases hb1 : (acc.take q).any fun x => partN x s with
          | true =>
            have HB1 := Lib.hid hb1
            clear hb1
            go_wp2_with (go_at_call 225; refine (HP2.out _).mono ?_; rintro e w' ⟨rfl, rfl⟩)
            go_round
            case rel => exact ⟨q + 1, by omega, by go_num, by rw [HST.out, HB1.out]; rfl⟩
            case measure => simp [intOf]; omega
          | false =>
            have HB1 := Lib.hid hb1
            clear hb1
            go_wp2_with (go_at_call 225; refine (HP2.out _).mono ?_; rintro e w' ⟨rfl, rfl⟩)
            go_round
            case rel => exact ⟨q + 1, by omega, by go_num, by rw [HST.out, HB1.out]; rfl⟩
            case measure => simp [intOf]; omega
        · have hqe : acc.take q = acc := List.take_of_length_le (by have := HML.out; omega)
          rw [hqe, HKP.out]
          cases hb1 : acc.any fun x => subN x s with
          | true =>
            have HKN : Hid ((ss.take (k + 1)).foldl keepN [] = acc) := Lib.hid (by rw [HTK.out, keepN, if_pos hb1])
            clear hb1 hqe
            go_wp2
            go_roundw
            case rel => exact ⟨k + 1, by omega, by go_num, by rw [HKN.out]; exact HO.out, HKr.out⟩
            case measure => simp [intOf]; omega
          | false =>
            have HKN : Hid ((ss.take (k + 1)).foldl keepN [] = acc ++ [s]) := Lib.hid (by rw [HTK.out, keepN, if_neg (by rw [hb1]; simp)])
            clear hb1 hqe
            go_wp2_with (at_builtin; refine app_int rfl _ _ rfl w1.heap.size _ (ofN acc) rfl (HO.out.kept ((Kept.refl _).alloc _)) _ (s : Int) rfl (by simp) (by simp; have := HML.out; omega) (by simp; omega) ?_; intro v7 w7 hown7 _ hb7; have O7 := Lib.hid hown7; have HB7 := Lib.hid hb7; clear hown7 hb7)
            go_roundw
            case rel => exact ⟨k + 1, by omega, by go_num, by rw [HKN.out]; simpa [ofN] using O7.out, (HKr.out.alloc _).app HB7.out⟩
            case measure => simp [intOf]; omega
    · have hfull : ss.take k = ss := List.take_of_length_le (by have := HN.out; omega)
      rw [hfull] at HO
      clear hfull
      go_wp2
      go_ret
      exact ⟨⟨_, rfl, ⟨HO.out.mono HK1.out.size, fun x hx => by
        rcases mem_minN _ _ _ hx with h | h
        · cases h
        · exact HM.out x h⟩⟩, HK1.out.trans HKr.out⟩
theorem least_any (ns : List Nat) (v : Value) (w : World) (hv : SetsAt w v ns) (hl : ns.length ≤ 8796093022208) :
    Calls Tryz.prog 164 #[v] w fun e w' => (∃ v', e = .returned v' ∧ OwnSets w' 0 v' (minK ns)) ∧ Kept w w' :=
  (least_own ns v w hv hl).mono fun _ _ ⟨⟨v', h1, h2⟩, h3⟩ => ⟨⟨v', h1, ⟨h2.1.mono (Nat.zero_le _), h2.2⟩⟩, h3⟩
end Go.Proofs.YtbkchheikkbebaaGreatDoor

/-
  Walks: family.Covers, family.Check; slices.Equal of equal lists.
-/
namespace Go.Proofs.YtbkchheikkbebaaGreatDoor
open Go.RowKit

theorem decides_cov (s : Int) (B : Nat) (w : World) (hc : w.cell? ⟨B, 0, none⟩ = some (.int .i64 s)) : Decides 103 #[.pointer (some ⟨B, 0, none⟩)] (fun t => subB t s) w := by
  intro W x hK
  have hc' := hK.cell hc
  clear hc
  go_enter Tryz.func103, Tryz.ntmps103
  go_wp2_with (go_at_call 104; refine (subset_any _ _ _).mono ?_; rintro e w' ⟨rfl, rfl⟩)
  go_ret
  exact ⟨rfl, Kept.refl _⟩
def covB (l : List Nat) (s : Nat) : Bool := l.any fun t => subN t s
theorem cov_ofN {ns : List Nat} {s : Nat} (hm : ∀ n ∈ ns, Mk n) (hs : Mk s) : (ofN ns).any (fun t => subB t (s : Int)) = covB ns s := by
  unfold covB
  induction ns with
  | nil => rfl
  | cons n ns ih =>
    simp only [ofN, List.map_cons, List.any_cons] at ih ⊢
    rw [ih fun x hx => hm x (List.mem_cons_of_mem _ hx), subB_subN (hm n (List.mem_cons_self ..)) hs]
set_option maxHeartbeats 1000000 in
theorem covers_any (va : Value) (ns : List Nat) (s : Nat) (w : World) (hv : SetsAt w va ns) (hs : Mk s) (hl : ns.length ≤ 1024) :
    Calls Tryz.prog 35 #[va, .int .i64 s] w fun e w' => e = .returned (.tuple #[.bool (covB ns s), .nilIface]) ∧ Kept w w' := by
  have HL : Hid (Calls Tryz.prog 97 #[.slice (some ⟨w.heap.size + 1, 0, none⟩) 1 1] ((w.alloc (.cells #[.int .i64 s] 3)).alloc (.cells #[va] 22)) fun e w' => e = .returned .nilIface ∧ Kept (w.alloc (.cells #[.int .i64 s] 3)) w') := Lib.hid (by
    have := lists1 ns va (w.alloc (.cells #[.int .i64 s] 3)) (hv.kept ((Kept.refl _).alloc _))
    rw [if_pos hl, errV_zero, World.size_alloc] at this
    exact this)
  have HV : Hid (∀ W, Calls Tryz.prog 101 #[.int .i64 s] W fun e w' => e = .returned (.bool true) ∧ W = w') := Lib.hid fun W => valid_yes (by unfold Mk at hs; omega) W
  obtain ⟨r, hr⟩ : ∃ r, r = covB ns s := ⟨_, rfl⟩
  rw [← hr]
  have hr2 := (cov_ofN hv.2 hs).trans hr.symm
  have HR := Lib.hid hr2
  have HS := Lib.hid hv
  obtain ⟨a, c, rfl, _, _⟩ := hv.shape
  clear hv hs hl hr hr2
  go_enter Tryz.func35, Tryz.ntmps35
  go_wp2_with fail
  refine HL.out.mono ?_
  rintro e w1 ⟨rfl, hk1⟩
  have c0 := hk1.cell (p := ⟨w.heap.size, 0, none⟩) (v := .int .i64 s) (by simp)
  go_wp2_with (first
    | (go_at_call 101; refine (HV.out _).mono ?_; rintro e w2 ⟨rfl, rfl⟩)
    | (go_at_call 102; refine (has_any _ _ (enters_of Tryz.func103 (by kernel_rfl) rfl) _ _ (ofN ns) _ (decides_cov s _ _ c0) ((HS.out.kept (((Kept.refl _).alloc _).trans hk1)).1)).mono ?_; rintro e w2 ⟨rfl, hK2⟩; rw [HR.out]))
  go_ret2
  exact ⟨rfl, (((Kept.refl _).alloc _).trans hk1).trans hK2⟩
end Go.Proofs.YtbkchheikkbebaaGreatDoor

/-
  Walks: family.lists of one list, family.Check, and the reference's Error and Check, of whatever list.
-/
namespace Go.Proofs.YtbkchheikkbebaaGreatDoor
open Go.RowKit

def okI (xs : List Int) : Bool := xs.all fun x => decide (0 ≤ x ∧ x ≤ 16777215)
def errI (xs : List Int) : Nat := if 1024 < xs.length then 4 else if okI xs = true then 0 else 3
def natsI (xs : List Int) : List Nat := xs.map Int.toNat
/-- The number of Check's error. -/
def chkI (xs : List Int) : Nat := if errI xs ≠ 0 then errI xs else if natsI xs ≠ sortK (natsI xs) then 13 else if natsI xs ≠ minK (natsI xs) then 2 else 0
theorem okI_iff {xs : List Int} : okI xs = true ↔ ∀ x ∈ xs, 0 ≤ x ∧ x ≤ 16777215 := by
  unfold okI
  rw [List.all_eq_true]
  exact ⟨fun h x hx => of_decide_eq_true (h x hx), fun h x hx => decide_eq_true (h x hx)⟩
theorem nats_of {xs : List Int} (h : okI xs = true) : xs = ofN (natsI xs) ∧ ∀ n ∈ natsI xs, Mk n := by
  have h := okI_iff.1 h
  refine ⟨?_, fun n hn => ?_⟩
  · unfold ofN natsI
    rw [List.map_map]
    have : xs.map ((fun (n : Nat) => (n : Int)) ∘ Int.toNat) = xs.map id := List.map_congr_left fun x hx => by
      have := h x hx
      simp only [Function.comp, id]
      omega
    first | (rw [this, List.map_id]) | (rw [List.map_id] at this; exact this.symm)
  · obtain ⟨x, hx, rfl⟩ := List.mem_map.1 hn
    have := h x hx
    unfold Mk
    omega
theorem err_ok {xs : List Int} (h : errI xs = 0) : xs.length ≤ 1024 ∧ okI xs = true := by
  unfold errI at h
  split at h
  · omega
  · split at h
    · exact ⟨by omega, by assumption⟩
    · omega
theorem err_cases (xs : List Int) : errI xs = 0 ∨ errI xs = 3 ∨ errI xs = 4 := by unfold errI; split <;> first | (exact .inr (.inr rfl)) | (split <;> first | exact .inl rfl | exact .inr (.inl rfl))
theorem ofN_inj {a b : List Nat} : ofN a = ofN b ↔ a = b := by
  unfold ofN
  exact ⟨fun h => by
    have := congrArg (List.map Int.toNat) h
    simpa [List.map_map, Function.comp_def] using this, fun h => by rw [h]⟩
theorem equal_any (xs ys : List Int) (va vb : Value) (w : World) (ha : IntsAt w va xs) (hb : IntsAt w vb ys) : Calls Tryz.prog 98 #[va, vb] w fun e w' => e = .returned (.bool (decide (xs = ys))) ∧ Kept w w' := by
  obtain ⟨aa, ca, rfl, _, hla, hca⟩ := ha
  obtain ⟨ab, cb, rfl, _, hlb, hcb⟩ := hb
  by_cases hl : xs.length = ys.length
  · by_cases h0 : xs = []
    · subst h0
      have h1 : ys = [] := List.eq_nil_of_length_eq_zero hl.symm
      subst h1
      exact (Go.Proofs.Tryz.slices_Equal_int_empty aa ab ca 0 cb w (by omega)).mono fun e w' ⟨h1, h2⟩ => ⟨by rw [h1]; simp, by subst h2; exact Kept.refl _⟩
    · have hp : 0 < xs.length := List.length_pos_iff.2 h0
      obtain ⟨b1, o1, rfl, _⟩ := hca 0 hp
      obtain ⟨b2, o2, rfl, _⟩ := hcb 0 (by omega)
      refine (Go.Proofs.Tryz.slices_Equal_int b1 o1 xs.length ca b2 o2 ys.length cb xs ys w (Nat.le_refl _) (Nat.le_refl _) (by omega) (by omega) ?_ ?_).mono fun e w' ⟨h1, q, h2⟩ => ⟨by rw [h1, List.take_length, List.take_length, show (xs == ys) = decide (xs = ys) by rw [Bool.eq_iff_iff]; simp], by subst h2; exact (Kept.refl _).drewN _⟩
      · intro j hj
        obtain ⟨b, o, h1, h2⟩ := hca j hj
        cases h1
        rw [h2]; simp [hj]
      · intro j hj
        obtain ⟨b, o, h1, h2⟩ := hcb j hj
        cases h1
        rw [h2]; simp [hj]
  · refine (Go.Proofs.Tryz.slices_Equal_int_lens aa ab xs.length ca ys.length cb w hl).mono fun e w' ⟨h1, h2⟩ => ⟨?_, by subst h2; exact Kept.refl _⟩
    rw [h1, decide_eq_false (fun h => hl (by rw [h]))]
set_option maxRecDepth 100000 in
set_option maxHeartbeats 2000000 in
theorem lists_one (g : Nat) (va : Value) (xs : List Int) (w : World) (hc : w.cell? ⟨g, 0, none⟩ = some va) (hv : IntsAt w va xs) :
    Calls Tryz.prog 97 #[.slice (some ⟨g, 0, none⟩) 1 1] w fun e w' => e = .returned (errV (errI xs)) ∧ w = w' := by
  obtain ⟨a, c, rfl, _, hl, hx⟩ := hv
  obtain ⟨m, hm⟩ : ∃ m, m = xs.length := ⟨_, rfl⟩
  rw [← hm] at hc
  have hm9 : m ≤ 140737488355328 := by omega
  have HX := Lib.hid hx
  have HM := Lib.hid hm
  have HC := Lib.hid hc
  clear hx hm hl hc
  go_enter Tryz.func97, Tryz.ntmps97
  go_wp2
  go_loopg [9] 1 (fun kx s9 wr => ∃ k : Nat, k ≤ 1 ∧ s9 = .int .i64 k ∧ 1 - k ≤ kx ∧ Hid (k = 1 → errI xs = 0) ∧ w = wr)
  case atStart => exact ⟨0, by omega, rfl, by omega, Lib.hid (fun h => by omega), rfl⟩
  case round =>
    obtain ⟨k, hk, rfl, hkx, HE, rfl⟩ := hrel
    by_cases hk1 : k = 1
    · subst hk1
      have HE0 := Lib.hid (HE.out rfl)
      go_wp2
      go_ret
      exact ⟨by rw [HE0.out]; rfl, rfl⟩
    · have hk0 : k = 0 := by omega
      subst hk0
      have hcell := HC.out
      by_cases hlen : m ≤ 1024
      · have hl1 : ¬ (1024 : Int) < (m : Int) := by omega
        go_wp2
        go_loopg [19] m (fun kx s19 wq => ∃ q : Nat, q ≤ m ∧ s19 = .int .i64 q ∧ m - q ≤ kx ∧ Hid (∀ x ∈ xs.take q, 0 ≤ x ∧ x ≤ 16777215) ∧ w = wq)
        case atStart => exact ⟨0, Nat.zero_le _, rfl, by omega, Lib.hid (by simp), rfl⟩
        case round =>
          obtain ⟨q, hq, rfl, hqx, HF, rfl⟩ := hrel
          by_cases hqm : q < m
          · have hqx : q < xs.length := by have := HM.out; omega
            obtain ⟨b2, o2, rfl, hcell2⟩ := HX.out q hqx
            obtain ⟨s, hs⟩ : ∃ s, s = xs[q] := ⟨_, rfl⟩
            rw [← hs] at hcell2
            have HS := Lib.hid hs
            have hqi : (q : Int) < (m : Int) := by omega
            cases hd : decide (0 ≤ s ∧ s ≤ 16777215) with
            | true =>
              have HVA : Hid (∀ W, Calls Tryz.prog 101 #[.int .i64 s] W fun e w' => e = .returned (.bool true) ∧ W = w') := Lib.hid fun W => by have := valid_any s W; rwa [hd] at this
              have HD := Lib.hid (of_decide_eq_true hd)
              clear hd hs
              go_wp2_with (go_at_call 101; refine (HVA.out _).mono ?_; rintro e w' ⟨rfl, rfl⟩)
              go_roundg (m - (q + 1))
              case measure => omega
              case rel => exact ⟨q + 1, by omega, by go_num, Nat.le_refl _, Lib.hid (fun y hy => by
                rw [List.take_succ_eq_append_getElem hqx] at hy
                rcases List.mem_append.1 hy with hy | hy
                · exact HF.out y hy
                · simp at hy; rw [hy, ← HS.out]; exact HD.out), rfl⟩
            | false =>
              have HVA : Hid (∀ W, Calls Tryz.prog 101 #[.int .i64 s] W fun e w' => e = .returned (.bool false) ∧ W = w') := Lib.hid fun W => by have := valid_any s W; rwa [hd] at this
              have HD := Lib.hid (of_decide_eq_false hd)
              have HER : Hid (errI xs = 3) := Lib.hid (by
                unfold errI
                rw [if_neg (by have := HM.out; omega), if_neg]
                intro h
                exact HD.out (okI_iff.1 h s (by rw [HS.out]; exact List.getElem_mem _)))
              clear hd hs
              go_wp2_with (go_at_call 101; refine (HVA.out _).mono ?_; rintro e w' ⟨rfl, rfl⟩)
              go_ret
              exact ⟨by rw [HER.out]; rfl, rfl⟩
          · have HE0 : Hid (errI xs = 0) := Lib.hid (by
              have hf := HF.out
              rw [List.take_of_length_le (by have := HM.out; omega)] at hf
              unfold errI
              rw [if_neg (by have := HM.out; omega), if_pos (okI_iff.2 hf)])
            have hqi : ¬ (q : Int) < (m : Int) := by omega
            go_wp2
            go_roundg 0
            case measure => omega
            case rel => exact ⟨1, by omega, by go_num, by omega, Lib.hid (fun _ => HE0.out), rfl⟩
      · have hl1 : (1024 : Int) < (m : Int) := by omega
        have HER : Hid (errI xs = 4) := Lib.hid (by unfold errI; rw [if_pos (by have := HM.out; omega)])
        go_wp2
        go_ret
        exact ⟨by rw [HER.out]; rfl, rfl⟩
theorem fold_subA (l : List Nat) : ∀ out, (l.foldl keepN out).Sublist (out ++ l) := by
  induction l with
  | nil => intro out; simp
  | cons s l ih =>
    intro out
    have h := ih (keepN out s)
    show (l.foldl keepN (keepN out s)).Sublist _
    unfold keepN at h ⊢
    split at h
    · rename_i hk
      rw [if_pos hk]
      exact h.trans ((List.Sublist.refl out).append (List.sublist_cons_self s l))
    · rename_i hk
      rw [if_neg hk]
      simpa using h
theorem minK_len_eq {ns : List Nat} (h : ns = sortK ns) : (minK ns).length = ns.length ↔ ns = minK ns := by
  constructor
  · intro hl
    have hs : (minK ns).Sublist ns := by
      unfold minK
      rw [← h]
      exact fold_subA ns []
    exact (hs.eq_of_length hl).symm
  · intro he; rw [← he]
set_option maxRecDepth 100000 in
set_option maxHeartbeats 2000000 in
theorem fcheck_any (va : Value) (xs : List Int) (w : World) (hv : IntsAt w va xs) :
    Calls Tryz.prog 34 #[va] w fun e w' => e = .returned (errV (chkI xs)) ∧ Kept w w' := by
  have HL : Hid (Calls Tryz.prog 97 #[.slice (some ⟨w.heap.size, 0, none⟩) 1 1] (w.alloc (.cells #[va] 22)) fun e w' => e = .returned (errV (errI xs)) ∧ Kept w w') := Lib.hid
    ((lists_one w.heap.size va xs _ (by simp) (hv.kept ((Kept.refl _).alloc _))).mono fun _ _ ⟨h1, h2⟩ => ⟨h1, by rw [← h2]; exact (Kept.refl _).alloc _⟩)
  have HV := Lib.hid hv
  obtain ⟨a, c, hva, _⟩ := id hv
  subst hva
  obtain ⟨m, hm⟩ : ∃ m, m = xs.length := ⟨_, rfl⟩
  rw [← hm] at HL HV ⊢
  have HM := Lib.hid hm
  clear hm hv
  rcases Nat.eq_zero_or_pos (errI xs) with he | he
  · obtain ⟨hl, hok⟩ := err_ok he
    obtain ⟨hxs, hmk⟩ := nats_of hok
    have hchk : chkI xs = if natsI xs ≠ sortK (natsI xs) then 13 else if natsI xs ≠ minK (natsI xs) then 2 else 0 := by unfold chkI; rw [if_neg (by omega)]
    rw [hchk]
    obtain ⟨ns, hns⟩ : ∃ ns, ns = natsI xs := ⟨_, rfl⟩
    rw [← hns] at hxs hmk ⊢
    have hlm : m = ns.length := by rw [HM.out, hns]; unfold natsI; rw [List.length_map]
    have HVS : Hid (SetsAt w (.slice a m c) ns) := Lib.hid ⟨by rw [← hxs]; exact HV.out, hmk⟩
    have hnl : ns.length ≤ 1024 := by rw [← hlm, HM.out]; exact hl
    have HE := Lib.hid he
    rw [he, errV_zero] at HL
    have HS : Hid (∀ W, Kept w W → Calls Tryz.prog 99 #[.slice a m c] W fun e w' => (∃ v', e = .returned v' ∧ IntsAt w' v' (ofN (sortK ns))) ∧ Kept W w') := Lib.hid fun W hk => by
      refine (sorted_any _ ns W hmk (HVS.out.kept hk).1 (by omega)).mono ?_
      rintro e w' ⟨v', h1, h2, h3⟩
      exact ⟨⟨v', h1, h2.ints⟩, h3⟩
    have HMN : Hid (∀ W, Kept w W → Calls Tryz.prog 100 #[.slice a m c] W fun e w' => (∃ v', e = .returned v' ∧ SetsAt w' v' (minK ns)) ∧ Kept W w') := Lib.hid fun W hk => by
      refine (minimalS_any _ ns W (HVS.out.kept hk) (by omega)).mono ?_
      rintro e w' ⟨v', h1, h2, h3⟩
      exact ⟨⟨v', h1, h2.sets⟩, h3⟩
    have HLM := Lib.hid hlm
    clear hxs hmk hns hl hok he hchk hlm hnl
    by_cases h1 : ns = sortK ns
    · have HEQ : Hid (∀ W vb, Kept w W → IntsAt W vb (ofN (sortK ns)) → Calls Tryz.prog 98 #[.slice a m c, vb] W fun e w' => e = .returned (.bool true) ∧ Kept W w') := Lib.hid fun W vb hk hb => by
        have h := equal_any (ofN ns) (ofN (sortK ns)) (.slice a m c) vb W (HVS.out.kept hk).1 hb
        rwa [decide_eq_true (by rw [← h1])] at h
      rw [if_neg (fun h => h h1)]
      have hiff := minK_len_eq h1
      obtain ⟨z, hz⟩ : ∃ z, z = (minK ns).length := ⟨_, rfl⟩
      have HZ := Lib.hid hz
      rw [← hz, ← HLM.out] at hiff
      by_cases h2 : ns = minK ns
      · rw [if_neg (fun h => h h2)]
        have hzm : z = m := hiff.2 h2
        have hb : ((z : Int) != (m : Int)) = false := by rw [hzm]; simp
        clear hiff h1 h2 hz
        go_enter Tryz.func34, Tryz.ntmps34
        go_wp2_with fail
        refine HL.out.mono ?_
        rintro e w1 ⟨rfl, hk1⟩
        have K1 := Lib.hid hk1
        clear hk1
        go_wp2_with (first
          | (go_at_call 99; refine (HS.out _ K1.out).mono ?_; rintro e w2 ⟨⟨v2, rfl, hv2⟩, hk2⟩; have HV2 := Lib.hid hv2; have K2 := Lib.hid (K1.out.trans hk2); clear hv2 hk2)
          | (go_at_call 98; refine (HEQ.out _ _ K2.out HV2.out).mono ?_; rintro e w3 ⟨rfl, hk3⟩; have K3 := Lib.hid (K2.out.trans hk3); clear hk3)
          | (go_at_call 100; refine (HMN.out _ K3.out).mono ?_; rintro e w4 ⟨⟨v4, rfl, hv4⟩, hk4⟩; obtain ⟨a4, c4, rfl, _, _⟩ := hv4.shape; rw [← HZ.out]; have K4 := Lib.hid (K3.out.trans hk4); clear hk4 hv4))
        go_ret
        exact ⟨rfl, K4.out⟩
      · rw [if_pos h2]
        have hzm : z ≠ m := fun h => h2 (hiff.1 h)
        have hb : ((z : Int) != (m : Int)) = true := by simp [bne]; omega
        have hzi : ¬ (z : Int) = (m : Int) := by omega
        clear hiff h1 h2 hz
        go_enter Tryz.func34, Tryz.ntmps34
        go_wp2_with fail
        refine HL.out.mono ?_
        rintro e w1 ⟨rfl, hk1⟩
        have K1 := Lib.hid hk1
        clear hk1
        go_wp2_with (first
          | (go_at_call 99; refine (HS.out _ K1.out).mono ?_; rintro e w2 ⟨⟨v2, rfl, hv2⟩, hk2⟩; have HV2 := Lib.hid hv2; have K2 := Lib.hid (K1.out.trans hk2); clear hv2 hk2)
          | (go_at_call 98; refine (HEQ.out _ _ K2.out HV2.out).mono ?_; rintro e w3 ⟨rfl, hk3⟩; have K3 := Lib.hid (K2.out.trans hk3); clear hk3)
          | (go_at_call 100; refine (HMN.out _ K3.out).mono ?_; rintro e w4 ⟨⟨v4, rfl, hv4⟩, hk4⟩; obtain ⟨a4, c4, rfl, _, _⟩ := hv4.shape; rw [← HZ.out]; have K4 := Lib.hid (K3.out.trans hk4); clear hk4 hv4))
        go_ret
        exact ⟨rfl, K4.out⟩
    · have HEQ : Hid (∀ W vb, Kept w W → IntsAt W vb (ofN (sortK ns)) → Calls Tryz.prog 98 #[.slice a m c, vb] W fun e w' => e = .returned (.bool false) ∧ Kept W w') := Lib.hid fun W vb hk hb => by
        have h := equal_any (ofN ns) (ofN (sortK ns)) (.slice a m c) vb W (HVS.out.kept hk).1 hb
        rwa [decide_eq_false (fun h => h1 (ofN_inj.1 h))] at h
      rw [if_pos h1]
      clear h1
      go_enter Tryz.func34, Tryz.ntmps34
      go_wp2_with fail
      refine HL.out.mono ?_
      rintro e w1 ⟨rfl, hk1⟩
      have K1 := Lib.hid hk1
      clear hk1
      go_wp2_with (first
        | (go_at_call 99; refine (HS.out _ K1.out).mono ?_; rintro e w2 ⟨⟨v2, rfl, hv2⟩, hk2⟩; have HV2 := Lib.hid hv2; have K2 := Lib.hid (K1.out.trans hk2); clear hv2 hk2)
        | (go_at_call 98; refine (HEQ.out _ _ K2.out HV2.out).mono ?_; rintro e w3 ⟨rfl, hk3⟩; have K3 := Lib.hid (K2.out.trans hk3); clear hk3))
      go_ret
      exact ⟨rfl, K3.out⟩
  · have hchk : chkI xs = errI xs := by unfold chkI; rw [if_pos (by omega)]
    rw [hchk]
    obtain ⟨q, hq⟩ : ∃ q, q = errI xs := ⟨_, rfl⟩
    rw [← hq] at HL he ⊢
    have hqe : errV q = .iface 50 (.int .i64 q) := errV_pos (by omega)
    rw [hqe] at HL ⊢
    clear hchk hq hqe
    go_enter Tryz.func34, Tryz.ntmps34
    go_wp2_with fail
    refine HL.out.mono ?_
    rintro e w1 ⟨rfl, hk1⟩
    go_wp2
    go_ret
    exact ⟨rfl, hk1⟩
end Go.Proofs.YtbkchheikkbebaaGreatDoor

/-
  Walks: the reference's Error and Check of a family, of whatever list.
-/
namespace Go.Proofs.YtbkchheikkbebaaGreatDoor
open Go.RowKit

set_option maxRecDepth 100000 in
set_option maxHeartbeats 2000000 in
theorem rerr_any (va : Value) (xs : List Int) (w : World) (hv : IntsAt w va xs) : Calls Tryz.prog 161 #[va] w fun e w' => e = .returned (.int .i64 (errI xs)) ∧ w = w' := by
  obtain ⟨a, c, rfl, _, hl, hx⟩ := hv
  obtain ⟨m, hm⟩ : ∃ m, m = xs.length := ⟨_, rfl⟩
  rw [← hm]
  have hm9 : m ≤ 140737488355328 := by omega
  have HX := Lib.hid hx
  have HM := Lib.hid hm
  clear hx hm hl
  by_cases hlen : m ≤ 1024
  · have hl1 : ¬ (1024 : Int) < (m : Int) := by omega
    go_enter Tryz.func161, Tryz.ntmps161
    go_wp2
    go_loopg [10] m (fun kx s19 wq => ∃ q : Nat, q ≤ m ∧ s19 = .int .i64 q ∧ m - q ≤ kx ∧ Hid (∀ x ∈ xs.take q, 0 ≤ x ∧ x ≤ 16777215) ∧ w = wq)
    case atStart => exact ⟨0, Nat.zero_le _, rfl, by omega, Lib.hid (by simp), rfl⟩
    case round =>
      obtain ⟨q, hq, rfl, hqx, HF, rfl⟩ := hrel
      by_cases hqm : q < m
      · have hqx : q < xs.length := by have := HM.out; omega
        obtain ⟨b2, o2, rfl, hcell2⟩ := HX.out q hqx
        obtain ⟨s, hs⟩ : ∃ s, s = xs[q] := ⟨_, rfl⟩
        rw [← hs] at hcell2
        have HS := Lib.hid hs
        have hqi : (q : Int) < (m : Int) := by omega
        cases hd : decide (0 ≤ s ∧ s ≤ 16777215) with
        | true =>
          have HVA : Hid (∀ W, Calls Tryz.prog 223 #[.int .i64 s] W fun e w' => e = .returned (.bool true) ∧ W = w') := Lib.hid fun W => by have := rvalid_any s W; rwa [hd] at this
          have HD := Lib.hid (of_decide_eq_true hd)
          clear hd hs
          go_wp2_with (go_at_call 223; refine (HVA.out _).mono ?_; rintro e w' ⟨rfl, rfl⟩)
          go_roundg (m - (q + 1))
          case measure => omega
          case rel => exact ⟨q + 1, by omega, by go_num, Nat.le_refl _, Lib.hid (fun y hy => by
            rw [List.take_succ_eq_append_getElem hqx] at hy
            rcases List.mem_append.1 hy with hy | hy
            · exact HF.out y hy
            · simp at hy; rw [hy, ← HS.out]; exact HD.out), rfl⟩
        | false =>
          have HVA : Hid (∀ W, Calls Tryz.prog 223 #[.int .i64 s] W fun e w' => e = .returned (.bool false) ∧ W = w') := Lib.hid fun W => by have := rvalid_any s W; rwa [hd] at this
          have HD := Lib.hid (of_decide_eq_false hd)
          have HER : Hid (errI xs = 3) := Lib.hid (by
            unfold errI
            rw [if_neg (by have := HM.out; omega), if_neg]
            intro h
            exact HD.out (okI_iff.1 h s (by rw [HS.out]; exact List.getElem_mem _)))
          clear hd hs
          go_wp2_with (go_at_call 223; refine (HVA.out _).mono ?_; rintro e w' ⟨rfl, rfl⟩)
          go_ret
          exact ⟨by rw [HER.out]; rfl, rfl⟩
      · have HE0 : Hid (errI xs = 0) := Lib.hid (by
          have hf := HF.out
          rw [List.take_of_length_le (by have := HM.out; omega)] at hf
          unfold errI
          rw [if_neg (by have := HM.out; omega), if_pos (okI_iff.2 hf)])
        have hqi : ¬ (q : Int) < (m : Int) := by omega
        go_wp2
        go_ret
        exact ⟨by rw [HE0.out]; rfl, rfl⟩
  · have hl1 : (1024 : Int) < (m : Int) := by omega
    have HER : Hid (errI xs = 4) := Lib.hid (by unfold errI; rw [if_pos (by have := HM.out; omega)])
    go_enter Tryz.func161, Tryz.ntmps161
    go_wp2
    go_ret
    exact ⟨by rw [HER.out]; rfl, rfl⟩
set_option maxRecDepth 100000 in
set_option maxHeartbeats 2000000 in
theorem rcheck06_any (va : Value) (xs : List Int) (w : World) (hv : IntsAt w va xs) :
    Calls Tryz.prog 85 #[va] w fun e w' => e = .returned (.int .i64 (chkI xs)) ∧ Kept w w' := by
  have HL : Hid (Calls Tryz.prog 161 #[va] w fun e w' => e = .returned (.int .i64 (errI xs)) ∧ w = w') := Lib.hid (rerr_any va xs w hv)
  have HV := Lib.hid hv
  obtain ⟨a, c, hva, _⟩ := id hv
  subst hva
  obtain ⟨m, hm⟩ : ∃ m, m = xs.length := ⟨_, rfl⟩
  rw [← hm] at HL HV ⊢
  have HM := Lib.hid hm
  clear hm hv
  rcases Nat.eq_zero_or_pos (errI xs) with he | he
  · obtain ⟨hl, hok⟩ := err_ok he
    obtain ⟨hxs, hmk⟩ := nats_of hok
    have hchk : chkI xs = if natsI xs ≠ sortK (natsI xs) then 13 else if natsI xs ≠ minK (natsI xs) then 2 else 0 := by unfold chkI; rw [if_neg (by omega)]
    rw [hchk]
    obtain ⟨ns, hns⟩ : ∃ ns, ns = natsI xs := ⟨_, rfl⟩
    rw [← hns] at hxs hmk ⊢
    have hlm : m = ns.length := by rw [HM.out, hns]; unfold natsI; rw [List.length_map]
    have HVS : Hid (SetsAt w (.slice a m c) ns) := Lib.hid ⟨by rw [← hxs]; exact HV.out, hmk⟩
    have hnl : ns.length ≤ 1024 := by rw [← hlm, HM.out]; exact hl
    rw [he] at HL
    have HL0 : Hid (Calls Tryz.prog 161 #[.slice a m c] w fun e w' => e = .returned (.int .i64 0) ∧ w = w') := Lib.hid HL.out
    have HS : Hid (Calls Tryz.prog 163 #[.slice a m c] w fun e w' => (∃ v', e = .returned v' ∧ IntsAt w' v' (ofN (sortK ns))) ∧ Kept w w') := Lib.hid (by
      refine (rsort_any ns.length ns _ w (Nat.le_refl _) HVS.out (by omega)).mono ?_
      rintro e w' ⟨⟨v', h1, h2⟩, h3⟩
      exact ⟨⟨v', h1, h2.sets.1⟩, h3⟩)
    have HMN : Hid (∀ W, Kept w W → Calls Tryz.prog 164 #[.slice a m c] W fun e w' => (∃ v', e = .returned v' ∧ IntsAt w' v' (ofN (minK ns))) ∧ Kept W w') := Lib.hid fun W hk => by
      refine (least_any ns _ W (HVS.out.kept hk) (by omega)).mono ?_
      rintro e w' ⟨⟨v', h1, h2⟩, h3⟩
      exact ⟨⟨v', h1, h2.sets.1⟩, h3⟩
    have HIN : Hid (∀ W vb l b, decide (ns = l) = b → Kept w W → IntsAt W vb (ofN l) → Calls Tryz.prog 162 #[.slice a m c, vb] W fun e w' => e = .returned (.bool b) ∧ Kept W w') := Lib.hid fun W vb l b hb hk hv => by
      have h := ints_at (ofN ns) (ofN l) (.slice a m c) vb W (HVS.out.kept hk).1 hv
      rw [show decide (ofN ns = ofN l) = b by rw [← hb]; exact decide_eq_decide.2 ofN_inj] at h
      exact h
    clear hxs hmk hns hl hok he hchk hlm hnl HL
    by_cases h1 : ns = sortK ns
    · have D1 : Hid (decide (ns = sortK ns) = true) := Lib.hid (decide_eq_true h1)
      rw [if_neg (fun h => h h1)]
      by_cases h2 : ns = minK ns
      · have D2 : Hid (decide (ns = minK ns) = true) := Lib.hid (decide_eq_true h2)
        rw [if_neg (fun h => h h2)]
        clear h1 h2
        go_enter Tryz.func85, Tryz.ntmps85
        go_wp2_with (first
          | (go_at_call 161; refine HL0.out.mono ?_; rintro e w1 ⟨rfl, rfl⟩)
          | (go_at_call 163; refine HS.out.mono ?_; rintro e w2 ⟨⟨v2, rfl, hv2⟩, hk2⟩; have HV2 := Lib.hid hv2; have K2 := Lib.hid hk2; clear hv2 hk2)
          | (go_at_call 162; (with_reducible refine (HIN.out _ _ _ _ D2.out K4.out HV4.out).mono ?_); rintro e w5 ⟨rfl, hk5⟩; have K5 := Lib.hid (K4.out.trans hk5); clear hk5)
          | (go_at_call 162; (with_reducible refine (HIN.out _ _ _ _ D1.out K2.out HV2.out).mono ?_); rintro e w3 ⟨rfl, hk3⟩; have K3 := Lib.hid (K2.out.trans hk3); clear hk3)
          | (go_at_call 164; refine (HMN.out _ K3.out).mono ?_; rintro e w4 ⟨⟨v4, rfl, hv4⟩, hk4⟩; have HV4 := Lib.hid hv4; have K4 := Lib.hid (K3.out.trans hk4); clear hk4 hv4))
        go_ret
        exact ⟨rfl, K5.out⟩
      · have D2 : Hid (decide (ns = minK ns) = false) := Lib.hid (decide_eq_false h2)
        rw [if_pos h2]
        clear h1 h2
        go_enter Tryz.func85, Tryz.ntmps85
        go_wp2_with (first
          | (go_at_call 161; refine HL0.out.mono ?_; rintro e w1 ⟨rfl, rfl⟩)
          | (go_at_call 163; refine HS.out.mono ?_; rintro e w2 ⟨⟨v2, rfl, hv2⟩, hk2⟩; have HV2 := Lib.hid hv2; have K2 := Lib.hid hk2; clear hv2 hk2)
          | (go_at_call 162; (with_reducible refine (HIN.out _ _ _ _ D2.out K4.out HV4.out).mono ?_); rintro e w5 ⟨rfl, hk5⟩; have K5 := Lib.hid (K4.out.trans hk5); clear hk5)
          | (go_at_call 162; (with_reducible refine (HIN.out _ _ _ _ D1.out K2.out HV2.out).mono ?_); rintro e w3 ⟨rfl, hk3⟩; have K3 := Lib.hid (K2.out.trans hk3); clear hk3)
          | (go_at_call 164; refine (HMN.out _ K3.out).mono ?_; rintro e w4 ⟨⟨v4, rfl, hv4⟩, hk4⟩; have HV4 := Lib.hid hv4; have K4 := Lib.hid (K3.out.trans hk4); clear hk4 hv4))
        go_ret
        exact ⟨rfl, K5.out⟩
    · have D1 : Hid (decide (ns = sortK ns) = false) := Lib.hid (decide_eq_false h1)
      rw [if_pos h1]
      clear h1
      go_enter Tryz.func85, Tryz.ntmps85
      go_wp2_with (first
        | (go_at_call 161; refine HL0.out.mono ?_; rintro e w1 ⟨rfl, rfl⟩)
        | (go_at_call 163; refine HS.out.mono ?_; rintro e w2 ⟨⟨v2, rfl, hv2⟩, hk2⟩; have HV2 := Lib.hid hv2; have K2 := Lib.hid hk2; clear hv2 hk2)
        | (go_at_call 162; (with_reducible refine (HIN.out _ _ _ _ D1.out K2.out HV2.out).mono ?_); rintro e w3 ⟨rfl, hk3⟩; have K3 := Lib.hid (K2.out.trans hk3); clear hk3))
      go_ret
      exact ⟨rfl, K3.out⟩
  · have hchk : chkI xs = errI xs := by unfold chkI; rw [if_pos (by omega)]
    rw [hchk]
    obtain ⟨q, hq⟩ : ∃ q, q = errI xs := ⟨_, rfl⟩
    rw [← hq] at HL he ⊢
    have hq0 : ((q : Int) != 0) = true := by simp [bne]; omega
    have hq1 : ((q : Int) == 0) = false := by simp; omega
    clear hchk hq he
    go_enter Tryz.func85, Tryz.ntmps85
    go_wp2_with fail
    refine HL.out.mono ?_
    rintro e w1 ⟨rfl, rfl⟩
    go_wp2
    go_ret
    exact ⟨rfl, Kept.refl _⟩
end Go.Proofs.YtbkchheikkbebaaGreatDoor

/-
  Walk: truncate.Left. Printed by gen_A51.py.
-/
namespace Go.Proofs.YtbkchheikkbebaaGreatDoor
open Go.RowKit

/-- The sum of the first products. -/
def sumQ (ss : List Nat) (ps : List Rw) : Nat → Rat
  | 0 => 0
  | k + 1 => sumQ ss ps k + prodQ (ss.getD k 0) ps ps.length
/-- What Left answers: the error's number, the sum. -/
def leftQ (xs ys : List Int) (ps : List Rw) : Nat × Rat :=
  if chkI xs ≠ 0 then (chkI xs, 0) else if chkI ys ≠ 0 then (chkI ys, 0) else if (natsI ys).any (fun s => decide ((ps.length : Int) ≤ gtK s)) = true then (11, 0) else if badR ps = true then (3, 0) else (0, sumQ (natsI ys) ps (natsI ys).length)
end Go.Proofs.YtbkchheikkbebaaGreatDoor

/-
  Walks: faultlinebase.Words, Rat of equal ones.
-/
namespace Go.Proofs.YtbkchheikkbebaaGreatDoor
open Go.RowKit

set_option maxRecDepth 100000 in
set_option maxHeartbeats 2000000 in
theorem words_true (xs : List Nat) (va vb : Value) (w : World) (ha : WdsAt w va xs) (hb : WdsAt w vb xs) :
    Calls Tryz.prog 96 #[va, vb] w fun e w' => e = .returned (.bool true) ∧ Kept w w' := by
  have HA := Lib.hid ha
  have HB := Lib.hid hb
  have hl := ha.len
  obtain ⟨a0, c0, rfl⟩ := ha.shape
  obtain ⟨a1, c1, rfl⟩ := hb.shape
  obtain ⟨n, hn⟩ : ∃ n, n = xs.length := ⟨_, rfl⟩
  rw [← hn] at HA HB hl ⊢
  have HN := Lib.hid hn
  clear ha hb hn
  go_enter Tryz.func96, Tryz.ntmps96
  go_wp2
  go_loopg [13] n (fun kx s13 wr => ∃ k : Nat, k ≤ n ∧ s13 = .int .i64 k ∧ n - k ≤ kx ∧ Hid (Kept w wr))
  case atStart => exact ⟨0, Nat.zero_le _, rfl, by omega, Lib.hid (Kept.refl _)⟩
  case round =>
    obtain ⟨k, hk, rfl, hkx, HK⟩ := hrel
    by_cases hlt : k < n
    · have hkl : k < xs.length := by have := HN.out; omega
      obtain ⟨b1, o1, rfl, h1⟩ := HA.out.get k hkl
      obtain ⟨b2, o2, rfl, h2⟩ := HB.out.get k hkl
      have c1' := HK.out.cell h1
      have c2' := HK.out.cell h2
      generalize xs.getD k 0 = x at *
      have hki : (k : Int) < (n : Int) := by omega
      have e1 : ((x : Int) == (x : Int)) = true := by simp
      have e2 : ((x : Int) != (x : Int)) = false := by simp
      clear h1 h2 hkl
      go_wp2
      go_quiet (fail)
      go_wp2
      go_roundg (n - (k + 1))
      case measure => omega
      case rel => exact ⟨k + 1, by omega, by go_num, Nat.le_refl _, Lib.hid (HK.out.drewN _)⟩
    · have hki : ¬ (k : Int) < (n : Int) := by omega
      go_wp2
      go_ret
      exact ⟨rfl, HK.out⟩
set_option maxRecDepth 100000 in
set_option maxHeartbeats 2000000 in
theorem rat_true (va vb : Value) (r : Rw) (w : World) (ha : RatAt w va r) (hb : RatAt w vb r) :
    Calls Tryz.prog 32 #[va, vb] w fun e w' => e = .returned (.bool true) ∧ Kept w w' := by
  obtain ⟨u1, u2, rfl, h1, h2⟩ := ha
  obtain ⟨u3, u4, rfl, h3, h4⟩ := hb
  have HW1 := Lib.hid (fun W (hk : Kept w W) => words_true r.num u1 u3 W (h1.kept hk) (h3.kept hk))
  have HW2 := Lib.hid (fun W (hk : Kept w W) => words_true r.den u2 u4 W (h2.kept hk) (h4.kept hk))
  obtain ⟨a1, c1, rfl⟩ := h1.shape
  obtain ⟨a2, c2, rfl⟩ := h2.shape
  obtain ⟨a3, c3, rfl⟩ := h3.shape
  obtain ⟨a4, c4, rfl⟩ := h4.shape
  generalize r.num.length = n1 at *
  generalize r.den.length = n2 at *
  generalize r.neg = neg at *
  obtain ⟨w2, hw2⟩ : ∃ w2, w2 = (w.alloc (.cells #[.bool neg, .slice a1 n1 c1, .slice a2 n2 c2] 39)).alloc (.cells #[.bool neg, .slice a3 n1 c3, .slice a4 n2 c4] 39) := ⟨_, rfl⟩
  have HK0 : Hid (Kept w w2) := Lib.hid (by rw [hw2]; exact ((Kept.refl w).alloc _).alloc _)
  have p := (RowAt.made w #[.bool neg, .slice a1 n1 c1, .slice a2 n2 c2] 39).kept ((Kept.refl _).alloc (.cells #[.bool neg, .slice a3 n1 c3, .slice a4 n2 c4] 39))
  have q := RowAt.made (w.alloc (.cells #[.bool neg, .slice a1 n1 c1, .slice a2 n2 c2] 39)) #[.bool neg, .slice a3 n1 c3, .slice a4 n2 c4] 39
  rw [World.size_alloc] at q
  rw [← hw2] at p q
  have p0 := p.cell (i := 0) (by simp)
  have p1 := p.cell (i := 1) (by simp)
  have p2 := p.cell (i := 2) (by simp)
  have q0 := q.cell (i := 0) (by simp)
  have q1 := q.cell (i := 1) (by simp)
  have q2 := q.cell (i := 2) (by simp)
  simp only [List.getElem_cons_succ, List.getElem_cons_zero] at p0 p1 p2 q0 q1 q2
  have HW := Lib.hid hw2
  clear h1 h2 h3 h4 hw2 p q
  go_enter Tryz.func32, Tryz.ntmps32
  go_wp2_with fail
  rw [← HW.out]
  refine (HW1.out _ HK0.out).mono ?_
  rintro e w3 ⟨rfl, hk3⟩
  have r2 := hk3.cell p2
  have s2 := hk3.cell q2
  have HK3 := Lib.hid (HK0.out.trans hk3)
  clear hk3
  go_wp2_with fail
  refine (HW2.out _ HK3.out).mono ?_
  rintro e w4 ⟨rfl, hk4⟩
  have HK4 := Lib.hid (HK3.out.trans hk4)
  clear hk4
  go_wp2
  go_ret
  exact ⟨rfl, HK4.out⟩
end Go.Proofs.YtbkchheikkbebaaGreatDoor

/-
  Walks: bad of disjoint, esary and the reference: a fraction is no probability.
-/
namespace Go.Proofs.YtbkchheikkbebaaGreatDoor
open Go.RowKit

set_option maxRecDepth 100000 in
set_option maxHeartbeats 2000000 in
theorem dbad_any (v : Value) (ps : List Rw) (w : World) (hv : RatsAt w v ps) (hs : ∀ x ∈ ps, x.Short 34359738368) : Calls Tryz.prog 88 #[v] w fun e w' => e = .returned (.bool (badR ps)) ∧ Kept w w' := by
  obtain ⟨a, c, rfl, ⟨hc, _⟩, hl, hx⟩ := hv
  obtain ⟨n, hn⟩ : ∃ n, n = ps.length := ⟨_, rfl⟩
  have hbig : n ≤ 140737488355328 := by omega
  rw [← hn]
  have HX := Lib.hid hx
  have HN := Lib.hid hn
  have HLT := Lib.hid hs
  clear hx hn hl hc hs
  go_enter Tryz.func88, Tryz.ntmps88
  go_wp2_with fail
  go_loopg [7] n (fun kx i wr => ∃ k : Nat, k ≤ n ∧ i = .int .i64 k ∧ n - k ≤ kx ∧ Hid (∀ x ∈ ps.take k, probR x = true) ∧ Hid (Kept w wr))
  case atStart => exact ⟨0, Nat.zero_le _, rfl, by omega, Lib.hid (by simp), Lib.hid (Kept.refl _)⟩
  case round =>
    obtain ⟨k, hk, rfl, hkx, HF, HK⟩ := hrel
    by_cases hlt : k < n
    · have hkl : k < ps.length := by have := HN.out; omega
      obtain ⟨b, o, u1, u2, rfl, hrg, hw1, hw2⟩ := HX.out k hkl
      have hrg2 := range_same hrg HK.out
      have hxl := HLT.out ps[k] (List.getElem_mem _)
      obtain ⟨x, hxx⟩ : ∃ x, x = ps[k] := ⟨_, rfl⟩
      rw [← hxx] at hrg2 hxl hw1 hw2
      have HXX := Lib.hid hxx
      obtain ⟨a1, c1, rfl⟩ := hw1.shape
      obtain ⟨a2, c2, rfl⟩ := hw2.shape
      have HC : Hid (∀ W, Kept w W → Calls Tryz.prog 46 #[.agg #[.bool x.neg, .slice a1 x.num.length c1, .slice a2 x.den.length c2]] W fun e W' => e = .returned (.bool (probR x)) ∧ Kept W W') := Lib.hid fun W hk => rprob_any _ x W ⟨_, _, rfl, hw1.kept hk, hw2.kept hk⟩ ⟨Nat.le_trans hxl.1 (by omega), Nat.le_trans hxl.2 (by omega)⟩
      generalize x.num.length = n1 at *
      generalize x.den.length = n2 at *
      have HRG : Hid (wr.rangeAt b (o + k * 3) [.bool x.neg, .slice a1 n1 c1, .slice a2 n2 c2]) := Lib.hid hrg2
      have hkn : (k : Int) < (n : Int) := by omega
      clear hrg hrg2 hxx hxl hw1 hw2
      cases hq : probR x with
      | false =>
        rw [hq] at HC
        have HQ := Lib.hid hq
        clear hq
        go_wp2_with (first | (with_reducible refine wpList_load_mid rfl 39 _ rfl b (o + k * 3) rfl _ _ HRG.out Tryz.underlying39 rfl (by kernel_rfl) ?_) | (go_at_call 46; refine (HC.out _ (HK.out.alloc _)).mono ?_; rintro e w' ⟨rfl, hK2⟩))
        go_ret
        have hb : badR ps = true := List.any_eq_true.2 ⟨x, by rw [HXX.out]; exact List.getElem_mem _, by rw [HQ.out]; rfl⟩
        exact ⟨by rw [hb]; rfl, (HK.out.alloc _).trans hK2⟩
      | true =>
        rw [hq] at HC
        have HQ := Lib.hid hq
        clear hq
        go_wp2_with (first | (with_reducible refine wpList_load_mid rfl 39 _ rfl b (o + k * 3) rfl _ _ HRG.out Tryz.underlying39 rfl (by kernel_rfl) ?_) | (go_at_call 46; refine (HC.out _ (HK.out.alloc _)).mono ?_; rintro e w' ⟨rfl, hK2⟩))
        go_roundg (n - (k + 1))
        case measure => omega
        case rel =>
          refine ⟨k + 1, by omega, by go_num, Nat.le_refl _, Lib.hid ?_, Lib.hid ((HK.out.alloc _).trans hK2)⟩
          intro y hy
          rw [List.take_succ_eq_append_getElem hkl] at hy
          rcases List.mem_append.1 hy with hy | hy
          · exact HF.out y hy
          · simp at hy; rw [hy, ← HXX.out]; exact HQ.out
    · have hh := HF.out
      rw [List.take_of_length_le (by have := HN.out; omega)] at hh
      have HB : Hid (badR ps = false) := Lib.hid (by unfold badR; rw [List.any_eq_false]; intro y hy; simp [hh y hy])
      have hkn : ¬ (k : Int) < (n : Int) := by omega
      clear hh
      go_wp2
      go_ret
      exact ⟨by rw [HB.out]; rfl, HK.out⟩
set_option maxRecDepth 100000 in
set_option maxHeartbeats 2000000 in
theorem r38bad_any (v : Value) (ps : List Rw) (w : World) (hv : RatsAt w v ps) (hs : ∀ x ∈ ps, x.Short 34359738368) : Calls Tryz.prog 61 #[v] w fun e w' => e = .returned (.bool (badR ps)) ∧ Kept w w' := by
  obtain ⟨a, c, rfl, ⟨hc, _⟩, hl, hx⟩ := hv
  obtain ⟨n, hn⟩ : ∃ n, n = ps.length := ⟨_, rfl⟩
  have hbig : n ≤ 140737488355328 := by omega
  rw [← hn]
  have HX := Lib.hid hx
  have HN := Lib.hid hn
  have HLT := Lib.hid hs
  clear hx hn hl hc hs
  go_enter Tryz.func61, Tryz.ntmps61
  go_wp2_with fail
  go_loopg [7] n (fun kx i wr => ∃ k : Nat, k ≤ n ∧ i = .int .i64 k ∧ n - k ≤ kx ∧ Hid (∀ x ∈ ps.take k, probR x = true) ∧ Hid (Kept w wr))
  case atStart => exact ⟨0, Nat.zero_le _, rfl, by omega, Lib.hid (by simp), Lib.hid (Kept.refl _)⟩
  case round =>
    obtain ⟨k, hk, rfl, hkx, HF, HK⟩ := hrel
    by_cases hlt : k < n
    · have hkl : k < ps.length := by have := HN.out; omega
      obtain ⟨b, o, u1, u2, rfl, hrg, hw1, hw2⟩ := HX.out k hkl
      have hrg2 := range_same hrg HK.out
      have hxl := HLT.out ps[k] (List.getElem_mem _)
      obtain ⟨x, hxx⟩ : ∃ x, x = ps[k] := ⟨_, rfl⟩
      rw [← hxx] at hrg2 hxl hw1 hw2
      have HXX := Lib.hid hxx
      obtain ⟨a1, c1, rfl⟩ := hw1.shape
      obtain ⟨a2, c2, rfl⟩ := hw2.shape
      have HC : Hid (∀ W, Kept w W → Calls Tryz.prog 133 #[.agg #[.bool x.neg, .slice a1 x.num.length c1, .slice a2 x.den.length c2]] W fun e W' => e = .returned (.bool (probR x)) ∧ Kept W W') := Lib.hid fun W hk => refprob_any _ x W ⟨_, _, rfl, hw1.kept hk, hw2.kept hk⟩ ⟨Nat.le_trans hxl.1 (by omega), Nat.le_trans hxl.2 (by omega)⟩
      generalize x.num.length = n1 at *
      generalize x.den.length = n2 at *
      have HRG : Hid (wr.rangeAt b (o + k * 3) [.bool x.neg, .slice a1 n1 c1, .slice a2 n2 c2]) := Lib.hid hrg2
      have hkn : (k : Int) < (n : Int) := by omega
      clear hrg hrg2 hxx hxl hw1 hw2
      cases hq : probR x with
      | false =>
        rw [hq] at HC
        have HQ := Lib.hid hq
        clear hq
        go_wp2_with (first | (with_reducible refine wpList_load_mid rfl 39 _ rfl b (o + k * 3) rfl _ _ HRG.out Tryz.underlying39 rfl (by kernel_rfl) ?_) | (go_at_call 133; refine (HC.out _ (HK.out.alloc _)).mono ?_; rintro e w' ⟨rfl, hK2⟩))
        go_ret
        have hb : badR ps = true := List.any_eq_true.2 ⟨x, by rw [HXX.out]; exact List.getElem_mem _, by rw [HQ.out]; rfl⟩
        exact ⟨by rw [hb]; rfl, (HK.out.alloc _).trans hK2⟩
      | true =>
        rw [hq] at HC
        have HQ := Lib.hid hq
        clear hq
        go_wp2_with (first | (with_reducible refine wpList_load_mid rfl 39 _ rfl b (o + k * 3) rfl _ _ HRG.out Tryz.underlying39 rfl (by kernel_rfl) ?_) | (go_at_call 133; refine (HC.out _ (HK.out.alloc _)).mono ?_; rintro e w' ⟨rfl, hK2⟩))
        go_roundg (n - (k + 1))
        case measure => omega
        case rel =>
          refine ⟨k + 1, by omega, by go_num, Nat.le_refl _, Lib.hid ?_, Lib.hid ((HK.out.alloc _).trans hK2)⟩
          intro y hy
          rw [List.take_succ_eq_append_getElem hkl] at hy
          rcases List.mem_append.1 hy with hy | hy
          · exact HF.out y hy
          · simp at hy; rw [hy, ← HXX.out]; exact HQ.out
    · have hh := HF.out
      rw [List.take_of_length_le (by have := HN.out; omega)] at hh
      have HB : Hid (badR ps = false) := Lib.hid (by unfold badR; rw [List.any_eq_false]; intro y hy; simp [hh y hy])
      have hkn : ¬ (k : Int) < (n : Int) := by omega
      clear hh
      go_wp2
      go_ret
      exact ⟨by rw [HB.out]; rfl, HK.out⟩
end Go.Proofs.YtbkchheikkbebaaGreatDoor

/-
  Plain: a formula in which an event is replaced by a constant, which is node 0; Restrict.
-/
namespace Go.Proofs.YtbkchheikkbebaaGreatDoor

def mvA (V e : Nat) (a : Int) : Int := if a = e then V else if a < V then a else a + 1
def mvN (V e : Nat) (x : Nd) : Nd := ⟨x.kind, x.k, x.args.map (mvA V e)⟩
def mvF (V e : Nat) (k : Int) (f : Fm) (T : Nat) : Fm := ⟨V, ⟨0, k, []⟩ :: f.nodes.map (mvN V e), mvA V e T⟩
/-- s with the bit e put to b. -/
def putBit (s e : Nat) (b : Bool) : Nat := if b then s ||| 2 ^ e else sdiff s (2 ^ e)
/-- Restrict. -/
def restrictK (l : List Nat) (fl wk : Nat) : List Nat := minK ((l.filter fun s => s &&& wk == 0).map fun s => sdiff s fl)
theorem sdiff_bit (a b i : Nat) : (sdiff a b).testBit i = (a.testBit i && !b.testBit i) := by
  unfold sdiff
  rw [Nat.testBit_xor, Nat.testBit_and]
  cases a.testBit i <;> cases b.testBit i <;> rfl
end Go.Proofs.YtbkchheikkbebaaGreatDoor

/-
  Plain: disjoint cubes of a family; how many of them a state lies in.
-/
namespace Go.Proofs.YtbkchheikkbebaaGreatDoor
open Go.RowKit

/-- The cubes of a cube without the states with all of some events. -/
def lessL (y n : Nat) : List Nat → List (Nat × Nat)
  | [] => []
  | i :: is => (y, n ||| 2 ^ i) :: lessL (y ||| 2 ^ i) n is
def lessK (c : Nat × Nat) (s : Nat) : List (Nat × Nat) := if s &&& c.2 ≠ 0 then [c] else lessL c.1 c.2 (elemsK (sdiff s c.1))
def withK (l : List (Nat × Nat)) (s : Nat) : List (Nat × Nat) := l.flatMap fun c => lessK c s
def ownC (most : Nat) : List Nat → List (Nat × Nat) → Option (List (Nat × Nat))
  | [], l => some l
  | b :: bs, l => if most < (withK l b).length then none else ownC most bs (withK l b)
def cubesC (pre : List Nat) (out : List (Nat × Nat)) : List Nat → Option (List (Nat × Nat))
  | [] => some out
  | s :: r => match ownC (1024 - out.length) pre [(s, 0)] with
    | none => none
    | some l => cubesC (pre ++ [s]) (out ++ l) r
def cubesK (L : List Nat) : Option (List (Nat × Nat)) := cubesC [] [] L
/-- A state is in a cube. -/
def inC (c : Nat × Nat) (s : Nat) : Bool := subN c.1 s && (c.2 &&& s == 0)
def cnt (l : List (Nat × Nat)) (s : Nat) : Nat := (l.filter fun c => inC c s).length
theorem and_zero_iff {a b : Nat} : (a &&& b == 0) = true ↔ ∀ i, a.testBit i = true → b.testBit i = false := by
  rw [beq_iff_eq]
  constructor
  · intro h i hi
    have : (a &&& b).testBit i = false := by rw [h]; exact Nat.zero_testBit i
    rw [Nat.testBit_and, hi] at this
    simpa using this
  · intro h
    apply Nat.eq_of_testBit_eq
    intro i
    rw [Nat.testBit_and, Nat.zero_testBit]
    cases ha : a.testBit i with
    | false => rfl
    | true => rw [h i ha]; rfl
theorem inC_iff {c : Nat × Nat} {s : Nat} : inC c s = true ↔ (∀ i, c.1.testBit i = true → s.testBit i = true) ∧ ∀ i, c.2.testBit i = true → s.testBit i = false := by
  unfold inC
  rw [Bool.and_eq_true, subN_iff, and_zero_iff]
theorem cnt_nil (s : Nat) : cnt [] s = 0 := rfl
theorem cnt_cons (c : Nat × Nat) (l : List (Nat × Nat)) (s : Nat) : cnt (c :: l) s = (if inC c s = true then 1 else 0) + cnt l s := by
  unfold cnt
  rw [List.filter_cons]
  split
  · rw [List.length_cons, Nat.add_comm]
  · omega
theorem cnt_app (a b : List (Nat × Nat)) (s : Nat) : cnt (a ++ b) s = cnt a s + cnt b s := by
  unfold cnt
  rw [List.filter_append, List.length_append]
theorem inC_no (y n i s : Nat) : inC (y, n ||| 2 ^ i) s = (inC (y, n) s && !s.testBit i) := by
  rw [Bool.eq_iff_iff, Bool.and_eq_true, inC_iff, inC_iff]
  constructor
  · rintro ⟨h1, h2⟩
    refine ⟨⟨h1, fun j hj => h2 j ?_⟩, ?_⟩
    · show (n ||| 2 ^ i).testBit j = true
      rw [Nat.testBit_or, hj]; rfl
    · rw [h2 i (by show (n ||| 2 ^ i).testBit i = true; rw [Nat.testBit_or, Nat.testBit_two_pow_self]; simp)]; rfl
  · rintro ⟨⟨h1, h2⟩, h3⟩
    refine ⟨h1, fun j hj => ?_⟩
    replace hj : (n ||| 2 ^ i).testBit j = true := hj
    rw [Nat.testBit_or, Nat.testBit_two_pow, Bool.or_eq_true, decide_eq_true_eq] at hj
    rcases hj with hj | rfl
    · exact h2 j hj
    · simpa using h3
theorem inC_yes (y n i s : Nat) : inC (y ||| 2 ^ i, n) s = (inC (y, n) s && s.testBit i) := by
  rw [Bool.eq_iff_iff, Bool.and_eq_true, inC_iff, inC_iff]
  constructor
  · rintro ⟨h1, h2⟩
    refine ⟨⟨fun j hj => h1 j ?_, h2⟩, h1 i ?_⟩
    · show (y ||| 2 ^ i).testBit j = true
      rw [Nat.testBit_or, hj]; rfl
    · show (y ||| 2 ^ i).testBit i = true
      rw [Nat.testBit_or, Nat.testBit_two_pow_self]; simp
  · rintro ⟨⟨h1, h2⟩, h3⟩
    refine ⟨fun j hj => ?_, h2⟩
    replace hj : (y ||| 2 ^ i).testBit j = true := hj
    rw [Nat.testBit_or, Nat.testBit_two_pow, Bool.or_eq_true, decide_eq_true_eq] at hj
    rcases hj with hj | rfl
    · exact h1 j hj
    · exact h3
theorem cnt_lessL (n s : Nat) : ∀ (is : List Nat) (y : Nat), cnt (lessL y n is) s = if inC (y, n) s = true ∧ (∃ i ∈ is, s.testBit i = false) then 1 else 0 := by
  intro is
  induction is with
  | nil => intro y; simp [lessL, cnt_nil]
  | cons i is ih =>
    intro y
    rw [lessL, cnt_cons, ih, inC_no, inC_yes]
    cases h1 : inC (y, n) s <;> cases h2 : s.testBit i <;> simp [h2]
theorem cnt_lessK {c : Nat × Nat} {b s : Nat} (hb : b < 16777216) : cnt (lessK c b) s = if inC c s = true ∧ subN b s = false then 1 else 0 := by
  obtain ⟨y, n⟩ := c
  unfold lessK
  by_cases h : b &&& n ≠ 0
  · rw [if_pos h, cnt_cons, cnt_nil, Nat.add_zero]
    have : inC (y, n) s = true → subN b s = false := by
      intro h1
      cases h2 : subN b s with
      | false => rfl
      | true =>
        refine absurd ?_ h
        have h3 := inC_iff.1 h1
        have h4 := subN_iff.1 h2
        apply Nat.eq_of_testBit_eq
        intro i
        rw [Nat.testBit_and, Nat.zero_testBit]
        cases hb : b.testBit i with
        | false => rfl
        | true =>
          cases hn : n.testBit i with
          | false => rfl
          | true => exact absurd (h4 i hb) (by rw [h3.2 i hn]; decide)
    by_cases h1 : inC (y, n) s = true
    · rw [if_pos h1, if_pos ⟨h1, this h1⟩]
    · rw [if_neg h1, if_neg (fun h => h1 h.1)]
  · rw [if_neg h, cnt_lessL]
    have : inC (y, n) s = true → ((∃ i ∈ elemsK (sdiff b y), s.testBit i = false) ↔ subN b s = false) := by
      intro h1
      have h3 := inC_iff.1 h1
      constructor
      · rintro ⟨i, hi, h4⟩
        cases h5 : subN b s with
        | false => rfl
        | true =>
          have h6 := (elems_lt hi).2
          rw [sdiff_bit, Bool.and_eq_true] at h6
          rw [subN_iff.1 h5 i h6.1] at h4
          cases h4
      · intro h4
        refine Classical.byContradiction fun h5 => ?_
        have h6 : subN b s = true := subN_iff.2 fun i hi => by
          cases hs : s.testBit i with
          | true => rfl
          | false =>
            refine absurd ⟨i, ?_, hs⟩ h5
            unfold elemsK
            rw [List.mem_filter, List.mem_range, sdiff_bit, hi]
            refine ⟨?_, ?_⟩
            · refine Nat.lt_of_not_le fun h => ?_
              have h7 : 2 ^ 24 ≤ b := Nat.le_trans (Nat.pow_le_pow_right (by omega) h) (Nat.ge_two_pow_of_testBit hi)
              exact absurd (show (2 : Nat) ^ 24 ≤ b from h7) (by rw [show (2 : Nat) ^ 24 = 16777216 from rfl]; omega)
            · cases hy : y.testBit i with
              | false => rfl
              | true => rw [h3.1 i hy] at hs; cases hs
        rw [h6] at h4
        cases h4
    by_cases h1 : inC (y, n) s = true
    · simp only [h1, true_and]
      by_cases h2 : subN b s = false
      · rw [if_pos ((this h1).2 h2), if_pos h2]
      · rw [if_neg (fun h => h2 ((this h1).1 h)), if_neg h2]
    · rw [if_neg (fun h => h1 h.1), if_neg (fun h => h1 h.1)]
theorem cnt_withK {b s : Nat} (hb : b < 16777216) : ∀ l, cnt (withK l b) s = if subN b s = true then 0 else cnt l s := by
  intro l
  induction l with
  | nil => simp [withK, cnt_nil]
  | cons c l ih =>
    have e : withK (c :: l) b = lessK c b ++ withK l b := by simp [withK]
    rw [e, cnt_app, ih, cnt_lessK hb, cnt_cons]
    cases h1 : inC c s <;> cases h2 : subN b s <;> simp
theorem cnt_own {most s : Nat} : ∀ {bs : List Nat} {l l' : List (Nat × Nat)}, (∀ b ∈ bs, b < 16777216) → ownC most bs l = some l' → cnt l' s = if covB bs s = true then 0 else cnt l s := by
  intro bs
  induction bs with
  | nil =>
    intro l l' _ h
    cases h
    simp [covB]
  | cons b bs ih =>
    intro l l' hb h
    rw [ownC] at h
    split at h
    · cases h
    · rw [ih (fun x hx => hb x (List.mem_cons_of_mem _ hx)) h, cnt_withK (hb b List.mem_cons_self)]
      have e : covB (b :: bs) s = (subN b s || covB bs s) := by simp [covB]
      rw [e]
      cases h1 : subN b s <;> cases h2 : covB bs s <;> simp
theorem cnt_cubesC {s : Nat} : ∀ {r pre : List Nat} {out out' : List (Nat × Nat)}, (∀ b ∈ pre ++ r, b < 16777216) → cubesC pre out r = some out' →
    cnt out' s = cnt out s + if covB pre s = true then 0 else if covB r s = true then 1 else 0 := by
  intro r
  induction r with
  | nil =>
    intro pre out out' _ h
    cases h
    simp [covB]
  | cons x r ih =>
    intro pre out out' hb h
    rw [cubesC] at h
    split at h
    · cases h
    · rename_i l hl
      rw [ih (fun b h => hb b (by simpa using h)) h, cnt_app, cnt_own (fun b h => hb b (List.mem_append_left _ h)) hl]
      have e0 : inC (x, 0) s = subN x s := by unfold inC; simp
      have e1 : cnt [(x, 0)] s = if subN x s = true then 1 else 0 := by rw [cnt_cons, cnt_nil, e0, Nat.add_zero]
      have e2 : covB (pre ++ [x]) s = (covB pre s || subN x s) := by simp [covB]
      have e3 : covB (x :: r) s = (subN x s || covB r s) := by simp [covB]
      rw [e1, e2, e3]
      cases h1 : covB pre s <;> cases h2 : subN x s <;> cases h3 : covB r s <;> simp
/-- A state that contains a set of the family is in exactly one cube, another one in none. -/
theorem cnt_cubes {L : List Nat} {out : List (Nat × Nat)} (hb : ∀ b ∈ L, b < 16777216) (h : cubesK L = some out) (s : Nat) : cnt out s = if covB L s = true then 1 else 0 := by
  have := cnt_cubesC (s := s) (r := L) (pre := []) (out := []) (by simpa using hb) h
  rw [this, cnt_nil]
  simp [covB]
/-- The cubes of a longer family begin with those of a shorter one. -/
theorem cubesC_app : ∀ {a b pre : List Nat} {out : List (Nat × Nat)}, cubesC pre out (a ++ b) = match cubesC pre out a with | none => none | some o => cubesC (pre ++ a) o b := by
  intro a
  induction a with
  | nil => intro b pre out; simp [cubesC]
  | cons x a ih =>
    intro b pre out
    rw [List.cons_append, cubesC, cubesC]
    cases h : ownC (1024 - out.length) pre [(x, 0)] with
    | none => rfl
    | some l =>
      show cubesC (pre ++ [x]) (out ++ l) (a ++ b) = match cubesC (pre ++ [x]) (out ++ l) a with | none => none | some o => cubesC (pre ++ x :: a) o b
      rw [ih]
      simp
theorem cubesC_pre : ∀ {r pre : List Nat} {out out' : List (Nat × Nat)}, cubesC pre out r = some out' → ∃ t, out' = out ++ t := by
  intro r
  induction r with
  | nil => intro pre out out' h; cases h; exact ⟨[], by simp⟩
  | cons x r ih =>
    intro pre out out' h
    rw [cubesC] at h
    split at h
    · cases h
    · obtain ⟨t, ht⟩ := ih h
      exact ⟨_, by rw [ht, List.append_assoc]⟩
theorem cubes_take {L : List Nat} {b : List (Nat × Nat)} (n : Nat) (h : cubesK L = some b) : ∃ a t, cubesK (L.take n) = some a ∧ b = a ++ t := by
  unfold cubesK at h ⊢
  rw [← List.take_append_drop n L, cubesC_app] at h
  cases ha : cubesC [] [] (L.take n) with
  | none => rw [ha] at h; cases h
  | some a =>
    rw [ha] at h
    obtain ⟨t, ht⟩ := cubesC_pre h
    exact ⟨a, t, rfl, ht⟩
/-- A property that all parts of a cube have. -/
theorem own_all {Pr : Nat × Nat → Prop} {most : Nat} : ∀ {bs : List Nat} {l l' : List (Nat × Nat)}, (∀ b ∈ bs, ∀ c, Pr c → ∀ d ∈ lessK c b, Pr d) → (∀ c ∈ l, Pr c) → ownC most bs l = some l' → ∀ c ∈ l', Pr c := by
  intro bs
  induction bs with
  | nil => intro l l' _ h1 h; cases h; exact h1
  | cons b bs ih =>
    intro l l' hb h1 h
    rw [ownC] at h
    split at h
    · cases h
    · refine ih (fun x hx => hb x (List.mem_cons_of_mem _ hx)) ?_ h
      intro c hc
      obtain ⟨d, hd, hc⟩ := List.mem_flatMap.1 hc
      exact hb b List.mem_cons_self d (h1 d hd) c hc
theorem cubesC_all {Pr : Nat × Nat → Prop} {L : List Nat} : ∀ {r pre : List Nat} {out out' : List (Nat × Nat)}, (∀ b ∈ L, ∀ c, Pr c → ∀ d ∈ lessK c b, Pr d) → (∀ b ∈ L, Pr (b, 0)) → (∀ b ∈ pre ++ r, b ∈ L) → (∀ c ∈ out, Pr c) →
    cubesC pre out r = some out' → ∀ c ∈ out', Pr c := by
  intro r
  induction r with
  | nil => intro pre out out' _ _ _ h2 h; cases h; exact h2
  | cons x r ih =>
    intro pre out out' hP h0 hL h2 h
    rw [cubesC] at h
    split at h
    · cases h
    · rename_i l hl
      refine ih hP h0 (fun b h => hL b (by simpa using h)) ?_ h
      intro c hc
      rcases List.mem_append.1 hc with hc | hc
      · exact h2 c hc
      · refine own_all (fun b hb => hP b (hL b (List.mem_append_left _ hb))) ?_ hl c hc
        intro c hc
        rw [List.mem_singleton] at hc
        rw [hc]
        exact h0 x (hL x (by simp))
theorem cubes_all {Pr : Nat × Nat → Prop} {L : List Nat} {out : List (Nat × Nat)} (hP : ∀ b ∈ L, ∀ c, Pr c → ∀ d ∈ lessK c b, Pr d) (h0 : ∀ b ∈ L, Pr (b, 0)) (h : cubesK L = some out) : ∀ c ∈ out, Pr c :=
  cubesC_all hP h0 (by simp) (by simp) h
theorem lessL_all {Pr : Nat × Nat → Prop} {n : Nat} : ∀ {is : List Nat} {y : Nat}, is.Nodup → (∀ i ∈ is, y.testBit i = false) →
    (∀ (y' i : Nat), i ∈ is → (∀ j, y'.testBit j = true → y.testBit j = true ∨ j ∈ is) → (∀ j, y.testBit j = true → y'.testBit j = true) → y'.testBit i = false → Pr (y', n ||| 2 ^ i)) → ∀ d ∈ lessL y n is, Pr d := by
  intro is
  induction is with
  | nil => intro y _ _ _ d hd; cases hd
  | cons i is ih =>
    intro y hn hy hP d hd
    rw [lessL] at hd
    rcases List.mem_cons.1 hd with rfl | hd
    · exact hP y i List.mem_cons_self (fun j h => .inl h) (fun j h => h) (hy i List.mem_cons_self)
    · have hn2 := List.nodup_cons.1 hn
      refine ih hn2.2 ?_ ?_ d hd
      · intro j hj
        rw [Nat.testBit_or, hy j (List.mem_cons_of_mem _ hj), Nat.testBit_two_pow]
        have : i ≠ j := fun h => hn2.1 (h ▸ hj)
        simp [this]
      · intro y' j hj h1 h2 h3
        refine hP y' j (List.mem_cons_of_mem _ hj) ?_ ?_ h3
        · intro k hk
          rcases h1 k hk with h | h
          · rw [Nat.testBit_or, Nat.testBit_two_pow, Bool.or_eq_true, decide_eq_true_eq] at h
            rcases h with h | rfl
            · exact .inl h
            · exact .inr List.mem_cons_self
          · exact .inr (List.mem_cons_of_mem _ h)
        · intro k hk
          refine h2 k ?_
          rw [Nat.testBit_or, hk]; rfl
theorem elems_nodup (s : Nat) : (elemsK s).Nodup := List.nodup_range.filter _
/-- A valid cube. -/
def CbOk (c : Nat × Nat) : Prop := c.1 < 16777216 ∧ c.2 < 16777216 ∧ c.1 &&& c.2 = 0
theorem lt_24 {x : Nat} (h : ∀ j, x.testBit j = true → j < 24) : x < 16777216 := by
  rw [show 16777216 = 2 ^ 24 from rfl]
  exact Nat.lt_pow_two_of_testBit x fun i hi => by
    cases hx : x.testBit i with
    | false => rfl
    | true => have := h i hx; omega
theorem bit_24 {x j : Nat} (h : x < 16777216) (hj : x.testBit j = true) : j < 24 := by
  refine Nat.lt_of_not_le fun h2 => ?_
  have h7 : 2 ^ 24 ≤ x := Nat.le_trans (Nat.pow_le_pow_right (by omega) h2) (Nat.ge_two_pow_of_testBit hj)
  rw [show (2 : Nat) ^ 24 = 16777216 from rfl] at h7
  omega
theorem and_eq_zero {a b : Nat} : a &&& b = 0 ↔ ∀ i, a.testBit i = true → b.testBit i = false := by
  rw [← beq_iff_eq]; exact and_zero_iff
theorem less_ok {b : Nat} {c : Nat × Nat} (hc : CbOk c) : ∀ d ∈ lessK c b, CbOk d := by
  intro d hd
  unfold lessK at hd
  split at hd
  · rw [List.mem_singleton] at hd; rw [hd]; exact hc
  · rename_i h
    obtain ⟨h1, h2, h3⟩ := hc
    have h0 : b &&& c.2 = 0 := Classical.byContradiction h
    refine lessL_all (elems_nodup _) ?_ ?_ d hd
    · intro i hi
      have := (elems_lt hi).2
      rw [sdiff_bit, Bool.and_eq_true] at this
      simpa using this.2
    · intro y' i hi h4 _ h5
      refine ⟨lt_24 fun j hj => ?_, lt_24 fun j hj => ?_, and_eq_zero.2 fun j hj => ?_⟩
      · rcases h4 j hj with h | h
        · exact bit_24 h1 h
        · exact (elems_lt h).1
      · replace hj : (c.2 ||| 2 ^ i).testBit j = true := hj
        rw [Nat.testBit_or, Nat.testBit_two_pow, Bool.or_eq_true, decide_eq_true_eq] at hj
        rcases hj with h | rfl
        · exact bit_24 h2 h
        · exact (elems_lt hi).1
      · show (c.2 ||| 2 ^ i).testBit j = false
        rw [Nat.testBit_or, Nat.testBit_two_pow, Bool.or_eq_false_iff, decide_eq_false_iff_not]
        refine ⟨?_, ?_⟩
        · rcases h4 j hj with h | h
          · exact and_eq_zero.1 h3 j h
          · have h6 := (elems_lt h).2
            rw [sdiff_bit, Bool.and_eq_true] at h6
            exact and_eq_zero.1 h0 j h6.1
        · rintro rfl
          rw [h5] at hj
          cases hj
theorem cubes_ok {L : List Nat} {out : List (Nat × Nat)} (hb : ∀ b ∈ L, b < 16777216) (h : cubesK L = some out) : ∀ c ∈ out, CbOk c :=
  cubes_all (fun _ _ _ hc => less_ok hc) (fun b h => ⟨hb b h, by show (0 : Nat) < 16777216; decide, by simp⟩) h
/-- Each cube contains a set of the family. -/
theorem cubes_cov {L : List Nat} {out : List (Nat × Nat)} (h : cubesK L = some out) : ∀ c ∈ out, covB L c.1 = true := by
  refine cubes_all (Pr := fun c => covB L c.1 = true) ?_ ?_ h
  · intro b _ c hc d hd
    have hsub : subN c.1 d.1 = true := by
      unfold lessK at hd
      split at hd
      · rw [List.mem_singleton] at hd; rw [hd]; exact subN_iff.2 fun i h => h
      · refine lessL_all (Pr := fun d => subN c.1 d.1 = true) (elems_nodup _) ?_ ?_ d hd
        · intro i hi
          have := (elems_lt hi).2
          rw [sdiff_bit, Bool.and_eq_true] at this
          simpa using this.2
        · intro y' i _ _ h5 _
          exact subN_iff.2 fun j hj => h5 j hj
    obtain ⟨t, ht, h1⟩ := List.any_eq_true.1 hc
    exact List.any_eq_true.2 ⟨t, ht, subN_iff.2 fun i hi => subN_iff.1 hsub i (subN_iff.1 h1 i hi)⟩
  · intro b hb
    exact List.any_eq_true.2 ⟨b, hb, subN_iff.2 fun i h => h⟩
/-- Two cubes have a common state. -/
def meetC (a b : Nat × Nat) : Bool := a.1 &&& b.2 == 0 && a.2 &&& b.1 == 0
theorem meet_two {a b : Nat × Nat} (ha : CbOk a) (hb : CbOk b) (h : meetC a b = true) : inC a (a.1 ||| b.1) = true ∧ inC b (a.1 ||| b.1) = true := by
  unfold meetC at h
  rw [Bool.and_eq_true, and_zero_iff, and_zero_iff] at h
  obtain ⟨_, _, ha⟩ := ha
  obtain ⟨_, _, hb⟩ := hb
  refine ⟨inC_iff.2 ⟨fun i hi => by rw [Nat.testBit_or, hi]; rfl, fun i hi => ?_⟩, inC_iff.2 ⟨fun i hi => by rw [Nat.testBit_or, hi]; simp, fun i hi => ?_⟩⟩
  · rw [Nat.testBit_or, Bool.or_eq_false_iff]
    refine ⟨?_, h.2 i hi⟩
    cases hx : a.1.testBit i with
    | false => rfl
    | true => rw [and_eq_zero.1 ha i hx] at hi; cases hi
  · rw [Nat.testBit_or, Bool.or_eq_false_iff]
    refine ⟨?_, ?_⟩
    · cases hx : a.1.testBit i with
      | false => rfl
      | true => rw [h.1 i hx] at hi; cases hi
    · cases hx : b.1.testBit i with
      | false => rfl
      | true => rw [and_eq_zero.1 hb i hx] at hi; cases hi
theorem cnt_pair {l : List (Nat × Nat)} {s i j : Nat} (hij : j < i) (hi : i < l.length) (h1 : inC (l[i]'hi) s = true) (h2 : inC (l[j]'(by omega)) s = true) : 2 ≤ cnt l s := by
  have e : l = l.take i ++ l[i]'hi :: l.drop (i + 1) := by rw [List.getElem_cons_drop, List.take_append_drop]
  rw [e, cnt_app, cnt_cons, if_pos h1]
  have hj : j < (l.take i).length := by rw [List.length_take]; omega
  have e2 : l.take i = (l.take i).take j ++ (l.take i)[j]'hj :: (l.take i).drop (j + 1) := by rw [List.getElem_cons_drop, List.take_append_drop]
  have h3 : inC ((l.take i)[j]'hj) s = true := by rw [List.getElem_take]; exact h2
  rw [e2, cnt_app, cnt_cons, if_pos h3]
  omega
/-- The cubes of a family do not meet. -/
theorem cubes_apart {L : List Nat} {out : List (Nat × Nat)} (hb : ∀ b ∈ L, b < 16777216) (h : cubesK L = some out) (i j : Nat) (hij : j < i) (hi : i < out.length) : meetC (out[i]'hi) (out[j]'(by omega)) = false := by
  cases hm : meetC (out[i]'hi) (out[j]'(by omega)) with
  | false => rfl
  | true =>
    have hok := cubes_ok hb h
    obtain ⟨h1, h2⟩ := meet_two (hok _ (List.getElem_mem _)) (hok _ (List.getElem_mem _)) hm
    have h3 := cnt_pair hij hi h1 h2
    rw [cnt_cubes hb h] at h3
    split at h3 <;> omega
theorem own_le {most : Nat} : ∀ {bs : List Nat} {l l' : List (Nat × Nat)}, ownC most bs l = some l' → bs ≠ [] → l'.length ≤ most := by
  intro bs
  induction bs with
  | nil => intro _ _ _ h; exact absurd rfl h
  | cons b bs ih =>
    intro l l' h _
    rw [ownC] at h
    split at h
    · cases h
    · by_cases hb : bs = []
      · subst hb; cases h; omega
      · exact ih h hb
theorem cubesC_len : ∀ {r pre : List Nat} {out out' : List (Nat × Nat)}, cubesC pre out r = some out' → out.length ≤ 1024 → (pre = [] → out = []) → out'.length ≤ 1024 := by
  intro r
  induction r with
  | nil => intro pre out out' h h1 _; cases h; exact h1
  | cons x r ih =>
    intro pre out out' h h1 h2
    rw [cubesC] at h
    split at h
    · cases h
    · rename_i l hl
      refine ih h ?_ (fun h => absurd h (by simp))
      rw [List.length_append]
      by_cases hp : pre = []
      · rw [h2 hp]
        subst hp
        cases hl
        simp
      · have := own_le hl hp
        omega
theorem cubes_len {L : List Nat} {out : List (Nat × Nat)} (h : cubesK L = some out) : out.length ≤ 1024 := cubesC_len h (by decide) (fun _ => rfl)
end Go.Proofs.YtbkchheikkbebaaGreatDoor

/-
  Plain: the mean of a number over independent events; cubes, disjoint cubes, sums over states.
-/
namespace Go.Proofs.YtbkchheikkbebaaGreatDoor
open Go.RowKit

/-- The mean of F over the states of the first n events, of which event i fails with probability q i. -/
def EX (q : Nat → Rat) : Nat → (Nat → Rat) → Rat
  | 0, F => F 0
  | n + 1, F => q n * EX q n (fun s => F (s + 2 ^ n)) + (1 - q n) * EX q n F
def ind (b : Bool) : Rat := if b = true then 1 else 0
theorem EX_congr {q : Nat → Rat} : ∀ {n : Nat} {F G : Nat → Rat}, (∀ s, s < 2 ^ n → F s = G s) → EX q n F = EX q n G := by
  intro n
  induction n with
  | zero => intro F G h; exact h 0 (by decide)
  | succ n ih =>
    intro F G h
    rw [EX, EX, ih (F := F) (G := G) (fun s hs => h s (by rw [Nat.pow_succ]; omega)), ih (F := fun s => F (s + 2 ^ n)) (G := fun s => G (s + 2 ^ n)) (fun s hs => h _ (by rw [Nat.pow_succ]; omega))]
theorem EX_add {q : Nat → Rat} : ∀ {n : Nat} {F G : Nat → Rat}, EX q n (fun s => F s + G s) = EX q n F + EX q n G := by
  intro n
  induction n with
  | zero => intro F G; rfl
  | succ n ih =>
    intro F G
    rw [EX, EX, EX, ih (F := F) (G := G), ih (F := fun s => F (s + 2 ^ n)) (G := fun s => G (s + 2 ^ n))]
    grind
theorem EX_mul {q : Nat → Rat} : ∀ {n : Nat} {F : Nat → Rat} {c : Rat}, EX q n (fun s => c * F s) = c * EX q n F := by
  intro n
  induction n with
  | zero => intro F c; rfl
  | succ n ih =>
    intro F c
    rw [EX, EX, ih (F := F), ih (F := fun s => F (s + 2 ^ n))]
    grind
theorem EX_const {q : Nat → Rat} : ∀ {n : Nat} {c : Rat}, EX q n (fun _ => c) = c := by
  intro n
  induction n with
  | zero => intro c; rfl
  | succ n ih => intro c; rw [EX, ih]; grind
theorem EX_sub {q : Nat → Rat} {n : Nat} {F G : Nat → Rat} : EX q n (fun s => F s - G s) = EX q n F - EX q n G := by
  have h1 : EX q n (fun s => F s - G s) = EX q n (fun s => F s + (-1) * G s) := EX_congr fun s _ => by grind
  rw [h1, EX_add, EX_mul]
  grind
theorem EX_mono {q : Nat → Rat} : ∀ {n : Nat} {F G : Nat → Rat}, (∀ i, i < n → 0 ≤ q i ∧ q i ≤ 1) → (∀ s, s < 2 ^ n → F s ≤ G s) → EX q n F ≤ EX q n G := by
  intro n
  induction n with
  | zero => intro F G _ h; exact h 0 (by decide)
  | succ n ih =>
    intro F G hq h
    have h1 := ih (F := F) (G := G) (fun i hi => hq i (by omega)) (fun s hs => h s (by rw [Nat.pow_succ]; omega))
    have h2 := ih (F := fun s => F (s + 2 ^ n)) (G := fun s => G (s + 2 ^ n)) (fun i hi => hq i (by omega)) (fun s hs => h _ (by rw [Nat.pow_succ]; omega))
    obtain ⟨q0, q1⟩ := hq n (by omega)
    rw [EX, EX]
    have h3 := Rat.mul_le_mul_of_nonneg_left h2 q0
    have h4 := Rat.mul_le_mul_of_nonneg_left h1 ((Rat.le_iff_sub_nonneg _ _).1 q1)
    grind
theorem ind_unit (b : Bool) : 0 ≤ ind b ∧ ind b ≤ 1 := by
  cases b
  · exact ⟨Rat.le_refl, by show (0 : Rat) ≤ 1; decide⟩
  · exact ⟨by show (0 : Rat) ≤ 1; decide, Rat.le_refl⟩
theorem EX_unit {q : Nat → Rat} {n : Nat} {F : Nat → Rat} (hq : ∀ i, i < n → 0 ≤ q i ∧ q i ≤ 1) (h : ∀ s, s < 2 ^ n → 0 ≤ F s ∧ F s ≤ 1) : 0 ≤ EX q n F ∧ EX q n F ≤ 1 := by
  constructor
  · have := EX_mono (F := fun _ => 0) (G := F) hq (fun s hs => (h s hs).1)
    rwa [EX_const] at this
  · have := EX_mono (F := F) (G := fun _ => 1) hq (fun s hs => (h s hs).2)
    rwa [EX_const] at this
/-- The bits of a state below n are as a cube says. -/
def bitIn (c : Nat × Nat) (n s : Nat) : Bool := (List.range n).all fun i => (!c.1.testBit i || s.testBit i) && (!c.2.testBit i || !s.testBit i)
theorem bitIn_succ (c : Nat × Nat) (n s : Nat) : bitIn c (n + 1) s = (bitIn c n s && ((!c.1.testBit n || s.testBit n) && (!c.2.testBit n || !s.testBit n))) := by
  unfold bitIn
  rw [List.range_succ, List.all_append]
  simp
theorem bit_plus {n s : Nat} (h : s < 2 ^ n) : (s + 2 ^ n).testBit n = true ∧ s.testBit n = false ∧ ∀ i, i < n → (s + 2 ^ n).testBit i = s.testBit i := by
  refine ⟨?_, Nat.testBit_lt_two_pow h, fun i hi => ?_⟩
  · rw [Nat.add_comm, Nat.testBit_two_pow_add_eq, Nat.testBit_lt_two_pow h]; rfl
  · rw [Nat.add_comm, Nat.testBit_two_pow_add_gt hi]
theorem bitIn_congr {c : Nat × Nat} {n s t : Nat} (h : ∀ i, i < n → s.testBit i = t.testBit i) : bitIn c n s = bitIn c n t := by
  induction n with
  | zero => rfl
  | succ n ih => rw [bitIn_succ, bitIn_succ, ih (fun i hi => h i (by omega)), h n (by omega)]
/-- The product of the probabilities that a cube names. -/
def wQ (q : Nat → Rat) (c : Nat × Nat) : Nat → Rat
  | 0 => 1
  | n + 1 => (wQ q c n * if c.1.testBit n = true then q n else 1) * if c.2.testBit n = true then 1 - q n else 1
theorem EX_cube {q : Nat → Rat} {c : Nat × Nat} (hc : c.1 &&& c.2 = 0) : ∀ n, EX q n (fun s => ind (bitIn c n s)) = wQ q c n := by
  intro n
  induction n with
  | zero => rfl
  | succ n ih =>
    rw [EX, wQ]
    have hx := and_eq_zero.1 hc n
    have e1 : EX q n (fun s => ind (bitIn c (n + 1) (s + 2 ^ n))) = (if c.2.testBit n = true then 0 else 1) * EX q n (fun s => ind (bitIn c n s)) := by
      rw [← EX_mul]
      refine EX_congr fun s hs => ?_
      obtain ⟨b1, b2, b3⟩ := bit_plus hs
      rw [bitIn_succ, b1, bitIn_congr b3]
      cases bitIn c n s <;> cases c.1.testBit n <;> cases c.2.testBit n <;> simp [ind]
    have e2 : EX q n (fun s => ind (bitIn c (n + 1) s)) = (if c.1.testBit n = true then 0 else 1) * EX q n (fun s => ind (bitIn c n s)) := by
      rw [← EX_mul]
      refine EX_congr fun s hs => ?_
      obtain ⟨b1, b2, b3⟩ := bit_plus hs
      rw [bitIn_succ, b2]
      cases bitIn c n s <;> cases c.1.testBit n <;> cases c.2.testBit n <;> simp [ind]
    rw [e1, e2, ih]
    cases h1 : c.1.testBit n <;> cases h2 : c.2.testBit n
    · simp; grind
    · simp; grind
    · simp; grind
    · rw [hx h1] at h2; cases h2
theorem bitIn_inC {c : Nat × Nat} {n : Nat} (h1 : ∀ i, c.1.testBit i = true → i < n) (h2 : ∀ i, c.2.testBit i = true → i < n) (s : Nat) : bitIn c n s = inC c s := by
  rw [Bool.eq_iff_iff, inC_iff]
  unfold bitIn
  rw [List.all_eq_true]
  constructor
  · intro h
    refine ⟨fun i hi => ?_, fun i hi => ?_⟩
    · have := h i (List.mem_range.2 (h1 i hi))
      rw [hi, Bool.and_eq_true] at this; simpa using this.1
    · have := h i (List.mem_range.2 (h2 i hi))
      rw [hi, Bool.and_eq_true] at this; simpa using this.2
  · rintro ⟨h3, h4⟩ i _
    cases ha : c.1.testBit i <;> cases hb : c.2.testBit i
    · simp
    · simp [h4 i hb]
    · simp [h3 i ha]
    · have := h3 i ha
      rw [h4 i hb] at this
      cases this
/-- The sum of the weights of cubes is the mean number of cubes. -/
def sumW (q : Nat → Rat) (n : Nat) (l : List (Nat × Nat)) : Rat := l.foldl (fun a c => a + wQ q c n) 0
theorem foldl_sum {α : Type} (f : α → Rat) : ∀ (l : List α) (a : Rat), l.foldl (fun a c => a + f c) a = a + l.foldl (fun a c => a + f c) 0 := by
  intro l
  induction l with
  | nil => intro a; exact (Rat.add_zero a).symm
  | cons c l ih =>
    intro a
    rw [List.foldl_cons, List.foldl_cons, ih, ih (0 + f c)]
    grind
theorem sumW_cnt {q : Nat → Rat} {n : Nat} : ∀ {l : List (Nat × Nat)}, (∀ c ∈ l, c.1 &&& c.2 = 0 ∧ (∀ i, c.1.testBit i = true → i < n) ∧ ∀ i, c.2.testBit i = true → i < n) →
    sumW q n l = EX q n (fun s => ((cnt l s : Nat) : Rat)) := by
  intro l
  induction l with
  | nil => intro _; rw [EX_congr (G := fun _ => 0) (fun s _ => by rw [cnt_nil]; rfl), EX_const]; rfl
  | cons c l ih =>
    intro h
    obtain ⟨h1, h2, h3⟩ := h c List.mem_cons_self
    unfold sumW
    rw [List.foldl_cons, foldl_sum]
    have e : EX q n (fun s => ((cnt (c :: l) s : Nat) : Rat)) = EX q n (fun s => ind (bitIn c n s) + ((cnt l s : Nat) : Rat)) := by
      refine EX_congr fun s _ => ?_
      rw [bitIn_inC h2 h3, cnt_cons]
      unfold ind
      split
      · rw [Rat.natCast_add]; rfl
      · rw [Nat.zero_add, Rat.zero_add]
    rw [e, EX_add, EX_cube h1, ← ih (fun d hd => h d (List.mem_cons_of_mem _ hd))]
    unfold sumW
    grind
theorem sumW_unit {q : Nat → Rat} {n : Nat} {l : List (Nat × Nat)} (h : ∀ c ∈ l, c.1 &&& c.2 = 0 ∧ (∀ i, c.1.testBit i = true → i < n) ∧ ∀ i, c.2.testBit i = true → i < n) (hq : ∀ i, i < n → 0 ≤ q i ∧ q i ≤ 1) (h1 : ∀ s, cnt l s ≤ 1) :
    0 ≤ sumW q n l ∧ sumW q n l ≤ 1 := by
  rw [sumW_cnt h]
  refine EX_unit hq fun s _ => ?_
  have := h1 s
  rcases (by omega : cnt l s = 0 ∨ cnt l s = 1) with h | h
  · rw [h]; exact ⟨Rat.le_refl, by show (0 : Rat) ≤ 1; decide⟩
  · rw [h]; exact ⟨by show (0 : Rat) ≤ 1; decide, Rat.le_refl⟩
/-- The probability of a state. -/
def stQ (q : Nat → Rat) (s : Nat) : Nat → Rat
  | 0 => 1
  | n + 1 => stQ q s n * if s.testBit n = true then q n else 1 - q n
def sumTo (F : Nat → Rat) : Nat → Rat
  | 0 => 0
  | n + 1 => sumTo F n + F n
theorem stQ_congr {q : Nat → Rat} {s t : Nat} : ∀ {n : Nat}, (∀ i, i < n → s.testBit i = t.testBit i) → stQ q s n = stQ q t n := by
  intro n
  induction n with
  | zero => intro _; rfl
  | succ n ih => intro h; rw [stQ, stQ, ih (fun i hi => h i (by omega)), h n (by omega)]
theorem sumTo_congr {F G : Nat → Rat} : ∀ {n : Nat}, (∀ s, s < n → F s = G s) → sumTo F n = sumTo G n := by
  intro n
  induction n with
  | zero => intro _; rfl
  | succ n ih => intro h; rw [sumTo, sumTo, ih (fun i hi => h i (by omega)), h n (by omega)]
theorem sumTo_mul {F : Nat → Rat} {c : Rat} : ∀ {n : Nat}, sumTo (fun s => c * F s) n = c * sumTo F n := by
  intro n
  induction n with
  | zero => rw [sumTo, sumTo, Rat.mul_zero]
  | succ n ih => rw [sumTo, sumTo, ih]; grind
theorem sumTo_add {F : Nat → Rat} {a : Nat} : ∀ b, sumTo F (a + b) = sumTo F a + sumTo (fun s => F (s + a)) b := by
  intro b
  induction b with
  | zero => rw [Nat.add_zero, sumTo, Rat.add_zero]
  | succ b ih => rw [← Nat.add_assoc, sumTo, sumTo, ih, Nat.add_comm b a, Rat.add_assoc]
/-- The mean is the sum over the states. -/
theorem EX_sum {q : Nat → Rat} : ∀ {n : Nat} {F : Nat → Rat}, EX q n F = sumTo (fun s => F s * stQ q s n) (2 ^ n) := by
  intro n
  induction n with
  | zero => intro F; simp [EX, sumTo, stQ, Rat.zero_add]
  | succ n ih =>
    intro F
    rw [EX, Nat.pow_succ, Nat.mul_two, sumTo_add, ih, ih, ← sumTo_mul, ← sumTo_mul]
    rw [sumTo_congr (F := fun s => F s * stQ q s (n + 1)) (G := fun s => (1 - q n) * (F s * stQ q s n)) (fun s hs => by
      rw [stQ, (bit_plus hs).2.1, if_neg (by simp)]; grind)]
    rw [sumTo_congr (F := fun s => F (s + 2 ^ n) * stQ q (s + 2 ^ n) (n + 1)) (G := fun s => q n * (F (s + 2 ^ n) * stQ q s n)) (fun s hs => by
      obtain ⟨b1, b2, b3⟩ := bit_plus hs
      rw [stQ, b1, if_pos rfl, stQ_congr b3]; grind)]
    grind
end Go.Proofs.YtbkchheikkbebaaGreatDoor
