import Derived.WalkKit
import Derived.WalkSpells
import Derived.WalkLawsBesides
import Derived.Deep.QuietTactic
import Derived.BigQuiet
import Derived.Lib.Hide
import Derived.Shelf.Abstract
import Derived.Deep.RegionWith
import Derived.Laws.AppendOwnNone
import Derived.Lib.AppendZerosOnto
import Derived.Lib.SliceRun
import Derived.Lib.SlicesCompact
import Derived.Shelf.SlSortCmp.NoneTotal
import Derived.Maps.OwnOps
import Derived.Maps.OwnSet
import Derived.Maps.Views
import Derived.Deep.MidRow
import Derived.Deep.RegionHeld3
import Derived.Deep.AppendLies
import Derived.Deep.RegionLaw
import Derived.IntWalk
import Derived.StillTailTactics
import Derived.RegionTactic
import Derived.BigRegion
import Derived.ChangeAlike
import Derived.Sort.LotD2
import Derived.Sort.LotA
import Derived.Shelf.SlSortCmp.PdqK
import Derived.Deep.DeepCutAuto
import Derived.Lib.ItoaNum
import Derived.Deep.LoopGhost
import Derived.ProofKit
import Derived.OpenShut
import Derived.SizedLaws
import Derived.Lib.SmallJoins
import Derived.Deep.Slices
import Derived.Deep.Fields
import Derived.Deep.Strs
import Derived.Carry
import Derived.Lib.BitFns
import Derived.Deep.CutBlock
import Derived.Test.YteodabnjkikogaaGreatL2
import Derived.Test.YteodabnjkikogaaGreatL6
import Derived.Test.YteodabnjkikogaaGreatL3
import Derived.Test.YteodabnjkikogaaGreatL1
import Derived.Test.YteodabnjkikogaaGreatShelf
/-
  Walks: formula.values.
-/
namespace Go.Proofs.YteodabnjkikogaaGreat
open Go.RowKit

/-- A slice of bools of the call's own. -/
def OwnBools (w : World) (B : Nat) (v : Value) (bs : List Bool) : Prop := w.ownsRow B 4 1 v bs.length (bs.map Value.bool) ∧ bs.length ≤ 1000000
theorem OwnBools.kept {w w' : World} {B : Nat} {v : Value} {bs : List Bool} (h : OwnBools w B v bs) (hk : Kept w w') : OwnBools w' B v bs := ⟨own_kept h.1 hk, h.2⟩
theorem OwnBools.mono {w : World} {B B' : Nat} {v : Value} {bs : List Bool} (h : OwnBools w B v bs) (hb : B' ≤ B) : OwnBools w B' v bs := ⟨own_mono h.1 hb, h.2⟩
theorem OwnBools.shape {w : World} {B : Nat} {v : Value} {bs : List Bool} (h : OwnBools w B v bs) (h0 : bs ≠ []) : ∃ g cap, v = .slice (some ⟨g, 0, none⟩) bs.length cap ∧ B ≤ g ∧ g < w.heap.size ∧ bs.length ≤ cap := by
  obtain ⟨⟨_, h3⟩, _⟩ := h
  rcases h3 with ⟨_, h3⟩ | ⟨g, cap, cur, rfl, h4, h5, h6, _⟩
  · exact absurd (List.eq_nil_of_length_eq_zero h3) h0
  · exact ⟨g, cap, rfl, h4, heap_lt h5, h6⟩
theorem OwnBools.slice {w : World} {B : Nat} {v : Value} {bs : List Bool} (h : OwnBools w B v bs) : ∃ a c, v = .slice a bs.length c ∧ bs.length ≤ c := by
  obtain ⟨⟨_, h3⟩, _⟩ := h
  rcases h3 with ⟨rfl, h3⟩ | ⟨g, cap, cur, rfl, h4, h5, h6, _⟩
  · exact ⟨none, 0, by rw [h3], by omega⟩
  · exact ⟨_, cap, rfl, h6⟩
theorem OwnBools.cell {w : World} {B g n cap : Nat} {bs : List Bool} (h : OwnBools w B (.slice (some ⟨g, 0, none⟩) n cap) bs) (i : Nat) (hi : i < bs.length) : w.cell? ⟨g, i, none⟩ = some (.bool (bs.getD i false)) := by
  obtain ⟨⟨_, h6⟩, _⟩ := h
  rcases h6 with ⟨h6, _⟩ | ⟨g', cap', cur, h6, _, h7, h8, h9, h10, h11⟩
  · cases h6
  · cases h6
    have e1 : (cur.toList.take (bs.length * 1))[i]? = (bs.map Value.bool)[i]? := by rw [h11]
    rw [List.getElem?_take_of_lt (by omega)] at e1
    simp only [World.cell?, h7]
    simpa [hi, List.getD_eq_getElem?_getD] using e1
theorem OwnBools.free {w : World} {B g n cap : Nat} {bs : List Bool} (h : OwnBools w B (.slice (some ⟨g, 0, none⟩) n cap) bs) (i : Nat) : w.frozen? ⟨g, i, none⟩ = false := by
  obtain ⟨⟨_, h3⟩, _⟩ := h
  rcases h3 with ⟨h3, _⟩ | ⟨g', cap', cur, h3, _, h4, _⟩
  · cases h3
  · cases h3
    simp [World.frozen?, h4]
theorem OwnBools.store {w : World} {B g n cap : Nat} {bs : List Bool} (h : OwnBools w B (.slice (some ⟨g, 0, none⟩) n cap) bs) (hn : n = bs.length) (i : Nat) (b : Bool) : OwnBools (w.setCell ⟨g, i, none⟩ (.bool b)) B (.slice (some ⟨g, 0, none⟩) n cap) (bs.set i b) := by
  subst hn
  refine ⟨?_, by simpa using h.2⟩
  have := (h.1.stored i (.bool b)).1
  simpa [List.map_set] using this
theorem bit_val (s k : Nat) (hs : s < 16777216) : (bits .and .i64 ((s : Int) / 2 ^ k) 1 == 1) = s.testBit k := by
  have e : (s : Int) / 2 ^ k = ((s / 2 ^ k : Nat) : Int) := by simp
  have hle : s / 2 ^ k ≤ s := Nat.div_le_self _ _
  rw [e, show (1 : Int) = ((1 : Nat) : Int) from rfl, and_i64 _ _ (by omega) (by omega), Nat.testBit_eq_decide_div_mod_eq, Nat.and_one_is_mod]
  rw [Bool.eq_iff_iff]
  simp
  omega
end Go.Proofs.YteodabnjkikogaaGreat

/-
  Elements of sets: sets.Has, Greatest and the reference's Has, Elements, Greatest.
-/
namespace Go.Proofs.YteodabnjkikogaaGreat
open Go.RowKit

/-- The elements of a set, ascending. -/
def elemsK (s : Nat) : List Nat := (List.range 24).filter fun i => s.testBit i
/-- The greatest element, or -1. -/
def gtK (s : Nat) : Int := (Lib.bitLen s : Int) - 1
theorem elems_lt {s i : Nat} (h : i ∈ elemsK s) : i < 24 ∧ s.testBit i = true := by
  have := List.mem_filter.1 h
  exact ⟨by simpa using this.1, this.2⟩
theorem bitLen_topA {x n : Nat} (h1 : 2 ^ n ≤ x) (h2 : x < 2 ^ (n + 1)) (hn : n < 60) : Lib.bitLen x = n + 1 := by
  have h64 : x < 2 ^ 64 := Nat.lt_of_lt_of_le h2 (Nat.pow_le_pow_right (by omega) (by omega))
  have h3 := Lib.bitLen_le x (n + 1) (by omega) h2
  have h4 := bitLen_lt h64
  have h5 : n < Lib.bitLen x := (Nat.pow_lt_pow_iff_right (by omega : 1 < 2)).1 (Nat.lt_of_le_of_lt h1 h4)
  omega
theorem last_fold (l : List Nat) (x : Nat) : ∀ a : Int, (l ++ [x]).foldl (fun (_ : Int) (i : Nat) => (i : Int)) a = (x : Int) := by
  intro a; rw [List.foldl_append]; rfl
theorem last_elems (s : Nat) : ∀ n, n ≤ 24 → ((List.range n).filter fun i => s.testBit i).foldl (fun (_ : Int) (i : Nat) => (i : Int)) (-1) = (Lib.bitLen (s % 2 ^ n) : Int) - 1 := by
  intro n
  induction n with
  | zero => intro _; simp [Nat.mod_one]; rfl
  | succ n ih =>
    intro hn
    have ih := ih (by omega)
    rw [List.range_succ, List.filter_append, bit_step]
    have hb : s / 2 ^ n % 2 = if s.testBit n then 1 else 0 := by
      rw [Nat.testBit_eq_decide_div_mod_eq]
      have : s / 2 ^ n % 2 < 2 := Nat.mod_lt _ (by omega)
      by_cases h : s / 2 ^ n % 2 = 1
      · simp [h]
      · simp [h]; omega
    cases ht : s.testBit n with
    | false =>
      rw [ht] at hb
      simp only [List.filter_cons, ht, List.filter_nil, Bool.false_eq_true, if_false, List.append_nil] at hb ⊢
      rw [hb, Nat.zero_mul, Nat.add_zero]
      exact ih
    | true =>
      rw [ht] at hb
      simp only [List.filter_cons, ht, List.filter_nil, if_true] at hb ⊢
      rw [last_fold, hb, Nat.one_mul]
      have h1 : s % 2 ^ n < 2 ^ n := Nat.mod_lt _ (Nat.two_pow_pos n)
      rw [bitLen_topA (n := n) (by omega) (by rw [Nat.pow_succ]; omega) (by omega)]
      omega
theorem last_elem {s : Nat} (hs : s < 16777216) : (elemsK s).foldl (fun (_ : Int) (i : Nat) => (i : Int)) (-1) = gtK s := by
  have h := last_elems s 24 (Nat.le_refl _)
  have e : (2 : Nat) ^ 24 = 16777216 := rfl
  rw [e, Nat.mod_eq_of_lt hs] at h
  exact h
theorem bit_gt {s i : Nat} (hs : s < 16777216) (h : s.testBit i = true) : (i : Int) ≤ gtK s := by
  unfold gtK
  have h1 : 2 ^ i ≤ s := Nat.ge_two_pow_of_testBit h
  have h64 : s < 2 ^ 64 := Nat.lt_of_lt_of_le hs (by decide)
  have h4 := bitLen_lt h64
  have h5 : i < Lib.bitLen s := (Nat.pow_lt_pow_iff_right (by omega : 1 < 2)).1 (Nat.lt_of_le_of_lt h1 h4)
  omega
theorem bit_high {s i : Nat} (hs : s < 16777216) (hi : 24 ≤ i) : s.testBit i = false := by
  cases h : s.testBit i with
  | false => rfl
  | true =>
    exfalso
    have h1 : 2 ^ i ≤ s := Nat.ge_two_pow_of_testBit h
    have h2 : 2 ^ 24 ≤ 2 ^ i := Nat.pow_le_pow_right (by omega) hi
    have e : (2 : Nat) ^ 24 = 16777216 := rfl
    omega
set_option maxRecDepth 100000 in
theorem hasS_any (c i : Nat) (hc : c < 16777216) (w : World) : Calls Tryz.prog 60 #[.int .i64 c, .int .i64 i] w fun e w' => e = .returned (.bool (c.testBit i)) ∧ w' = w := by
  by_cases hi : i < 24
  · have e := bit_val c i hc
    have h1 : (0 : Int) ≤ (i : Int) := by omega
    have h2 : (i : Int) < 24 := by omega
    have E := Lib.hid e
    clear e hc
    go_enter Tryz.func60, Tryz.ntmps60
    go_wp2
    go_ret
    exact ⟨by rw [← E.out]; rfl, rfl⟩
  · rw [bit_high hc (by omega)]
    have h1 : (0 : Int) ≤ (i : Int) := by omega
    have h2 : ¬ (i : Int) < 24 := by omega
    have d2 : decide ((i : Int) < 24) = false := decide_eq_false h2
    clear hc hi
    go_enter Tryz.func60, Tryz.ntmps60
    go_wp2
    go_ret
    exact ⟨by first | rfl | simp, rfl⟩
set_option maxRecDepth 100000 in
theorem hasR05_any (c i : Nat) (hc : c < 16777216) (w : World) : Calls Tryz.prog 151 #[.int .i64 c, .int .i64 i] w fun e w' => e = .returned (.bool (c.testBit i)) ∧ w' = w := by
  by_cases hi : i < 24
  · have e := bit_val c i hc
    have h1 : (0 : Int) ≤ (i : Int) := by omega
    have h2 : (i : Int) < 24 := by omega
    have E := Lib.hid e
    clear e hc
    go_enter Tryz.func151, Tryz.ntmps151
    go_wp2
    go_ret
    exact ⟨by rw [← E.out]; rfl, rfl⟩
  · rw [bit_high hc (by omega)]
    have h1 : (0 : Int) ≤ (i : Int) := by omega
    have h2 : ¬ (i : Int) < 24 := by omega
    have d2 : decide ((i : Int) < 24) = false := decide_eq_false h2
    clear hc hi
    go_enter Tryz.func151, Tryz.ntmps151
    go_wp2
    go_ret
    exact ⟨by first | rfl | simp, rfl⟩
set_option maxRecDepth 100000 in
theorem great_any (s : Nat) (hs : s < 16777216) (w : World) : Calls Tryz.prog 41 #[.int .i64 s] w fun e w' => e = .returned (.int .i64 (gtK s)) ∧ w' = w := by
  have HC : Hid (∀ W, Calls Tryz.prog 88 #[.int .i64 s] W fun e w' => e = .returned (.int .i64 s) ∧ W = w') := Lib.hid fun W => cutk_any (by unfold Mk; omega) W
  have ew : IntKind.u64.wrap (s : Int) = (s : Int) := by rw [IntKind.wrap_u64]; omega
  obtain ⟨z, hz⟩ : ∃ z, z = Lib.bitLen s := ⟨_, rfl⟩
  have hz9 : z ≤ 24 := by rw [hz]; exact Lib.bitLen_le s 24 (by omega) (by rw [show (2 : Nat) ^ 24 = 16777216 from rfl]; exact hs)
  have HL : Hid (∀ W, Calls Tryz.prog 87 #[.int .u64 (s : Int)] W fun e w' => e = .returned (.int .i64 z) ∧ w' = W) := Lib.hid fun W => by
    have h := Tryz.bits_Len (s : Int) W (by omega) (by omega)
    rw [Int.toNat_natCast, ← hz] at h
    exact h
  have hg : gtK s = (z : Int) - 1 := by unfold gtK; rw [hz]
  rw [hg]
  clear hz hg hs
  go_enter Tryz.func41, Tryz.ntmps41
  go_wp2_with (first | (go_at_call 88; refine (HC.out _).mono ?_; rintro e w2 ⟨rfl, rfl⟩) | (go_at_call 87; refine (HL.out _).mono ?_; rintro e w2 ⟨rfl, rfl⟩))
  go_ret
  exact ⟨rfl, rfl⟩
theorem elems_step (s k : Nat) : ((List.range (k + 1)).filter fun i => s.testBit i) = ((List.range k).filter fun i => s.testBit i) ++ (if s.testBit k then [k] else []) := by
  rw [List.range_succ, List.filter_append]
  congr 1
  cases h : s.testBit k <;> simp [h]
theorem elems_len (s n : Nat) : ((List.range n).filter fun i => s.testBit i).length ≤ n := by
  have := List.length_filter_le (fun i => s.testBit i) (List.range n)
  simpa using this
set_option maxRecDepth 100000 in
set_option maxHeartbeats 2000000 in
theorem elems_any (s : Nat) (hs : s < 16777216) (w : World) : Calls Tryz.prog 95 #[.int .i64 s] w fun e w' => (∃ v, e = .returned v ∧ IntsAt w' v (ofN (elemsK s))) ∧ Kept w w' := by
  have HH := Lib.hid (fun (i : Nat) W => hasR05_any s i hs W)
  clear hs
  go_enter Tryz.func95, Tryz.ntmps95
  go_wp2_with fail
  go_loopg [3, 5] 24 (fun kx s3 s5 wr => ∃ k : Nat, k ≤ 24 ∧ s5 = .int .i64 k ∧ 24 - k ≤ kx ∧ Hid (OwnInts wr w.heap.size s3 (ofN ((List.range k).filter fun i => s.testBit i))) ∧ Hid (Kept w wr))
  case atStart => exact ⟨0, Nat.zero_le _, rfl, by omega, Lib.hid (OwnInts.nil _ _), Lib.hid (Kept.refl _)⟩
  case round =>
    obtain ⟨k, hk, rfl, hkx, HO, HK⟩ := hrel
    obtain ⟨a3, n3, c3, rfl⟩ := HO.out.ints.shape
    by_cases hlt : k < 24
    · have hkn : (k : Int) < 24 := by omega
      have HST := Lib.hid (elems_step s k)
      have HLN := Lib.hid (elems_len s k)
      cases hb : s.testBit k with
      | false =>
        have HC : Hid (∀ W, Calls Tryz.prog 151 #[.int .i64 s, .int .i64 k] W fun e w' => e = .returned (.bool false) ∧ w' = W) := Lib.hid fun W => by have h := HH.out k W; rw [hb] at h; exact h
        rw [hb] at HST
        clear hb
        go_wp2_with (go_at_call 151; refine (HC.out _).mono ?_; rintro e w2 ⟨rfl, rfl⟩)
        go_roundg (24 - (k + 1))
        case measure => omega
        case rel => exact ⟨k + 1, by omega, by go_num, Nat.le_refl _, Lib.hid (by rw [HST.out]; simpa using HO.out), HK⟩
      | true =>
        have HC : Hid (∀ W, Calls Tryz.prog 151 #[.int .i64 s, .int .i64 k] W fun e w' => e = .returned (.bool true) ∧ w' = W) := Lib.hid fun W => by have h := HH.out k W; rw [hb] at h; exact h
        rw [hb] at HST
        obtain ⟨L, hL⟩ : ∃ L, L = ((List.range k).filter fun i => s.testBit i) := ⟨_, rfl⟩
        rw [← hL] at HO HLN HST
        clear hb hL
        go_wp2_with (first
          | (go_at_call 151; refine (HC.out _).mono ?_; rintro e w2 ⟨rfl, rfl⟩)
          | (at_builtin; refine app_int rfl _ _ rfl w.heap.size _ (ofN L) rfl (HO.out.kept ((Kept.refl _).alloc _)) _ (k : Int) rfl (by simp) (by have := HLN.out; unfold ofN; rw [List.length_map]; omega) (by have := HK.out.size; simp; omega) ?_; intro v' w' h5 _ h6; have H5 := Lib.hid h5; have H6 := Lib.hid h6; clear h5 h6))
        obtain ⟨a5, n5, c5, rfl⟩ := H5.out.ints.shape
        go_roundg (24 - (k + 1))
        case measure => omega
        case rel => exact ⟨k + 1, by omega, by go_num, Nat.le_refl _, Lib.hid (by rw [HST.out]; simpa [ofN] using H5.out), Lib.hid ((HK.out.alloc _).app H6.out)⟩
    · have hke : k = 24 := by omega
      have HE : Hid (OwnInts wr w.heap.size (.slice a3 n3 c3) (ofN (elemsK s))) := Lib.hid (by have h := HO.out; rw [hke] at h; exact h)
      have hkn : ¬ (k : Int) < 24 := by omega
      clear hke
      go_wp2
      go_ret
      exact ⟨⟨_, rfl, HE.out.ints⟩, HK.out⟩
set_option maxRecDepth 100000 in
set_option maxHeartbeats 2000000 in
theorem great05_any (s : Nat) (hs : s < 16777216) (w : World) : Calls Tryz.prog 44 #[.int .i64 s] w fun e w' => e = .returned (.int .i64 (gtK s)) ∧ Kept w w' := by
  have HE := Lib.hid (elems_any s hs w)
  have HG := Lib.hid (last_elem hs)
  obtain ⟨L, hL⟩ : ∃ L, L = elemsK s := ⟨_, rfl⟩
  rw [← hL] at HE HG
  obtain ⟨G, hG⟩ : ∃ G, G = gtK s := ⟨_, rfl⟩
  rw [← hG] at HG ⊢
  clear hs hL hG
  go_enter Tryz.func44, Tryz.ntmps44
  go_wp2_with fail
  refine HE.out.mono ?_
  rintro e w2 ⟨⟨v2, rfl, hv2⟩, hk2⟩
  obtain ⟨a, c, rfl, ⟨hc, _⟩, hl, hx⟩ := hv2
  obtain ⟨n, hn⟩ : ∃ n, n = (ofN L).length := ⟨_, rfl⟩
  have hnL : n = L.length := by rw [hn]; unfold ofN; rw [List.length_map]
  rw [← hn]
  have hn9 : n ≤ 140737488355328 := by omega
  have HX := Lib.hid hx
  have HN := Lib.hid hn
  have HNL := Lib.hid hnL
  have HK2 := Lib.hid hk2
  clear hx hn hl hc hk2 hnL
  go_wp2_with fail
  go_loopg [3, 9] n (fun kx s3 s9 wr => ∃ k : Nat, k ≤ n ∧ s9 = .int .i64 k ∧ n - k ≤ kx ∧ s3 = .int .i64 ((L.take k).foldl (fun (_ : Int) (i : Nat) => (i : Int)) (-1)) ∧ w2 = wr)
  case atStart => exact ⟨0, Nat.zero_le _, rfl, by omega, rfl, rfl⟩
  case round =>
    obtain ⟨k, hk, rfl, hkx, rfl, rfl⟩ := hrel
    by_cases hlt : k < n
    · obtain ⟨b, o, rfl, hcell⟩ := HX.out k (by rw [← HN.out]; exact hlt)
      have hkL : k < L.length := by have := HNL.out; omega
      obtain ⟨y, hy⟩ : ∃ y, y = L[k] := ⟨_, rfl⟩
      have e1 : (ofN L)[k]'(by rw [← HN.out]; exact hlt) = (y : Int) := by rw [hy]; simp [ofN]
      rw [e1] at hcell
      have HST : Hid (((y : Nat) : Int) = (L.take (k + 1)).foldl (fun (_ : Int) (i : Nat) => (i : Int)) (-1)) := Lib.hid (by rw [List.take_succ_eq_append_getElem hkL, last_fold, hy])
      have hkn : (k : Int) < (n : Int) := by omega
      generalize (L.take k).foldl (fun (_ : Int) (i : Nat) => (i : Int)) (-1) = z at *
      clear e1 hy
      go_wp2_with fail
      go_roundg (n - (k + 1))
      case measure => omega
      case rel => exact ⟨k + 1, by omega, by go_num, Nat.le_refl _, by rw [HST.out], rfl⟩
    · have HE2 : Hid ((L.take k).foldl (fun (_ : Int) (i : Nat) => (i : Int)) (-1) = G) := Lib.hid (by rw [List.take_of_length_le (by have := HNL.out; omega)]; exact HG.out)
      have hkn : ¬ (k : Int) < (n : Int) := by omega
      rw [HE2.out]
      go_wp2
      go_ret
      exact ⟨rfl, HK2.out⟩
end Go.Proofs.YteodabnjkikogaaGreat

/-
  A fraction in a variable's cells; truncate.product, faultlineref35.Product.
-/
namespace Go.Proofs.YteodabnjkikogaaGreat
open Go.RowKit

theorem FixAt.store {w : World} {g : Nat} {xs : List Value} (h : FixAt w g xs) (i : Nat) (u : Value) : FixAt (w.setCell ⟨g, i, none⟩ u) g (xs.set i u) := by
  obtain ⟨cur, e, h1, h2⟩ := h
  refine ⟨cur.setIfInBounds i u, e, by simp [World.setCell, Array.getElem?_modify, h1], ?_⟩
  rw [Array.toList_setIfInBounds, h2]
/-- A variable that holds a fraction. -/
def RatCell (w : World) (g : Nat) (r : Rw) : Prop := ∃ a1 c1 a2 c2, RowAt w g 28 [.bool r.neg, .slice a1 r.num.length c1, .slice a2 r.den.length c2] ∧ FixAt w g [.bool r.neg, .slice a1 r.num.length c1, .slice a2 r.den.length c2] ∧ WdsAt w (.slice a1 r.num.length c1) r.num ∧ WdsAt w (.slice a2 r.den.length c2) r.den
theorem RatCell.kept {w w' : World} {g : Nat} {r : Rw} (h : RatCell w g r) (hk : Kept w w') : RatCell w' g r := by
  obtain ⟨a1, c1, a2, c2, h1, h2, h3, h4⟩ := h
  exact ⟨a1, c1, a2, c2, h1.kept hk, h2.kept hk, h3.kept hk, h4.kept hk⟩
theorem RatCell.made {w : World} {r : Rw} {a1 a2 : Option Addr} {c1 c2 : Nat} (h1 : WdsAt w (.slice a1 r.num.length c1) r.num) (h2 : WdsAt w (.slice a2 r.den.length c2) r.den) :
    RatCell (w.alloc (.cells #[.bool r.neg, .slice a1 r.num.length c1, .slice a2 r.den.length c2] 28)) w.heap.size r :=
  ⟨a1, c1, a2, c2, RowAt.made w #[.bool r.neg, .slice a1 r.num.length c1, .slice a2 r.den.length c2] 28, FixAt.made w #[.bool r.neg, .slice a1 r.num.length c1, .slice a2 r.den.length c2] 28, h1.kept ((Kept.refl _).alloc _), h2.kept ((Kept.refl _).alloc _)⟩
theorem RatCell.store {w : World} {g : Nat} {r r' : Rw} {a1 a2 : Option Addr} {c1 c2 : Nat} (h : RatCell w g r) (h1 : WdsAt w (.slice a1 r'.num.length c1) r'.num) (h2 : WdsAt w (.slice a2 r'.den.length c2) r'.den) :
    RatCell (((w.setCell ⟨g, 0, none⟩ (.bool r'.neg)).setCell ⟨g, 1, none⟩ (.slice a1 r'.num.length c1)).setCell ⟨g, 2, none⟩ (.slice a2 r'.den.length c2)) g r' := by
  obtain ⟨a3, c3, a4, c4, h3, h4, _, _⟩ := h
  have hr := ((h3.store 0 (.bool r'.neg)).store 1 (.slice a1 r'.num.length c1)).store 2 (.slice a2 r'.den.length c2)
  have hf := ((h4.store 0 (.bool r'.neg)).store 1 (.slice a1 r'.num.length c1)).store 2 (.slice a2 r'.den.length c2)
  simp only [List.set_cons_zero, List.set_cons_succ] at hr hf
  have hO := (((OnlyAt.refl g w).store 0 (.bool r'.neg)).store 1 (.slice a1 r'.num.length c1)).store 2 (.slice a2 r'.den.length c2)
  exact ⟨a1, c1, a2, c2, hr, hf, h1.apart h4 (by simp) hO, h2.apart h4 (by simp) hO⟩
theorem RatCell.at {w : World} {g : Nat} {r : Rw} (h : RatCell w g r) : ∃ a1 c1 a2 c2, (w.cell? ⟨g, 0, none⟩ = some (.bool r.neg) ∧ w.cell? ⟨g, 1, none⟩ = some (.slice a1 r.num.length c1) ∧ w.cell? ⟨g, 2, none⟩ = some (.slice a2 r.den.length c2)) ∧ (w.frozen? ⟨g, 0, none⟩ = false ∧ w.frozen? ⟨g, 1, none⟩ = false ∧ w.frozen? ⟨g, 2, none⟩ = false) ∧ g < w.heap.size ∧ RatAt w (.agg #[.bool r.neg, .slice a1 r.num.length c1, .slice a2 r.den.length c2]) r := by
  obtain ⟨a1, c1, a2, c2, h1, h2, h3, h4⟩ := h
  refine ⟨a1, c1, a2, c2, ⟨?_, ?_, ?_⟩, ⟨h1.free 0, h1.free 1, h1.free 2⟩, h1.lt, _, _, rfl, h3, h4⟩
  · have := h1.cell (i := 0) (by simp); simpa using this
  · have := h1.cell (i := 1) (by simp); simpa using this
  · have := h1.cell (i := 2) (by simp); simpa using this
/-- The product of the probabilities of the events below n of a set. -/
def prodQ (s : Nat) (ps : List Rw) : Nat → Rat
  | 0 => 1
  | k + 1 => if s.testBit k = true then prodQ s ps k * ratOf (ps.getD k default) else prodQ s ps k
theorem prodQ_succ (s : Nat) (ps : List Rw) (k : Nat) : prodQ s ps (k + 1) = if s.testBit k = true then prodQ s ps k * ratOf (ps.getD k default) else prodQ s ps k := rfl
theorem prodQ_high {s : Nat} {ps : List Rw} {n m : Nat} (h : ∀ i, n ≤ i → s.testBit i = false) (hm : n ≤ m) : prodQ s ps m = prodQ s ps n := by
  induction m with
  | zero => rw [show n = 0 by omega]
  | succ m ih =>
    by_cases he : n = m + 1
    · rw [he]
    · rw [prodQ_succ, if_neg (by rw [h m (by omega)]; simp)]
      exact ih (by omega)
theorem prodQ_elems (s : Nat) (ps : List Rw) : ∀ n, ((List.range n).filter fun i => s.testBit i).foldl (fun (q : Rat) (i : Nat) => q * ratOf (ps.getD i default)) 1 = prodQ s ps n := by
  intro n
  induction n with
  | zero => rfl
  | succ n ih =>
    rw [elems_step, List.foldl_append, ih, prodQ_succ]
    cases h : s.testBit n <;> rfl
/-- How long products become. -/
theorem prod_short {s : Nat} {ps : List Rw} (hs : ∀ r ∈ ps, r.Short 3) (hok : ∀ r ∈ ps, r.Ok) : ∀ n, n ≤ ps.length → (canR (prodQ s ps n)).Short (3 * n + 1) := by
  intro n
  induction n with
  | zero => intro _; exact one_short
  | succ n ih =>
    intro hn
    have ih := ih (by omega)
    have hx : ps.getD n default = ps[n] := by simp [List.getD_eq_getElem?_getD, show n < ps.length by omega]
    rw [prodQ_succ]
    split
    · have h := short_mul (canR_ok (prodQ s ps n)) (hok _ (List.getElem_mem (show n < ps.length by omega))) ih (hs _ (List.getElem_mem (show n < ps.length by omega))) (by omega) (by omega)
      rw [ratOf_can, ← hx] at h
      exact ⟨Nat.le_trans h.1 (by omega), Nat.le_trans h.2 (by omega)⟩
    · exact ⟨Nat.le_trans ih.1 (by omega), Nat.le_trans ih.2 (by omega)⟩
theorem RatsAt.ok {w : World} {v : Value} {ps : List Rw} (h : RatsAt w v ps) : ∀ r ∈ ps, r.Ok := by
  obtain ⟨a, c, _, _, _, h4⟩ := h
  intro r hr
  obtain ⟨i, hi, rfl⟩ := List.getElem_of_mem hr
  obtain ⟨_, _, _, _, _, _, h7, h8⟩ := h4 i hi
  exact ⟨h7.wd, h8.wd⟩
set_option maxRecDepth 100000 in
set_option maxHeartbeats 4000000 in
theorem product_rat (s : Nat) (v : Value) (ps : List Rw) (w : World) (hs : s < 16777216) (hv : RatsAt w v ps) (hp3 : ∀ r ∈ ps, r.Short 3) (hp30 : ps.length ≤ 30) :
    Calls Tryz.prog 35 #[.int .i64 s, v] w fun e w' => (∃ v', e = .returned v' ∧ RatAt w' v' (canR (prodQ s ps ps.length))) ∧ Kept w w' := by
  have HOF : Hid (∀ W, Calls Tryz.prog 59 #[.int .i64 1] W fun e w' => (∃ v', e = .returned v' ∧ RatAt w' v' (canR (prodQ s ps 0))) ∧ Kept W w') := Lib.hid fun W => rof_any 1 W (by omega) (by omega)
  have HH := Lib.hid (fun (i : Nat) W => hasS_any s i hs W)
  have HSH := Lib.hid (fun n hn => prod_short (s := s) hp3 hv.ok n hn)
  have HV := Lib.hid hv
  have HP3 := Lib.hid hp3
  obtain ⟨a, c, rfl⟩ := hv.shape
  obtain ⟨n, hn⟩ : ∃ n, n = ps.length := ⟨_, rfl⟩
  rw [← hn] at HV hp30 ⊢
  have HN := Lib.hid hn
  obtain ⟨R, hR⟩ : ∃ R, R = canR (prodQ s ps n) := ⟨_, rfl⟩
  rw [← hR]
  have HRR := Lib.hid hR
  clear hR
  obtain ⟨w2, hw2⟩ : ∃ w2, w2 = w.alloc (.cells #[.bool false, .slice none 0 0, .slice none 0 0] 28) := ⟨_, rfl⟩
  have HR : Hid (RowAt w2 w.heap.size 28 [.bool false, .slice none 0 0, .slice none 0 0]) := Lib.hid (by rw [hw2]; exact RowAt.made w #[.bool false, .slice none 0 0, .slice none 0 0] 28)
  have HFX : Hid (FixAt w2 w.heap.size [.bool false, .slice none 0 0, .slice none 0 0]) := Lib.hid (by rw [hw2]; exact FixAt.made w #[.bool false, .slice none 0 0, .slice none 0 0] 28)
  have HK0 : Hid (Kept w w2) := Lib.hid (by rw [hw2]; exact (Kept.refl w).alloc _)
  have HW2 := Lib.hid hw2
  clear hn hv hp3 hs hw2
  go_enter Tryz.func35, Tryz.ntmps35
  go_wp2_with fail
  rw [← HW2.out]
  refine (HOF.out _).mono ?_
  rintro e w3 ⟨⟨v3, rfl, hv3⟩, hk3⟩
  have HR3 := Lib.hid (HR.out.kept hk3)
  have HF3 := Lib.hid (HFX.out.kept hk3)
  have HK3 := Lib.hid (HK0.out.trans hk3)
  obtain ⟨u1, u2, rfl, h1, h2⟩ := hv3
  obtain ⟨a1, c1, rfl⟩ := h1.shape
  obtain ⟨a2, c2, rfl⟩ := h2.shape
  have HC := Lib.hid (RatCell.made h1 h2)
  obtain ⟨w4, hw4⟩ : ∃ w4, w4 = w3.alloc (.cells #[.bool (canR (prodQ s ps 0)).neg, .slice a1 (canR (prodQ s ps 0)).num.length c1, .slice a2 (canR (prodQ s ps 0)).den.length c2] 28) := ⟨_, rfl⟩
  have HW4 := Lib.hid hw4
  rw [← hw4] at HC
  have HK4 : Hid (Kept w3 w4) := Lib.hid (by rw [hw4]; exact (Kept.refl _).alloc _)
  generalize (canR (prodQ s ps 0)).neg = b0 at *
  generalize (canR (prodQ s ps 0)).num.length = l1 at *
  generalize (canR (prodQ s ps 0)).den.length = l2 at *
  clear h1 h2 hk3 hw4
  go_wp2_with fail
  rw [← HW4.out]
  go_loopg [10] n (fun kx s10 wr => ∃ k : Nat, k ≤ n ∧ s10 = .int .i64 k ∧ n - k ≤ kx ∧ Hid (RatCell wr w3.heap.size (canR (prodQ s ps k))) ∧ Hid (Kept w3 wr))
  case atStart => exact ⟨0, Nat.zero_le _, rfl, by omega, HC, HK4⟩
  case round =>
    obtain ⟨k, hk, rfl, hkx, HX, HKr⟩ := hrel
    by_cases hlt : k < n
    · have hkn : (k : Int) < (n : Int) := by omega
      cases hb : s.testBit k with
      | false =>
        have HCH : Hid (∀ W, Calls Tryz.prog 60 #[.int .i64 s, .int .i64 k] W fun e w' => e = .returned (.bool false) ∧ w' = W) := Lib.hid fun W => by have h := HH.out k W; rw [hb] at h; exact h
        have HST : Hid (prodQ s ps (k + 1) = prodQ s ps k) := Lib.hid (by rw [prodQ_succ, if_neg (by rw [hb]; simp)])
        clear hb
        go_wp2_with (go_at_call 60; refine (HCH.out _).mono ?_; rintro e w5 ⟨rfl, rfl⟩)
        go_roundg (n - (k + 1))
        case measure => omega
        case rel => exact ⟨k + 1, by omega, by go_num, Nat.le_refl _, Lib.hid (by rw [HST.out]; exact HX.out), HKr⟩
      | true =>
        have HCH : Hid (∀ W, Calls Tryz.prog 60 #[.int .i64 s, .int .i64 k] W fun e w' => e = .returned (.bool true) ∧ w' = W) := Lib.hid fun W => by have h := HH.out k W; rw [hb] at h; exact h
        have HST : Hid (canR (prodQ s ps (k + 1)) = canR (ratOf (canR (prodQ s ps k)) * ratOf (ps.getD k default))) := Lib.hid (by rw [prodQ_succ, if_pos hb, ratOf_can])
        have hkl : k < ps.length := by have := HN.out; omega
        have hsk := HSH.out k (by have := HN.out; omega)
        have hx3 : (ps.getD k default).Short 3 := by
          have e : ps.getD k default = ps[k] := by simp [List.getD_eq_getElem?_getD, hkl]
          rw [e]; exact HP3.out _ (List.getElem_mem _)
        obtain ⟨b, o, u1, u2, rfl, hrg, hw1, hw2⟩ := HV.out.get k hkl
        obtain ⟨a3, c3, rfl⟩ := hw1.shape
        obtain ⟨a4, c4, rfl⟩ := hw2.shape
        have HKw := Lib.hid (HK3.out.trans HKr.out)
        have hrg2 := range_same hrg HKw.out
        have y0 := hrg2 0 _ rfl
        have y1 := hrg2 1 _ rfl
        have y2 := hrg2 2 _ rfl
        rw [Nat.add_zero] at y0
        obtain ⟨a5, c5, a6, c6, ⟨x0, x1, x2⟩, ⟨f0, f1, f2⟩, hgl, hxa⟩ := HX.out.at
        have HML : Hid (∀ W, Kept wr W → Calls Tryz.prog 61 #[.agg #[.bool (canR (prodQ s ps k)).neg, .slice a5 (canR (prodQ s ps k)).num.length c5, .slice a6 (canR (prodQ s ps k)).den.length c6], .agg #[.bool (ps.getD k default).neg, .slice a3 (ps.getD k default).num.length c3, .slice a4 (ps.getD k default).den.length c4]] W fun e w' => (∃ v', e = .returned v' ∧ RatAt w' v' (canR (prodQ s ps (k + 1)))) ∧ Kept W w') := Lib.hid fun W hk => by
          rw [HST.out]
          exact rmul_any _ _ _ _ W (hxa.kept hk) ⟨_, _, rfl, hw1.kept (HKw.out.trans hk), hw2.kept (HKw.out.trans hk)⟩ ⟨Nat.le_trans hsk.1 (by omega), Nat.le_trans hsk.2 (by omega)⟩ ⟨Nat.le_trans hx3.1 (by omega), Nat.le_trans hx3.2 (by omega)⟩
        generalize (ps.getD k default).neg = z0 at *
        generalize (ps.getD k default).num.length = z1 at *
        generalize (ps.getD k default).den.length = z2 at *
        generalize (canR (prodQ s ps k)).neg = z3 at *
        generalize (canR (prodQ s ps k)).num.length = z4 at *
        generalize (canR (prodQ s ps k)).den.length = z5 at *
        clear hb hsk hx3 hrg hrg2 hw1 hw2 hxa hkl
        go_wp2_with (go_at_call 60; refine (HCH.out _).mono ?_; rintro e w5 ⟨rfl, rfl⟩)
        go_region_with (go_at_call 61; (with_reducible refine (HML.out _ (Kept.refl _).drew).mono ?_); rintro e w6 ⟨⟨v6, rfl, hv6⟩, hk6⟩; have hkd := (Kept.refl _).drew.trans hk6; have HX6 := Lib.hid (HX.out.kept hkd); have HK6 := Lib.hid (HKr.out.trans hkd); obtain ⟨u7, u8, rfl, k7, k8⟩ := hv6; obtain ⟨a7, c7, rfl⟩ := k7.shape; obtain ⟨a8, c8, rfl⟩ := k8.shape; have K7 := Lib.hid k7; have K8 := Lib.hid k8; obtain ⟨_, _, _, _, ⟨i0, i1, i2⟩, ⟨j0, j1, j2⟩, hgl6, _⟩ := HX6.out.at; clear k7 k8 hk6 hkd)
        all_goals
          have HS := Lib.hid (HX6.out.store K7.out K8.out)
          generalize (canR (prodQ s ps (k + 1))).num.length = n7 at *
          generalize (canR (prodQ s ps (k + 1))).den.length = n8 at *
          go_wp2_with fail
          go_roundg (n - (k + 1))
          case measure => omega
          case rel => exact ⟨k + 1, by omega, by go_num, Nat.le_refl _, HS, Lib.hid (((HK6.out.store (Nat.le_refl _) _ _).store (Nat.le_refl _) _ _).store (Nat.le_refl _) _ _)⟩
    · have hke : k = n := by omega
      have hkn : ¬ (k : Int) < (n : Int) := by omega
      have HX2 : Hid (RatCell wr w3.heap.size R) := Lib.hid (by rw [HRR.out, ← hke]; exact HX.out)
      have hrr := HR3.out.kept HKr.out
      have HFF := Lib.hid (HF3.out.kept HKr.out)
      obtain ⟨a5, c5, a6, c6, ⟨x0, x1, x2⟩, _, hgl, u7, u8, e9, k7, k8⟩ := HX2.out.at
      simp only [Value.agg.injEq] at e9
      have e9' := congrArg Array.toList e9
      simp at e9'
      obtain ⟨rfl, rfl⟩ := e9'
      obtain ⟨y0, y1, y2, hra⟩ := rat_stored hrr HFF.out k7 k8
      have g0 := hrr.cell (i := 0) (by simp)
      have g1 := hrr.cell (i := 1) (by simp)
      have g2 := hrr.cell (i := 2) (by simp)
      have f0 := hrr.free 0
      have f1 := hrr.free 1
      have f2 := hrr.free 2
      have HRA := Lib.hid hra
      have Y0 := Lib.hid y0
      have Y1 := Lib.hid y1
      have Y2 := Lib.hid y2
      have HKw := Lib.hid (HK3.out.trans HKr.out)
      clear hra y0 y1 y2 k7 k8 hrr e9 hke
      generalize R.num.length = n7 at *
      generalize R.den.length = n8 at *
      go_wp2
      refine bodyPost_ret (v := .agg #[.bool R.neg, .slice a5 n7 c5, .slice a6 n8 c6]) ?_ rfl ⟨⟨_, rfl, HRA.out⟩, ?_⟩
      · simp [results, Tryz.results35, go_sem, Y0.out, Y1.out, Y2.out]
      · exact ((HKw.out.store (Nat.le_refl _) _ _).store (Nat.le_refl _) _ _).store (Nat.le_refl _) _ _
end Go.Proofs.YteodabnjkikogaaGreat

/-
  Walk: faultlineref35.Product.
-/
namespace Go.Proofs.YteodabnjkikogaaGreat
open Go.RowKit

theorem IntsAt.apart {w w' : World} {g : Nat} {v : Value} {xs : List Int} {row : List Value} (h : IntsAt w v xs) (hr : FixAt w g row) (hn : ∀ k x, Value.int k x ∉ row) (ho : OnlyAt g w w') : IntsAt w' v xs := by
  obtain ⟨a, c, h1, h2, h3, h5⟩ := h
  refine ⟨a, c, h1, h2, h3, fun i hi => ?_⟩
  obtain ⟨b, o, h6, h7⟩ := h5 i hi
  refine ⟨b, o, h6, ?_⟩
  have hne : b ≠ g := fun e => by
    subst e
    exact hn _ _ (hr.only h7)
  have hlt : b < w.heap.size := World.block_lt_of_cell? w _ h7
  have := ho.block b hlt hne
  simp only [World.cell?, this] at h7 ⊢
  exact h7
/-- Ints are not touched by a store into a fraction's cells. -/
theorem RatCell.ints {w : World} {g : Nat} {r : Rw} (h : RatCell w g r) {v : Value} {xs : List Int} (hv : IntsAt w v xs) (u0 u1 u2 : Value) : IntsAt (((w.setCell ⟨g, 0, none⟩ u0).setCell ⟨g, 1, none⟩ u1).setCell ⟨g, 2, none⟩ u2) v xs := by
  obtain ⟨a3, c3, a4, c4, h3, h4, _, _⟩ := h
  exact hv.apart h4 (by simp) ((((OnlyAt.refl g w).store 0 u0).store 1 u1).store 2 u2)
/-- The product over the first elements of a list. -/
def prodE (L : List Nat) (ps : List Rw) (j : Nat) : Rat := (L.take j).foldl (fun (q : Rat) (i : Nat) => q * ratOf (ps.getD i default)) 1
theorem prodE_succ {L : List Nat} (ps : List Rw) {j : Nat} (h : j < L.length) : prodE L ps (j + 1) = prodE L ps j * ratOf (ps.getD L[j] default) := by
  unfold prodE
  rw [List.take_succ_eq_append_getElem h, List.foldl_append]
  rfl
theorem prodE_all {s : Nat} {ps : List Rw} (hs : s < 16777216) (hg : gtK s < (ps.length : Int)) : prodE (elemsK s) ps (elemsK s).length = prodQ s ps ps.length := by
  have h0 : ∀ i, Lib.bitLen s ≤ i → s.testBit i = false := fun i hi => by
    cases h : s.testBit i with
    | false => rfl
    | true =>
      exfalso
      have := bit_gt hs h
      unfold gtK at this
      omega
  have h24 : Lib.bitLen s ≤ 24 := Lib.bitLen_le s 24 (by omega) (by rw [show (2 : Nat) ^ 24 = 16777216 from rfl]; exact hs)
  have hl : Lib.bitLen s ≤ ps.length := by unfold gtK at hg; omega
  unfold prodE
  rw [List.take_length]
  unfold elemsK
  rw [prodQ_elems, prodQ_high h0 h24, prodQ_high h0 hl]
theorem prodE_short {L : List Nat} {ps : List Rw} (hL : ∀ i ∈ L, i < ps.length) (hs : ∀ r ∈ ps, r.Short 3) (hok : ∀ r ∈ ps, r.Ok) : ∀ j, j ≤ L.length → (canR (prodE L ps j)).Short (3 * j + 1) := by
  intro n
  induction n with
  | zero => intro _; exact one_short
  | succ n ih =>
    intro hn
    have ih := ih (by omega)
    have hi := hL _ (List.getElem_mem (show n < L.length by omega))
    have hx : ps.getD L[n] default = ps[L[n]] := by simp [List.getD_eq_getElem?_getD, hi]
    rw [prodE_succ ps (show n < L.length by omega)]
    have h := short_mul (canR_ok (prodE L ps n)) (hok _ (List.getElem_mem hi)) ih (hs _ (List.getElem_mem hi)) (by omega) (by omega)
    rw [ratOf_can, ← hx] at h
    exact ⟨Nat.le_trans h.1 (by omega), Nat.le_trans h.2 (by omega)⟩
set_option maxRecDepth 100000 in
set_option maxHeartbeats 4000000 in
theorem refproduct_any (s : Nat) (v : Value) (ps : List Rw) (w : World) (hs : s < 16777216) (hv : RatsAt w v ps) (hp3 : ∀ r ∈ ps, r.Short 3) (hg : gtK s < (ps.length : Int)) :
    Calls Tryz.prog 46 #[v, .int .i64 s] w fun e w' => (∃ v', e = .returned v' ∧ RatAt w' v' (canR (prodQ s ps ps.length))) ∧ Kept w w' := by
  have HOF : Hid (∀ W, Calls Tryz.prog 56 #[.int .i64 1] W fun e w' => (∃ v', e = .returned v' ∧ RatAt w' v' (canR (prodE (elemsK s) ps 0))) ∧ Kept W w') := Lib.hid fun W => refof_any 1 W (by omega)
  have HEL := Lib.hid (fun W => elems_any s hs W)
  have HPA := Lib.hid (prodE_all hs hg)
  have hLl : (elemsK s).length ≤ 24 := elems_len s 24
  have hLt : ∀ i ∈ elemsK s, i < ps.length := fun i hi => by
    have h1 := bit_gt hs (elems_lt hi).2
    omega
  obtain ⟨L, hL⟩ : ∃ L, L = elemsK s := ⟨_, rfl⟩
  rw [← hL] at HOF HEL HPA hLl hLt
  have HSH := Lib.hid (fun j hj => prodE_short hLt hp3 hv.ok j hj)
  have HLT := Lib.hid hLt
  have HV := Lib.hid hv
  have HP3 := Lib.hid hp3
  obtain ⟨a, c, rfl⟩ := hv.shape
  obtain ⟨m, hm⟩ : ∃ m, m = ps.length := ⟨_, rfl⟩
  rw [← hm] at HV ⊢
  have HM := Lib.hid hm
  obtain ⟨R, hR⟩ : ∃ R, R = canR (prodQ s ps m) := ⟨_, rfl⟩
  rw [← hR]
  have HRR : Hid (R = canR (prodE L ps L.length)) := Lib.hid (by rw [hR, hm, HPA.out])
  obtain ⟨n, hn⟩ : ∃ n, n = L.length := ⟨_, rfl⟩
  rw [← hn] at HRR hLl
  have HN := Lib.hid hn
  clear hR hm hn hL hLt
  obtain ⟨w2, hw2⟩ : ∃ w2, w2 = w.alloc (.cells #[.bool false, .slice none 0 0, .slice none 0 0] 28) := ⟨_, rfl⟩
  have HR : Hid (RowAt w2 w.heap.size 28 [.bool false, .slice none 0 0, .slice none 0 0]) := Lib.hid (by rw [hw2]; exact RowAt.made w #[.bool false, .slice none 0 0, .slice none 0 0] 28)
  have HFX : Hid (FixAt w2 w.heap.size [.bool false, .slice none 0 0, .slice none 0 0]) := Lib.hid (by rw [hw2]; exact FixAt.made w #[.bool false, .slice none 0 0, .slice none 0 0] 28)
  have HK0 : Hid (Kept w w2) := Lib.hid (by rw [hw2]; exact (Kept.refl w).alloc _)
  have HW2 := Lib.hid hw2
  clear hv hp3 hs hw2 hg
  go_enter Tryz.func46, Tryz.ntmps46
  go_wp2_with fail
  rw [← HW2.out]
  refine (HOF.out _).mono ?_
  rintro e w3 ⟨⟨v3, rfl, hv3⟩, hk3⟩
  have HR3 := Lib.hid (HR.out.kept hk3)
  have HF3 := Lib.hid (HFX.out.kept hk3)
  have HK3 := Lib.hid (HK0.out.trans hk3)
  obtain ⟨u1, u2, rfl, h1, h2⟩ := hv3
  obtain ⟨a1, c1, rfl⟩ := h1.shape
  obtain ⟨a2, c2, rfl⟩ := h2.shape
  have HC := Lib.hid (RatCell.made h1 h2)
  obtain ⟨w4, hw4⟩ : ∃ w4, w4 = w3.alloc (.cells #[.bool (canR (prodE L ps 0)).neg, .slice a1 (canR (prodE L ps 0)).num.length c1, .slice a2 (canR (prodE L ps 0)).den.length c2] 28) := ⟨_, rfl⟩
  have HW4 := Lib.hid hw4
  rw [← hw4] at HC
  have HK4 : Hid (Kept w3 w4) := Lib.hid (by rw [hw4]; exact (Kept.refl _).alloc _)
  generalize (canR (prodE L ps 0)).neg = b0 at *
  generalize (canR (prodE L ps 0)).num.length = l1 at *
  generalize (canR (prodE L ps 0)).den.length = l2 at *
  clear h1 h2 hk3 hw4
  go_wp2_with fail
  rw [← HW4.out]
  refine (HEL.out _).mono ?_
  rintro e w5 ⟨⟨v5, rfl, hv5⟩, hk5⟩
  have HC5 := Lib.hid (HC.out.kept hk5)
  have HK5 := Lib.hid (HK4.out.trans hk5)
  have hnL : n = (ofN L).length := by rw [HN.out]; unfold ofN; rw [List.length_map]
  obtain ⟨ae, ce, rfl, _⟩ := id hv5
  rw [← hnL] at hv5 ⊢
  have HXE := Lib.hid hv5
  have HNL := Lib.hid hnL
  clear hk5 hv5 hnL
  go_wp2_with fail
  go_loopg [12] n (fun kx s10 wr => ∃ k : Nat, k ≤ n ∧ s10 = .int .i64 k ∧ n - k ≤ kx ∧ Hid (RatCell wr w3.heap.size (canR (prodE L ps k))) ∧ Hid (Kept w3 wr) ∧ Hid (IntsAt wr (.slice ae n ce) (ofN L)))
  case atStart => exact ⟨0, Nat.zero_le _, rfl, by omega, HC5, HK5, HXE⟩
  case round =>
    obtain ⟨k, hk, rfl, hkx, HX, HKr, HXI⟩ := hrel
    by_cases hlt : k < n
    · have hkn : (k : Int) < (n : Int) := by omega
      have hkL : k < L.length := by have := HN.out; omega
      obtain ⟨i, hi⟩ : ∃ i, i = L[k] := ⟨_, rfl⟩
      have hil : i < m := by rw [hi, HM.out]; exact HLT.out _ (List.getElem_mem _)
      obtain ⟨ae', ce', he1, _, _, he2⟩ := HXI.out
      injection he1 with he3 he4 he5
      subst he3
      obtain ⟨be, oe, rfl, hce⟩ := he2 k (by rw [← HNL.out]; exact hlt)
      have e1 : (ofN L)[k]'(by rw [← HNL.out]; exact hlt) = (i : Int) := by rw [hi]; simp [ofN]
      rw [e1] at hce
      have HST : Hid (canR (prodE L ps (k + 1)) = canR (ratOf (canR (prodE L ps k)) * ratOf (ps.getD i default))) := Lib.hid (by rw [prodE_succ ps hkL, ratOf_can, hi])
      have hil' : (i : Int) < (m : Int) := by omega
      have hi0 : (0 : Int) ≤ (i : Int) := by omega
      clear e1 hi hkL he2 he4 he5
      have hkl : i < ps.length := by have := HM.out; omega
      have hsk := HSH.out k (by have := HN.out; omega)
      have hx3 : (ps.getD i default).Short 3 := by
        have e : ps.getD i default = ps[i] := by simp [List.getD_eq_getElem?_getD, hkl]
        rw [e]; exact HP3.out _ (List.getElem_mem _)
      obtain ⟨b, o, u1, u2, rfl, hrg, hw1, hw2⟩ := HV.out.get i hkl
      obtain ⟨a3, c3, rfl⟩ := hw1.shape
      obtain ⟨a4, c4, rfl⟩ := hw2.shape
      have HKw := Lib.hid (HK3.out.trans HKr.out)
      have hrg2 := range_same hrg HKw.out
      have y0 := hrg2 0 _ rfl
      have y1 := hrg2 1 _ rfl
      have y2 := hrg2 2 _ rfl
      rw [Nat.add_zero] at y0
      obtain ⟨a5, c5, a6, c6, ⟨x0, x1, x2⟩, ⟨f0, f1, f2⟩, hgl, hxa⟩ := HX.out.at
      have HML : Hid (∀ W, Kept wr W → Calls Tryz.prog 102 #[.agg #[.bool (canR (prodE L ps k)).neg, .slice a5 (canR (prodE L ps k)).num.length c5, .slice a6 (canR (prodE L ps k)).den.length c6], .agg #[.bool (ps.getD i default).neg, .slice a3 (ps.getD i default).num.length c3, .slice a4 (ps.getD i default).den.length c4]] W fun e w' => (∃ v', e = .returned v' ∧ RatAt w' v' (canR (prodE L ps (k + 1)))) ∧ Kept W w') := Lib.hid fun W hk => by
        rw [HST.out]
        exact refmul02_any _ _ _ _ W (hxa.kept hk) ⟨_, _, rfl, hw1.kept (HKw.out.trans hk), hw2.kept (HKw.out.trans hk)⟩ ⟨Nat.le_trans hsk.1 (by omega), Nat.le_trans hsk.2 (by omega)⟩ ⟨Nat.le_trans hx3.1 (by omega), Nat.le_trans hx3.2 (by omega)⟩
      generalize (ps.getD i default).neg = z0 at *
      generalize (ps.getD i default).num.length = z1 at *
      generalize (ps.getD i default).den.length = z2 at *
      generalize (canR (prodE L ps k)).neg = z3 at *
      generalize (canR (prodE L ps k)).num.length = z4 at *
      generalize (canR (prodE L ps k)).den.length = z5 at *
      clear hsk hx3 hrg hrg2 hw1 hw2 hxa hkl
      go_wp2_with fail
      go_region_with (go_at_call 102; (with_reducible refine (HML.out _ (Kept.refl _).drew).mono ?_); rintro e w6 ⟨⟨v6, rfl, hv6⟩, hk6⟩; have hkd := (Kept.refl _).drew.trans hk6; have HX6 := Lib.hid (HX.out.kept hkd); have HXI6 := Lib.hid (HXI.out.kept hkd); have HK6 := Lib.hid (HKr.out.trans hkd); obtain ⟨u7, u8, rfl, k7, k8⟩ := hv6; obtain ⟨a7, c7, rfl⟩ := k7.shape; obtain ⟨a8, c8, rfl⟩ := k8.shape; have K7 := Lib.hid k7; have K8 := Lib.hid k8; obtain ⟨_, _, _, _, ⟨i0, i1, i2⟩, ⟨j0, j1, j2⟩, hgl6, _⟩ := HX6.out.at; clear k7 k8 hk6 hkd)
      all_goals
        have HS := Lib.hid (HX6.out.store K7.out K8.out)
        have HSI := Lib.hid (HX6.out.ints HXI6.out)
        generalize (canR (prodE L ps (k + 1))).num.length = n7 at *
        generalize (canR (prodE L ps (k + 1))).den.length = n8 at *
        go_wp2_with fail
        go_roundg (n - (k + 1))
        case measure => omega
        case rel => exact ⟨k + 1, by omega, by go_num, Nat.le_refl _, HS, Lib.hid (((HK6.out.store (Nat.le_refl _) _ _).store (Nat.le_refl _) _ _).store (Nat.le_refl _) _ _), Lib.hid (HSI.out _ _ _)⟩
    · have hke : k = n := by omega
      have hkn : ¬ (k : Int) < (n : Int) := by omega
      have HX2 : Hid (RatCell wr w3.heap.size R) := Lib.hid (by rw [HRR.out, ← hke]; exact HX.out)
      have hrr := HR3.out.kept HKr.out
      have HFF := Lib.hid (HF3.out.kept HKr.out)
      obtain ⟨a5, c5, a6, c6, ⟨x0, x1, x2⟩, _, hgl, u7, u8, e9, k7, k8⟩ := HX2.out.at
      simp only [Value.agg.injEq] at e9
      have e9' := congrArg Array.toList e9
      simp at e9'
      obtain ⟨rfl, rfl⟩ := e9'
      obtain ⟨y0, y1, y2, hra⟩ := rat_stored hrr HFF.out k7 k8
      have g0 := hrr.cell (i := 0) (by simp)
      have g1 := hrr.cell (i := 1) (by simp)
      have g2 := hrr.cell (i := 2) (by simp)
      have f0 := hrr.free 0
      have f1 := hrr.free 1
      have f2 := hrr.free 2
      have HRA := Lib.hid hra
      have Y0 := Lib.hid y0
      have Y1 := Lib.hid y1
      have Y2 := Lib.hid y2
      have HKw := Lib.hid (HK3.out.trans HKr.out)
      clear hra y0 y1 y2 k7 k8 hrr e9 hke
      generalize R.num.length = n7 at *
      generalize R.den.length = n8 at *
      go_wp2
      refine bodyPost_ret (v := .agg #[.bool R.neg, .slice a5 n7 c5, .slice a6 n8 c6]) ?_ rfl ⟨⟨_, rfl, HRA.out⟩, ?_⟩
      · simp [results, Tryz.results46, go_sem, Y0.out, Y1.out, Y2.out]
      · exact ((HKw.out.store (Nat.le_refl _) _ _).store (Nat.le_refl _) _ _).store (Nat.le_refl _) _ _
end Go.Proofs.YteodabnjkikogaaGreat

/-
  Walks: faultlineref06.Error, Both, part, Least, limited.
-/
namespace Go.Proofs.YteodabnjkikogaaGreat
open Go.RowKit

theorem SetsAt.cell {w : World} {a : Option Addr} {c m : Nat} {ns : List Nat} (h : SetsAt w (.slice a m c) ns) (i : Nat) (hi : i < ns.length) : ∃ b o, a = some ⟨b, o, none⟩ ∧ w.cell? ⟨b, o + i, none⟩ = some (.int .i64 (ns[i] : Nat)) := by
  obtain ⟨⟨a', c', h1, _, _, h3⟩, _⟩ := h
  cases h1
  obtain ⟨b, o, h4, h5⟩ := h3 i (by simpa using hi)
  exact ⟨b, o, h4, by simpa using h5⟩
theorem and_sub (a b : Nat) : (a &&& b = a) ↔ subN a b = true := by
  rw [subN_iff]
  constructor
  · intro h i hi
    have h1 : (a &&& b).testBit i = true := by rw [h]; exact hi
    simp at h1
    exact h1.2
  · intro h
    apply Nat.eq_of_testBit_eq
    intro i
    simp only [Nat.testBit_and]
    cases ha : a.testBit i with
    | false => simp
    | true => simp [h i ha]
def partN (a b : Nat) : Bool := decide (a ≠ b) && subN a b
theorem part_any {a b : Nat} (ha : Mk a) (hb : Mk b) (w : World) : Calls Tryz.prog 141 #[.int .i64 a, .int .i64 b] w fun e w' => e = .returned (.bool (partN a b)) ∧ w = w' := by
  have hand : bits .and .i64 (a : Int) (b : Int) = ((a &&& b : Nat) : Int) := and_i64 a b (by unfold Mk at ha; omega) (by unfold Mk at hb; omega)
  clear ha hb
  by_cases e : a = b
  · have h1 : partN a b = false := by unfold partN; simp [e]
    rw [h1]
    have ee : ((a : Int) == (b : Int)) = true := by simp; omega
    have ee2 : ((a : Int) != (b : Int)) = false := by simp; omega
    clear e h1
    go_enter Tryz.func141, Tryz.ntmps141
    go_wp2
    go_ret
    exact ⟨rfl, rfl⟩
  · have h1 : partN a b = subN a b := by unfold partN; simp [e]
    rw [h1]
    have ee : ((a : Int) == (b : Int)) = false := by simp; omega
    have ee2 : ((a : Int) != (b : Int)) = true := by simp; omega
    clear e h1
    cases hs : subN a b with
    | true =>
      have h2 : (((a &&& b : Nat) : Int) == (a : Int)) = true := by have := (and_sub a b).2 hs; simp; omega
      clear hs
      generalize (a &&& b : Nat) = z at hand h2
      go_enter Tryz.func141, Tryz.ntmps141
      go_wp2
      go_ret
      exact ⟨rfl, rfl⟩
    | false =>
      have h2 : (((a &&& b : Nat) : Int) == (a : Int)) = false := by
        have : ¬ (a &&& b = a) := fun h => by rw [(and_sub a b).1 h] at hs; cases hs
        simp; omega
      clear hs
      generalize (a &&& b : Nat) = z at hand h2
      go_enter Tryz.func141, Tryz.ntmps141
      go_wp2
      go_ret
      exact ⟨rfl, rfl⟩
theorem keep_part (ns : List Nat) (hs : ns.Pairwise ltK) (k : Nat) (hk : k < ns.length) : ((ns.take k).foldl keepN []).any (fun x => partN x ns[k]) = ((ns.take k).foldl keepN []).any (fun x => subN x ns[k]) := by
  rw [Bool.eq_iff_iff, List.any_eq_true, List.any_eq_true]
  have hne : ∀ x ∈ (ns.take k).foldl keepN [], x ≠ ns[k] := by
    intro x hx e
    rcases mem_minN _ _ _ hx with h | h
    · cases h
    · obtain ⟨i, hi, rfl⟩ := List.getElem_of_mem h
      simp only [List.length_take] at hi
      rw [List.getElem_take] at e
      have := List.pairwise_iff_getElem.1 hs i k (by omega) hk (by omega)
      rw [e] at this
      exact ltK_irr _ this
  constructor
  · rintro ⟨x, hx, h⟩
    refine ⟨x, hx, ?_⟩
    unfold partN at h; simp at h; exact h.2
  · rintro ⟨x, hx, h⟩
    refine ⟨x, hx, ?_⟩
    unfold partN; simp [hne x hx, h]
set_option maxRecDepth 100000 in
set_option maxHeartbeats 4000000 in
theorem least_own (ns : List Nat) (v : Value) (w : World) (hv : SetsAt w v ns) (hl : ns.length ≤ 8796093022208) :
    Calls Tryz.prog 80 #[v] w fun e w' => (∃ v', e = .returned v' ∧ OwnSets w' w.heap.size v' (minK ns)) ∧ Kept w w' := by
  have HS := Lib.hid (rsort_any ns.length ns v w (Nat.le_refl _) hv hl)
  obtain ⟨a, c, rfl, hc, _⟩ := hv.shape
  obtain ⟨ss, hss⟩ : ∃ ss, ss = sortK ns := ⟨_, rfl⟩
  have hps : ss.Pairwise ltK := by rw [hss]; exact pair_sortK ns
  have hsl : ss.length ≤ ns.length := by rw [hss]; exact len_sortK ns
  have hmin : minK ns = ss.foldl keepN [] := by rw [hss]; rfl
  have hmk : ∀ n ∈ ss, Mk n := by rw [hss]; exact fun n hn => hv.2 n ((mem_sortK ns n).1 hn)
  rw [← hss] at HS
  rw [hmin]
  have HM := Lib.hid hmk
  have HP := Lib.hid hps
  clear hss hmin hmk hps hv
  go_enter Tryz.func80, Tryz.ntmps80
  go_wp2_with fail
  refine HS.out.mono ?_
  rintro e w1 ⟨⟨v1, rfl, ho1⟩, hk1⟩
  have HV := Lib.hid ho1.sets
  have HK1 := Lib.hid hk1
  obtain ⟨b1, c1, rfl, hc1, _⟩ := ho1.sets.shape
  obtain ⟨n, hn⟩ : ∃ n, n = ss.length := ⟨_, rfl⟩
  rw [← hn] at HV hc1 hsl ⊢
  have HN := Lib.hid hn
  clear ho1 hk1 hn HS
  go_wp2_with fail
  go_loopw [3, 5, 6, 8, 12, 16, 17, 18] (fun vo _ _ _ i _ _ _ wr => ∃ (k : Nat), k ≤ n ∧ i = .int .i64 k ∧ OwnInts wr w1.heap.size vo (ofN ((ss.take k).foldl keepN [])) ∧ Kept w1 wr) (fun _ _ _ _ i _ _ _ _ => n - (intOf i).toNat)
  case atStart => exact ⟨0, Nat.zero_le _, rfl, OwnInts.nil _ _, Kept.refl _⟩
  case round =>
    obtain ⟨k, hk, rfl, hO, hKr⟩ := hrel
    have HO := Lib.hid hO
    have HKr := Lib.hid hKr
    have hsz := hKr.size
    clear hO hKr
    by_cases hlt : k < n
    · have hkx : k < ss.length := by have := HN.out; omega
      obtain ⟨b, o, rfl, hcell0⟩ := HV.out.cell k hkx
      have hcell := HKr.out.cell hcell0
      have hkp := keep_part ss HP.out k hkx
      have hms := HM.out _ (List.getElem_mem hkx)
      have htk : (ss.take (k + 1)).foldl keepN [] = keepN ((ss.take k).foldl keepN []) ss[k] := by rw [List.take_succ_eq_append_getElem hkx, List.foldl_append]; rfl
      have hma : ∀ x ∈ (ss.take k).foldl keepN [], Mk x := fun x hx => by
        rcases mem_minN _ _ _ hx with h | h
        · cases h
        · exact HM.out x (List.mem_of_mem_take h)
      have hla : ((ss.take k).foldl keepN []).length ≤ k := by
        have := len_minN (ss.take k) []
        simp at this
        omega
      obtain ⟨s, hs⟩ : ∃ s, s = ss[k] := ⟨_, rfl⟩
      rw [← hs] at hcell hkp hms htk
      obtain ⟨acc, hacc⟩ : ∃ x, x = (ss.take k).foldl keepN [] := ⟨_, rfl⟩
      rw [← hacc] at HO hkp htk hma hla
      have HKP := Lib.hid hkp
      have HTK := Lib.hid htk
      have HMA := Lib.hid hma
      have HMS := Lib.hid hms
      have ho3 := OwnInts.ints HO.out
      obtain ⟨ao, no, co, rfl⟩ := ho3.shape
      have hal : no = acc.length := by obtain ⟨_, _, h, _⟩ := ho3; cases h; simp
      subst hal
      have HSO : Hid (SetsAt wr (.slice ao acc.length co) acc) := Lib.hid ⟨ho3, HMA.out⟩
      obtain ⟨m, hm⟩ : ∃ m, m = acc.length := ⟨_, rfl⟩
      rw [← hm] at HSO HO hla ⊢
      have HML := Lib.hid hm
      clear hcell0 hkp htk hma hms hs hacc ho3 hm
      go_wp2_with fail
      obtain ⟨wo, rfl⟩ : ∃ wo : World, wo = wr := ⟨_, rfl⟩
      go_loop [6, 8, 18] (fun sm _ j => ∃ q : Nat, q ≤ m ∧ j = .int .i64 q ∧ sm = .bool (!((acc.take q).any fun x => partN x s))) (fun _ _ j => m - (intOf j).toNat)
      case atStart => exact ⟨0, Nat.zero_le _, rfl, rfl⟩
      case round =>
        obtain ⟨q, hq, rfl, rfl⟩ := hrel
        by_cases hqm : q < m
        · have hqx : q < acc.length := by have := HML.out; omega
          obtain ⟨b2, o2, rfl, hcell2⟩ := HSO.out.cell q hqx
          have hmx := HMA.out _ (List.getElem_mem hqx)
          have hst : (acc.take (q + 1)).any (fun x => partN x s) = ((acc.take q).any (fun x => partN x s) || partN acc[q] s) := by
            rw [List.take_succ_eq_append_getElem hqx, List.any_append]; simp
          obtain ⟨x, hx⟩ : ∃ x, x = acc[q] := ⟨_, rfl⟩
          rw [← hx] at hcell2 hmx hst
          have HP2 : Hid (∀ W, Calls Tryz.prog 141 #[.int .i64 x, .int .i64 s] W fun e w' => e = .returned (.bool (partN x s)) ∧ W = w') := Lib.hid fun W => part_any hmx HMS.out W
          have HST := Lib.hid hst
          clear hx hmx hst
          cases hb1 : (acc.take q).any fun x => partN x s with
          | true =>
            have HB1 := Lib.hid hb1
            clear hb1
            go_wp2_with (go_at_call 141; refine (HP2.out _).mono ?_; rintro e w' ⟨rfl, rfl⟩)
            go_round
            case rel => exact ⟨q + 1, by omega, by go_num, by rw [HST.out, HB1.out]; rfl⟩
            case measure => simp [intOf]; omega
          | false =>
            have HB1 := Lib.hid hb1
            clear hb1
            go_wp2_with (go_at_call 141; refine (HP2.out _).mono ?_; rintro e w' ⟨rfl, rfl⟩)
            go_round
            case rel => exact ⟨q + 1, by omega, by go_num, by rw [HST.out, HB1.out]; rfl⟩
            case measure => simp [intOf]; omega
        · have hqe : acc.take q = acc := List.take_of_length_le (by have := HML.out; omega)
          rw [hqe, HKP.out]
          cases hb1 : acc.any fun x => subN x s with
          | true =>
            have HKN : Hid ((ss.take (k + 1)).foldl keepN [] = acc) := Lib.hid (by rw [HTK.out, keepN, if_pos hb1])
            clear hb1 hqe
            go_wp2
            go_roundw
            case rel => exact ⟨k + 1, by omega, by go_num, by rw [HKN.out]; exact HO.out, HKr.out⟩
            case measure => simp [intOf]; omega
          | false =>
            have HKN : Hid ((ss.take (k + 1)).foldl keepN [] = acc ++ [s]) := Lib.hid (by rw [HTK.out, keepN, if_neg (by rw [hb1]; simp)])
            clear hb1 hqe
            go_wp2_with (at_builtin; refine app_int rfl _ _ rfl w1.heap.size _ (ofN acc) rfl (HO.out.kept ((Kept.refl _).alloc _)) _ (s : Int) rfl (by simp) (by simp; have := HML.out; omega) (by simp; omega) ?_; intro v7 w7 hown7 _ hb7; have O7 := Lib.hid hown7; have HB7 := Lib.hid hb7; clear hown7 hb7)
            go_roundw
            case rel => exact ⟨k + 1, by omega, by go_num, by rw [HKN.out]; simpa [ofN] using O7.out, (HKr.out.alloc _).app HB7.out⟩
            case measure => simp [intOf]; omega
    · have hfull : ss.take k = ss := List.take_of_length_le (by have := HN.out; omega)
      rw [hfull] at HO
      clear hfull
      go_wp2
      go_ret
      exact ⟨⟨_, rfl, ⟨HO.out.mono HK1.out.size, fun x hx => by
        rcases mem_minN _ _ _ hx with h | h
        · cases h
        · exact HM.out x h⟩⟩, HK1.out.trans HKr.out⟩
theorem least_any (ns : List Nat) (v : Value) (w : World) (hv : SetsAt w v ns) (hl : ns.length ≤ 8796093022208) :
    Calls Tryz.prog 80 #[v] w fun e w' => (∃ v', e = .returned v' ∧ OwnSets w' 0 v' (minK ns)) ∧ Kept w w' :=
  (least_own ns v w hv hl).mono fun _ _ ⟨⟨v', h1, h2⟩, h3⟩ => ⟨⟨v', h1, ⟨h2.1.mono (Nat.zero_le _), h2.2⟩⟩, h3⟩
end Go.Proofs.YteodabnjkikogaaGreat

/-
  Walks: family.lists of one list, family.Check, and the reference's Error and Check, of whatever list.
-/
namespace Go.Proofs.YteodabnjkikogaaGreat
open Go.RowKit

def okI (xs : List Int) : Bool := xs.all fun x => decide (0 ≤ x ∧ x ≤ 16777215)
def errI (xs : List Int) : Nat := if 1024 < xs.length then 4 else if okI xs = true then 0 else 3
def natsI (xs : List Int) : List Nat := xs.map Int.toNat
/-- The number of Check's error. -/
def chkI (xs : List Int) : Nat := if errI xs ≠ 0 then errI xs else if natsI xs ≠ sortK (natsI xs) then 13 else if natsI xs ≠ minK (natsI xs) then 2 else 0
theorem okI_iff {xs : List Int} : okI xs = true ↔ ∀ x ∈ xs, 0 ≤ x ∧ x ≤ 16777215 := by
  unfold okI
  rw [List.all_eq_true]
  exact ⟨fun h x hx => of_decide_eq_true (h x hx), fun h x hx => decide_eq_true (h x hx)⟩
theorem nats_of {xs : List Int} (h : okI xs = true) : xs = ofN (natsI xs) ∧ ∀ n ∈ natsI xs, Mk n := by
  have h := okI_iff.1 h
  refine ⟨?_, fun n hn => ?_⟩
  · unfold ofN natsI
    rw [List.map_map]
    have : xs.map ((fun (n : Nat) => (n : Int)) ∘ Int.toNat) = xs.map id := List.map_congr_left fun x hx => by
      have := h x hx
      simp only [Function.comp, id]
      omega
    first | (rw [this, List.map_id]) | (rw [List.map_id] at this; exact this.symm)
  · obtain ⟨x, hx, rfl⟩ := List.mem_map.1 hn
    have := h x hx
    unfold Mk
    omega
theorem err_ok {xs : List Int} (h : errI xs = 0) : xs.length ≤ 1024 ∧ okI xs = true := by
  unfold errI at h
  split at h
  · omega
  · split at h
    · exact ⟨by omega, by assumption⟩
    · omega
theorem err_cases (xs : List Int) : errI xs = 0 ∨ errI xs = 3 ∨ errI xs = 4 := by unfold errI; split <;> first | (exact .inr (.inr rfl)) | (split <;> first | exact .inl rfl | exact .inr (.inl rfl))
theorem ofN_inj {a b : List Nat} : ofN a = ofN b ↔ a = b := by
  unfold ofN
  exact ⟨fun h => by
    have := congrArg (List.map Int.toNat) h
    simpa [List.map_map, Function.comp_def] using this, fun h => by rw [h]⟩
theorem equal_any (xs ys : List Int) (va vb : Value) (w : World) (ha : IntsAt w va xs) (hb : IntsAt w vb ys) : Calls Tryz.prog 84 #[va, vb] w fun e w' => e = .returned (.bool (decide (xs = ys))) ∧ Kept w w' := by
  obtain ⟨aa, ca, rfl, _, hla, hca⟩ := ha
  obtain ⟨ab, cb, rfl, _, hlb, hcb⟩ := hb
  by_cases hl : xs.length = ys.length
  · by_cases h0 : xs = []
    · subst h0
      have h1 : ys = [] := List.eq_nil_of_length_eq_zero hl.symm
      subst h1
      exact (Go.Proofs.Tryz.slices_Equal_int_empty aa ab ca 0 cb w (by omega)).mono fun e w' ⟨h1, h2⟩ => ⟨by rw [h1]; simp, by subst h2; exact Kept.refl _⟩
    · have hp : 0 < xs.length := List.length_pos_iff.2 h0
      obtain ⟨b1, o1, rfl, _⟩ := hca 0 hp
      obtain ⟨b2, o2, rfl, _⟩ := hcb 0 (by omega)
      refine (Go.Proofs.Tryz.slices_Equal_int b1 o1 xs.length ca b2 o2 ys.length cb xs ys w (Nat.le_refl _) (Nat.le_refl _) (by omega) (by omega) ?_ ?_).mono fun e w' ⟨h1, q, h2⟩ => ⟨by rw [h1, List.take_length, List.take_length, show (xs == ys) = decide (xs = ys) by rw [Bool.eq_iff_iff]; simp], by subst h2; exact (Kept.refl _).drewN _⟩
      · intro j hj
        obtain ⟨b, o, h1, h2⟩ := hca j hj
        cases h1
        rw [h2]; simp [hj]
      · intro j hj
        obtain ⟨b, o, h1, h2⟩ := hcb j hj
        cases h1
        rw [h2]; simp [hj]
  · refine (Go.Proofs.Tryz.slices_Equal_int_lens aa ab xs.length ca ys.length cb w hl).mono fun e w' ⟨h1, h2⟩ => ⟨?_, by subst h2; exact Kept.refl _⟩
    rw [h1, decide_eq_false (fun h => hl (by rw [h]))]
set_option maxRecDepth 100000 in
set_option maxHeartbeats 2000000 in
theorem lists_one (g : Nat) (va : Value) (xs : List Int) (w : World) (hc : w.cell? ⟨g, 0, none⟩ = some va) (hv : IntsAt w va xs) :
    Calls Tryz.prog 83 #[.slice (some ⟨g, 0, none⟩) 1 1] w fun e w' => e = .returned (errV (errI xs)) ∧ w = w' := by
  obtain ⟨a, c, rfl, _, hl, hx⟩ := hv
  obtain ⟨m, hm⟩ : ∃ m, m = xs.length := ⟨_, rfl⟩
  rw [← hm] at hc
  have hm9 : m ≤ 140737488355328 := by omega
  have HX := Lib.hid hx
  have HM := Lib.hid hm
  have HC := Lib.hid hc
  clear hx hm hl hc
  go_enter Tryz.func83, Tryz.ntmps83
  go_wp2
  go_loopg [9] 1 (fun kx s9 wr => ∃ k : Nat, k ≤ 1 ∧ s9 = .int .i64 k ∧ 1 - k ≤ kx ∧ Hid (k = 1 → errI xs = 0) ∧ w = wr)
  case atStart => exact ⟨0, by omega, rfl, by omega, Lib.hid (fun h => by omega), rfl⟩
  case round =>
    obtain ⟨k, hk, rfl, hkx, HE, rfl⟩ := hrel
    by_cases hk1 : k = 1
    · subst hk1
      have HE0 := Lib.hid (HE.out rfl)
      go_wp2
      go_ret
      exact ⟨by rw [HE0.out]; rfl, rfl⟩
    · have hk0 : k = 0 := by omega
      subst hk0
      have hcell := HC.out
      by_cases hlen : m ≤ 1024
      · have hl1 : ¬ (1024 : Int) < (m : Int) := by omega
        go_wp2
        go_loopg [19] m (fun kx s19 wq => ∃ q : Nat, q ≤ m ∧ s19 = .int .i64 q ∧ m - q ≤ kx ∧ Hid (∀ x ∈ xs.take q, 0 ≤ x ∧ x ≤ 16777215) ∧ w = wq)
        case atStart => exact ⟨0, Nat.zero_le _, rfl, by omega, Lib.hid (by simp), rfl⟩
        case round =>
          obtain ⟨q, hq, rfl, hqx, HF, rfl⟩ := hrel
          by_cases hqm : q < m
          · have hqx : q < xs.length := by have := HM.out; omega
            obtain ⟨b2, o2, rfl, hcell2⟩ := HX.out q hqx
            obtain ⟨s, hs⟩ : ∃ s, s = xs[q] := ⟨_, rfl⟩
            rw [← hs] at hcell2
            have HS := Lib.hid hs
            have hqi : (q : Int) < (m : Int) := by omega
            cases hd : decide (0 ≤ s ∧ s ≤ 16777215) with
            | true =>
              have HVA : Hid (∀ W, Calls Tryz.prog 143 #[.int .i64 s] W fun e w' => e = .returned (.bool true) ∧ W = w') := Lib.hid fun W => by have := valid_any s W; rwa [hd] at this
              have HD := Lib.hid (of_decide_eq_true hd)
              clear hd hs
              go_wp2_with (go_at_call 143; refine (HVA.out _).mono ?_; rintro e w' ⟨rfl, rfl⟩)
              go_roundg (m - (q + 1))
              case measure => omega
              case rel => exact ⟨q + 1, by omega, by go_num, Nat.le_refl _, Lib.hid (fun y hy => by
                rw [List.take_succ_eq_append_getElem hqx] at hy
                rcases List.mem_append.1 hy with hy | hy
                · exact HF.out y hy
                · simp at hy; rw [hy, ← HS.out]; exact HD.out), rfl⟩
            | false =>
              have HVA : Hid (∀ W, Calls Tryz.prog 143 #[.int .i64 s] W fun e w' => e = .returned (.bool false) ∧ W = w') := Lib.hid fun W => by have := valid_any s W; rwa [hd] at this
              have HD := Lib.hid (of_decide_eq_false hd)
              have HER : Hid (errI xs = 3) := Lib.hid (by
                unfold errI
                rw [if_neg (by have := HM.out; omega), if_neg]
                intro h
                exact HD.out (okI_iff.1 h s (by rw [HS.out]; exact List.getElem_mem _)))
              clear hd hs
              go_wp2_with (go_at_call 143; refine (HVA.out _).mono ?_; rintro e w' ⟨rfl, rfl⟩)
              go_ret
              exact ⟨by rw [HER.out]; rfl, rfl⟩
          · have HE0 : Hid (errI xs = 0) := Lib.hid (by
              have hf := HF.out
              rw [List.take_of_length_le (by have := HM.out; omega)] at hf
              unfold errI
              rw [if_neg (by have := HM.out; omega), if_pos (okI_iff.2 hf)])
            have hqi : ¬ (q : Int) < (m : Int) := by omega
            go_wp2
            go_roundg 0
            case measure => omega
            case rel => exact ⟨1, by omega, by go_num, by omega, Lib.hid (fun _ => HE0.out), rfl⟩
      · have hl1 : (1024 : Int) < (m : Int) := by omega
        have HER : Hid (errI xs = 4) := Lib.hid (by unfold errI; rw [if_pos (by have := HM.out; omega)])
        go_wp2
        go_ret
        exact ⟨by rw [HER.out]; rfl, rfl⟩
theorem fold_subA (l : List Nat) : ∀ out, (l.foldl keepN out).Sublist (out ++ l) := by
  induction l with
  | nil => intro out; simp
  | cons s l ih =>
    intro out
    have h := ih (keepN out s)
    show (l.foldl keepN (keepN out s)).Sublist _
    unfold keepN at h ⊢
    split at h
    · rename_i hk
      rw [if_pos hk]
      exact h.trans ((List.Sublist.refl out).append (List.sublist_cons_self s l))
    · rename_i hk
      rw [if_neg hk]
      simpa using h
theorem minK_len_eq {ns : List Nat} (h : ns = sortK ns) : (minK ns).length = ns.length ↔ ns = minK ns := by
  constructor
  · intro hl
    have hs : (minK ns).Sublist ns := by
      unfold minK
      rw [← h]
      exact fold_subA ns []
    exact (hs.eq_of_length hl).symm
  · intro he; rw [← he]
set_option maxRecDepth 100000 in
set_option maxHeartbeats 2000000 in
theorem fcheck_any (va : Value) (xs : List Int) (w : World) (hv : IntsAt w va xs) :
    Calls Tryz.prog 40 #[va] w fun e w' => e = .returned (errV (chkI xs)) ∧ Kept w w' := by
  have HL : Hid (Calls Tryz.prog 83 #[.slice (some ⟨w.heap.size, 0, none⟩) 1 1] (w.alloc (.cells #[va] 32)) fun e w' => e = .returned (errV (errI xs)) ∧ Kept w w') := Lib.hid
    ((lists_one w.heap.size va xs _ (by simp) (hv.kept ((Kept.refl _).alloc _))).mono fun _ _ ⟨h1, h2⟩ => ⟨h1, by rw [← h2]; exact (Kept.refl _).alloc _⟩)
  have HV := Lib.hid hv
  obtain ⟨a, c, hva, _⟩ := id hv
  subst hva
  obtain ⟨m, hm⟩ : ∃ m, m = xs.length := ⟨_, rfl⟩
  rw [← hm] at HL HV ⊢
  have HM := Lib.hid hm
  clear hm hv
  rcases Nat.eq_zero_or_pos (errI xs) with he | he
  · obtain ⟨hl, hok⟩ := err_ok he
    obtain ⟨hxs, hmk⟩ := nats_of hok
    have hchk : chkI xs = if natsI xs ≠ sortK (natsI xs) then 13 else if natsI xs ≠ minK (natsI xs) then 2 else 0 := by unfold chkI; rw [if_neg (by omega)]
    rw [hchk]
    obtain ⟨ns, hns⟩ : ∃ ns, ns = natsI xs := ⟨_, rfl⟩
    rw [← hns] at hxs hmk ⊢
    have hlm : m = ns.length := by rw [HM.out, hns]; unfold natsI; rw [List.length_map]
    have HVS : Hid (SetsAt w (.slice a m c) ns) := Lib.hid ⟨by rw [← hxs]; exact HV.out, hmk⟩
    have hnl : ns.length ≤ 1024 := by rw [← hlm, HM.out]; exact hl
    have HE := Lib.hid he
    rw [he, errV_zero] at HL
    have HS : Hid (∀ W, Kept w W → Calls Tryz.prog 85 #[.slice a m c] W fun e w' => (∃ v', e = .returned v' ∧ IntsAt w' v' (ofN (sortK ns))) ∧ Kept W w') := Lib.hid fun W hk => by
      refine (sorted_any _ ns W hmk (HVS.out.kept hk).1 (by omega)).mono ?_
      rintro e w' ⟨v', h1, h2, h3⟩
      exact ⟨⟨v', h1, h2.ints⟩, h3⟩
    have HMN : Hid (∀ W, Kept w W → Calls Tryz.prog 86 #[.slice a m c] W fun e w' => (∃ v', e = .returned v' ∧ SetsAt w' v' (minK ns)) ∧ Kept W w') := Lib.hid fun W hk => by
      refine (minimalS_any _ ns W (HVS.out.kept hk) (by omega)).mono ?_
      rintro e w' ⟨v', h1, h2, h3⟩
      exact ⟨⟨v', h1, h2.sets⟩, h3⟩
    have HLM := Lib.hid hlm
    clear hxs hmk hns hl hok he hchk hlm hnl
    by_cases h1 : ns = sortK ns
    · have HEQ : Hid (∀ W vb, Kept w W → IntsAt W vb (ofN (sortK ns)) → Calls Tryz.prog 84 #[.slice a m c, vb] W fun e w' => e = .returned (.bool true) ∧ Kept W w') := Lib.hid fun W vb hk hb => by
        have h := equal_any (ofN ns) (ofN (sortK ns)) (.slice a m c) vb W (HVS.out.kept hk).1 hb
        rwa [decide_eq_true (by rw [← h1])] at h
      rw [if_neg (fun h => h h1)]
      have hiff := minK_len_eq h1
      obtain ⟨z, hz⟩ : ∃ z, z = (minK ns).length := ⟨_, rfl⟩
      have HZ := Lib.hid hz
      rw [← hz, ← HLM.out] at hiff
      by_cases h2 : ns = minK ns
      · rw [if_neg (fun h => h h2)]
        have hzm : z = m := hiff.2 h2
        have hb : ((z : Int) != (m : Int)) = false := by rw [hzm]; simp
        clear hiff h1 h2 hz
        go_enter Tryz.func40, Tryz.ntmps40
        go_wp2_with fail
        refine HL.out.mono ?_
        rintro e w1 ⟨rfl, hk1⟩
        have K1 := Lib.hid hk1
        clear hk1
        go_wp2_with (first
          | (go_at_call 85; refine (HS.out _ K1.out).mono ?_; rintro e w2 ⟨⟨v2, rfl, hv2⟩, hk2⟩; have HV2 := Lib.hid hv2; have K2 := Lib.hid (K1.out.trans hk2); clear hv2 hk2)
          | (go_at_call 84; refine (HEQ.out _ _ K2.out HV2.out).mono ?_; rintro e w3 ⟨rfl, hk3⟩; have K3 := Lib.hid (K2.out.trans hk3); clear hk3)
          | (go_at_call 86; refine (HMN.out _ K3.out).mono ?_; rintro e w4 ⟨⟨v4, rfl, hv4⟩, hk4⟩; obtain ⟨a4, c4, rfl, _, _⟩ := hv4.shape; rw [← HZ.out]; have K4 := Lib.hid (K3.out.trans hk4); clear hk4 hv4))
        go_ret
        exact ⟨rfl, K4.out⟩
      · rw [if_pos h2]
        have hzm : z ≠ m := fun h => h2 (hiff.1 h)
        have hb : ((z : Int) != (m : Int)) = true := by simp [bne]; omega
        have hzi : ¬ (z : Int) = (m : Int) := by omega
        clear hiff h1 h2 hz
        go_enter Tryz.func40, Tryz.ntmps40
        go_wp2_with fail
        refine HL.out.mono ?_
        rintro e w1 ⟨rfl, hk1⟩
        have K1 := Lib.hid hk1
        clear hk1
        go_wp2_with (first
          | (go_at_call 85; refine (HS.out _ K1.out).mono ?_; rintro e w2 ⟨⟨v2, rfl, hv2⟩, hk2⟩; have HV2 := Lib.hid hv2; have K2 := Lib.hid (K1.out.trans hk2); clear hv2 hk2)
          | (go_at_call 84; refine (HEQ.out _ _ K2.out HV2.out).mono ?_; rintro e w3 ⟨rfl, hk3⟩; have K3 := Lib.hid (K2.out.trans hk3); clear hk3)
          | (go_at_call 86; refine (HMN.out _ K3.out).mono ?_; rintro e w4 ⟨⟨v4, rfl, hv4⟩, hk4⟩; obtain ⟨a4, c4, rfl, _, _⟩ := hv4.shape; rw [← HZ.out]; have K4 := Lib.hid (K3.out.trans hk4); clear hk4 hv4))
        go_ret
        exact ⟨rfl, K4.out⟩
    · have HEQ : Hid (∀ W vb, Kept w W → IntsAt W vb (ofN (sortK ns)) → Calls Tryz.prog 84 #[.slice a m c, vb] W fun e w' => e = .returned (.bool false) ∧ Kept W w') := Lib.hid fun W vb hk hb => by
        have h := equal_any (ofN ns) (ofN (sortK ns)) (.slice a m c) vb W (HVS.out.kept hk).1 hb
        rwa [decide_eq_false (fun h => h1 (ofN_inj.1 h))] at h
      rw [if_pos h1]
      clear h1
      go_enter Tryz.func40, Tryz.ntmps40
      go_wp2_with fail
      refine HL.out.mono ?_
      rintro e w1 ⟨rfl, hk1⟩
      have K1 := Lib.hid hk1
      clear hk1
      go_wp2_with (first
        | (go_at_call 85; refine (HS.out _ K1.out).mono ?_; rintro e w2 ⟨⟨v2, rfl, hv2⟩, hk2⟩; have HV2 := Lib.hid hv2; have K2 := Lib.hid (K1.out.trans hk2); clear hv2 hk2)
        | (go_at_call 84; refine (HEQ.out _ _ K2.out HV2.out).mono ?_; rintro e w3 ⟨rfl, hk3⟩; have K3 := Lib.hid (K2.out.trans hk3); clear hk3))
      go_ret
      exact ⟨rfl, K3.out⟩
  · have hchk : chkI xs = errI xs := by unfold chkI; rw [if_pos (by omega)]
    rw [hchk]
    obtain ⟨q, hq⟩ : ∃ q, q = errI xs := ⟨_, rfl⟩
    rw [← hq] at HL he ⊢
    have hqe : errV q = .iface 56 (.int .i64 q) := errV_pos (by omega)
    rw [hqe] at HL ⊢
    clear hchk hq hqe
    go_enter Tryz.func40, Tryz.ntmps40
    go_wp2_with fail
    refine HL.out.mono ?_
    rintro e w1 ⟨rfl, hk1⟩
    go_wp2
    go_ret
    exact ⟨rfl, hk1⟩
end Go.Proofs.YteodabnjkikogaaGreat

/-
  Walks: the reference's Error and Check of a family, of whatever list.
-/
namespace Go.Proofs.YteodabnjkikogaaGreat
open Go.RowKit

set_option maxRecDepth 100000 in
set_option maxHeartbeats 2000000 in
theorem rerr_any (va : Value) (xs : List Int) (w : World) (hv : IntsAt w va xs) : Calls Tryz.prog 94 #[va] w fun e w' => e = .returned (.int .i64 (errI xs)) ∧ w = w' := by
  obtain ⟨a, c, rfl, _, hl, hx⟩ := hv
  obtain ⟨m, hm⟩ : ∃ m, m = xs.length := ⟨_, rfl⟩
  rw [← hm]
  have hm9 : m ≤ 140737488355328 := by omega
  have HX := Lib.hid hx
  have HM := Lib.hid hm
  clear hx hm hl
  by_cases hlen : m ≤ 1024
  · have hl1 : ¬ (1024 : Int) < (m : Int) := by omega
    go_enter Tryz.func94, Tryz.ntmps94
    go_wp2
    go_loopg [10] m (fun kx s19 wq => ∃ q : Nat, q ≤ m ∧ s19 = .int .i64 q ∧ m - q ≤ kx ∧ Hid (∀ x ∈ xs.take q, 0 ≤ x ∧ x ≤ 16777215) ∧ w = wq)
    case atStart => exact ⟨0, Nat.zero_le _, rfl, by omega, Lib.hid (by simp), rfl⟩
    case round =>
      obtain ⟨q, hq, rfl, hqx, HF, rfl⟩ := hrel
      by_cases hqm : q < m
      · have hqx : q < xs.length := by have := HM.out; omega
        obtain ⟨b2, o2, rfl, hcell2⟩ := HX.out q hqx
        obtain ⟨s, hs⟩ : ∃ s, s = xs[q] := ⟨_, rfl⟩
        rw [← hs] at hcell2
        have HS := Lib.hid hs
        have hqi : (q : Int) < (m : Int) := by omega
        cases hd : decide (0 ≤ s ∧ s ≤ 16777215) with
        | true =>
          have HVA : Hid (∀ W, Calls Tryz.prog 150 #[.int .i64 s] W fun e w' => e = .returned (.bool true) ∧ W = w') := Lib.hid fun W => by have := rvalid_any s W; rwa [hd] at this
          have HD := Lib.hid (of_decide_eq_true hd)
          clear hd hs
          go_wp2_with (go_at_call 150; refine (HVA.out _).mono ?_; rintro e w' ⟨rfl, rfl⟩)
          go_roundg (m - (q + 1))
          case measure => omega
          case rel => exact ⟨q + 1, by omega, by go_num, Nat.le_refl _, Lib.hid (fun y hy => by
            rw [List.take_succ_eq_append_getElem hqx] at hy
            rcases List.mem_append.1 hy with hy | hy
            · exact HF.out y hy
            · simp at hy; rw [hy, ← HS.out]; exact HD.out), rfl⟩
        | false =>
          have HVA : Hid (∀ W, Calls Tryz.prog 150 #[.int .i64 s] W fun e w' => e = .returned (.bool false) ∧ W = w') := Lib.hid fun W => by have := rvalid_any s W; rwa [hd] at this
          have HD := Lib.hid (of_decide_eq_false hd)
          have HER : Hid (errI xs = 3) := Lib.hid (by
            unfold errI
            rw [if_neg (by have := HM.out; omega), if_neg]
            intro h
            exact HD.out (okI_iff.1 h s (by rw [HS.out]; exact List.getElem_mem _)))
          clear hd hs
          go_wp2_with (go_at_call 150; refine (HVA.out _).mono ?_; rintro e w' ⟨rfl, rfl⟩)
          go_ret
          exact ⟨by rw [HER.out]; rfl, rfl⟩
      · have HE0 : Hid (errI xs = 0) := Lib.hid (by
          have hf := HF.out
          rw [List.take_of_length_le (by have := HM.out; omega)] at hf
          unfold errI
          rw [if_neg (by have := HM.out; omega), if_pos (okI_iff.2 hf)])
        have hqi : ¬ (q : Int) < (m : Int) := by omega
        go_wp2
        go_ret
        exact ⟨by rw [HE0.out]; rfl, rfl⟩
  · have hl1 : (1024 : Int) < (m : Int) := by omega
    have HER : Hid (errI xs = 4) := Lib.hid (by unfold errI; rw [if_pos (by have := HM.out; omega)])
    go_enter Tryz.func94, Tryz.ntmps94
    go_wp2
    go_ret
    exact ⟨by rw [HER.out]; rfl, rfl⟩
set_option maxRecDepth 100000 in
set_option maxHeartbeats 2000000 in
theorem rcheck06_any (va : Value) (xs : List Int) (w : World) (hv : IntsAt w va xs) :
    Calls Tryz.prog 43 #[va] w fun e w' => e = .returned (.int .i64 (chkI xs)) ∧ Kept w w' := by
  have HL : Hid (Calls Tryz.prog 94 #[va] w fun e w' => e = .returned (.int .i64 (errI xs)) ∧ w = w') := Lib.hid (rerr_any va xs w hv)
  have HV := Lib.hid hv
  obtain ⟨a, c, hva, _⟩ := id hv
  subst hva
  obtain ⟨m, hm⟩ : ∃ m, m = xs.length := ⟨_, rfl⟩
  rw [← hm] at HL HV ⊢
  have HM := Lib.hid hm
  clear hm hv
  rcases Nat.eq_zero_or_pos (errI xs) with he | he
  · obtain ⟨hl, hok⟩ := err_ok he
    obtain ⟨hxs, hmk⟩ := nats_of hok
    have hchk : chkI xs = if natsI xs ≠ sortK (natsI xs) then 13 else if natsI xs ≠ minK (natsI xs) then 2 else 0 := by unfold chkI; rw [if_neg (by omega)]
    rw [hchk]
    obtain ⟨ns, hns⟩ : ∃ ns, ns = natsI xs := ⟨_, rfl⟩
    rw [← hns] at hxs hmk ⊢
    have hlm : m = ns.length := by rw [HM.out, hns]; unfold natsI; rw [List.length_map]
    have HVS : Hid (SetsAt w (.slice a m c) ns) := Lib.hid ⟨by rw [← hxs]; exact HV.out, hmk⟩
    have hnl : ns.length ≤ 1024 := by rw [← hlm, HM.out]; exact hl
    rw [he] at HL
    have HL0 : Hid (Calls Tryz.prog 94 #[.slice a m c] w fun e w' => e = .returned (.int .i64 0) ∧ w = w') := Lib.hid HL.out
    have HS : Hid (Calls Tryz.prog 82 #[.slice a m c] w fun e w' => (∃ v', e = .returned v' ∧ IntsAt w' v' (ofN (sortK ns))) ∧ Kept w w') := Lib.hid (by
      refine (rsort_any ns.length ns _ w (Nat.le_refl _) HVS.out (by omega)).mono ?_
      rintro e w' ⟨⟨v', h1, h2⟩, h3⟩
      exact ⟨⟨v', h1, h2.sets.1⟩, h3⟩)
    have HMN : Hid (∀ W, Kept w W → Calls Tryz.prog 80 #[.slice a m c] W fun e w' => (∃ v', e = .returned v' ∧ IntsAt w' v' (ofN (minK ns))) ∧ Kept W w') := Lib.hid fun W hk => by
      refine (least_any ns _ W (HVS.out.kept hk) (by omega)).mono ?_
      rintro e w' ⟨⟨v', h1, h2⟩, h3⟩
      exact ⟨⟨v', h1, h2.sets.1⟩, h3⟩
    have HIN : Hid (∀ W vb l b, decide (ns = l) = b → Kept w W → IntsAt W vb (ofN l) → Calls Tryz.prog 26 #[.slice a m c, vb] W fun e w' => e = .returned (.bool b) ∧ Kept W w') := Lib.hid fun W vb l b hb hk hv => by
      have h := ints_at (ofN ns) (ofN l) (.slice a m c) vb W (HVS.out.kept hk).1 hv
      rw [show decide (ofN ns = ofN l) = b by rw [← hb]; exact decide_eq_decide.2 ofN_inj] at h
      exact h
    clear hxs hmk hns hl hok he hchk hlm hnl HL
    by_cases h1 : ns = sortK ns
    · have D1 : Hid (decide (ns = sortK ns) = true) := Lib.hid (decide_eq_true h1)
      rw [if_neg (fun h => h h1)]
      by_cases h2 : ns = minK ns
      · have D2 : Hid (decide (ns = minK ns) = true) := Lib.hid (decide_eq_true h2)
        rw [if_neg (fun h => h h2)]
        clear h1 h2
        go_enter Tryz.func43, Tryz.ntmps43
        go_wp2_with (first
          | (go_at_call 94; refine HL0.out.mono ?_; rintro e w1 ⟨rfl, rfl⟩)
          | (go_at_call 82; refine HS.out.mono ?_; rintro e w2 ⟨⟨v2, rfl, hv2⟩, hk2⟩; have HV2 := Lib.hid hv2; have K2 := Lib.hid hk2; clear hv2 hk2)
          | (go_at_call 26; (with_reducible refine (HIN.out _ _ _ _ D2.out K4.out HV4.out).mono ?_); rintro e w5 ⟨rfl, hk5⟩; have K5 := Lib.hid (K4.out.trans hk5); clear hk5)
          | (go_at_call 26; (with_reducible refine (HIN.out _ _ _ _ D1.out K2.out HV2.out).mono ?_); rintro e w3 ⟨rfl, hk3⟩; have K3 := Lib.hid (K2.out.trans hk3); clear hk3)
          | (go_at_call 80; refine (HMN.out _ K3.out).mono ?_; rintro e w4 ⟨⟨v4, rfl, hv4⟩, hk4⟩; have HV4 := Lib.hid hv4; have K4 := Lib.hid (K3.out.trans hk4); clear hk4 hv4))
        go_ret
        exact ⟨rfl, K5.out⟩
      · have D2 : Hid (decide (ns = minK ns) = false) := Lib.hid (decide_eq_false h2)
        rw [if_pos h2]
        clear h1 h2
        go_enter Tryz.func43, Tryz.ntmps43
        go_wp2_with (first
          | (go_at_call 94; refine HL0.out.mono ?_; rintro e w1 ⟨rfl, rfl⟩)
          | (go_at_call 82; refine HS.out.mono ?_; rintro e w2 ⟨⟨v2, rfl, hv2⟩, hk2⟩; have HV2 := Lib.hid hv2; have K2 := Lib.hid hk2; clear hv2 hk2)
          | (go_at_call 26; (with_reducible refine (HIN.out _ _ _ _ D2.out K4.out HV4.out).mono ?_); rintro e w5 ⟨rfl, hk5⟩; have K5 := Lib.hid (K4.out.trans hk5); clear hk5)
          | (go_at_call 26; (with_reducible refine (HIN.out _ _ _ _ D1.out K2.out HV2.out).mono ?_); rintro e w3 ⟨rfl, hk3⟩; have K3 := Lib.hid (K2.out.trans hk3); clear hk3)
          | (go_at_call 80; refine (HMN.out _ K3.out).mono ?_; rintro e w4 ⟨⟨v4, rfl, hv4⟩, hk4⟩; have HV4 := Lib.hid hv4; have K4 := Lib.hid (K3.out.trans hk4); clear hk4 hv4))
        go_ret
        exact ⟨rfl, K5.out⟩
    · have D1 : Hid (decide (ns = sortK ns) = false) := Lib.hid (decide_eq_false h1)
      rw [if_pos h1]
      clear h1
      go_enter Tryz.func43, Tryz.ntmps43
      go_wp2_with (first
        | (go_at_call 94; refine HL0.out.mono ?_; rintro e w1 ⟨rfl, rfl⟩)
        | (go_at_call 82; refine HS.out.mono ?_; rintro e w2 ⟨⟨v2, rfl, hv2⟩, hk2⟩; have HV2 := Lib.hid hv2; have K2 := Lib.hid hk2; clear hv2 hk2)
        | (go_at_call 26; (with_reducible refine (HIN.out _ _ _ _ D1.out K2.out HV2.out).mono ?_); rintro e w3 ⟨rfl, hk3⟩; have K3 := Lib.hid (K2.out.trans hk3); clear hk3))
      go_ret
      exact ⟨rfl, K3.out⟩
  · have hchk : chkI xs = errI xs := by unfold chkI; rw [if_pos (by omega)]
    rw [hchk]
    obtain ⟨q, hq⟩ : ∃ q, q = errI xs := ⟨_, rfl⟩
    rw [← hq] at HL he ⊢
    have hq0 : ((q : Int) != 0) = true := by simp [bne]; omega
    have hq1 : ((q : Int) == 0) = false := by simp; omega
    clear hchk hq he
    go_enter Tryz.func43, Tryz.ntmps43
    go_wp2_with fail
    refine HL.out.mono ?_
    rintro e w1 ⟨rfl, rfl⟩
    go_wp2
    go_ret
    exact ⟨rfl, Kept.refl _⟩
end Go.Proofs.YteodabnjkikogaaGreat

/-
  Walk: truncate.Left. Printed by gen_A51.py.
-/
namespace Go.Proofs.YteodabnjkikogaaGreat
open Go.RowKit

/-- The sum of the first products. -/
def sumQ (ss : List Nat) (ps : List Rw) : Nat → Rat
  | 0 => 0
  | k + 1 => sumQ ss ps k + prodQ (ss.getD k 0) ps ps.length
theorem sumQ_succ (ss : List Nat) (ps : List Rw) (k : Nat) : sumQ ss ps (k + 1) = sumQ ss ps k + prodQ (ss.getD k 0) ps ps.length := rfl
/-- What Left answers: the error's number, the sum. -/
def leftQ (xs ys : List Int) (ps : List Rw) : Nat × Rat :=
  if chkI xs ≠ 0 then (chkI xs, 0) else if chkI ys ≠ 0 then (chkI ys, 0) else if (natsI ys).any (fun s => decide ((ps.length : Int) ≤ gtK s)) = true then (11, 0) else if badR ps = true then (3, 0) else (0, sumQ (natsI ys) ps (natsI ys).length)
theorem sum_short {ss : List Nat} {ps : List Rw} (h30 : ps.length ≤ 30) (hs : ∀ r ∈ ps, r.Short 3) (hok : ∀ r ∈ ps, r.Ok) : ∀ k, (canR (sumQ ss ps k)).Short (92 * k + 1) := by
  intro k
  induction k with
  | zero => exact ⟨Nat.zero_le _, Nat.zero_le _⟩
  | succ k ih =>
    have hp := prod_short (s := ss.getD k 0) hs hok ps.length (Nat.le_refl _)
    have h := short_add (canR_ok (sumQ ss ps k)) (canR_ok (prodQ (ss.getD k 0) ps ps.length)) ih hp (by omega) (by omega)
    rw [ratOf_can, ratOf_can, ← sumQ_succ] at h
    exact ⟨Nat.le_trans h.1 (by omega), Nat.le_trans h.2 (by omega)⟩
theorem chk_ok {xs : List Int} (h : chkI xs = 0) : xs.length ≤ 1024 ∧ okI xs = true := by
  unfold chkI at h
  by_cases he : errI xs = 0
  · exact err_ok he
  · rw [if_pos he] at h; exact absurd h he
set_option maxRecDepth 100000 in
set_option maxHeartbeats 8000000 in
theorem leftT_any (kv fv v : Value) (xs ys : List Int) (ps : List Rw) (w : World) (hk : IntsAt w kv xs) (hf : IntsAt w fv ys) (hv : RatsAt w v ps) (h3 : ∀ r ∈ ps, r.Short 3) (h30 : ps.length ≤ 30) (hy : ys.length ≤ 60 ∨ 1024 < ys.length) :
    Calls Tryz.prog 15 #[.agg #[kv, fv], v] w fun e w' => (∃ v', e = .returned (.tuple #[v', errV (leftQ xs ys ps).1]) ∧ RatAt w' v' (canR (leftQ xs ys ps).2)) ∧ Kept w w' := by
  have HC1 : Hid (∀ W, Kept w W → Calls Tryz.prog 40 #[kv] W fun e w' => e = .returned (errV (chkI xs)) ∧ Kept W w') := Lib.hid fun W h => fcheck_any kv xs W (hk.kept h)
  have HC2 : Hid (∀ W, Kept w W → Calls Tryz.prog 40 #[fv] W fun e w' => e = .returned (errV (chkI ys)) ∧ Kept W w') := Lib.hid fun W h => fcheck_any fv ys W (hf.kept h)
  have hQ1 : chkI xs ≠ 0 → leftQ xs ys ps = (chkI xs, 0) := fun h => by unfold leftQ; rw [if_pos h]
  have hQ2 : chkI xs = 0 → chkI ys ≠ 0 → leftQ xs ys ps = (chkI ys, 0) := fun h1 h => by unfold leftQ; rw [if_neg (by omega), if_pos h]
  have hQ3 : chkI xs = 0 → chkI ys = 0 → leftQ xs ys ps = if (natsI ys).any (fun s => decide ((ps.length : Int) ≤ gtK s)) = true then (11, 0) else if badR ps = true then (3, 0) else (0, sumQ (natsI ys) ps (natsI ys).length) := fun h1 h2 => by unfold leftQ; rw [if_neg (by omega), if_neg (by omega)]
  obtain ⟨QQ, hQQ⟩ : ∃ QQ, QQ = leftQ xs ys ps := ⟨_, rfl⟩
  rw [← hQQ] at hQ1 hQ2 hQ3 ⊢
  obtain ⟨Qn, Qr⟩ := QQ
  simp only
  obtain ⟨ka, kn, kc, rfl⟩ := hk.shape
  obtain ⟨fa, fc, hfs, _⟩ := id hf
  obtain ⟨m, hm⟩ : ∃ m, m = ys.length := ⟨_, rfl⟩
  rw [← hm] at hfs
  subst hfs
  obtain ⟨pa, pc, rfl⟩ := hv.shape
  have HF := Lib.hid hf
  have HV := Lib.hid hv
  have HM := Lib.hid hm
  have H3 := Lib.hid h3
  have HY := Lib.hid hy
  obtain ⟨q1, hq1⟩ : ∃ q1, q1 = chkI xs := ⟨_, rfl⟩
  obtain ⟨q2, hq2⟩ : ∃ q2, q2 = chkI ys := ⟨_, rfl⟩
  rw [← hq1] at HC1 hQ1 hQ2 hQ3
  rw [← hq2] at HC2 hQ2 hQ3
  obtain ⟨w2, hw2⟩ : ∃ w2, w2 = (w.alloc (.cells #[.slice ka kn kc, .slice fa m fc] 34)).alloc (.cells #[.bool false, .slice none 0 0, .slice none 0 0] 28) := ⟨_, rfl⟩
  have hbx := (RowAt.made w #[.slice ka kn kc, .slice fa m fc] 34).kept ((Kept.refl _).alloc (.cells #[.bool false, .slice none 0 0, .slice none 0 0] 28))
  have HMD := Lib.hid (res_made w (.cells #[.slice ka kn kc, .slice fa m fc] 34))
  rw [← hw2] at hbx HMD
  have HBX := Lib.hid hbx
  have HW2 := Lib.hid hw2
  have b0 := hbx.cell (i := 0) (by simp)
  have b1 := hbx.cell (i := 1) (by simp)
  simp only [List.getElem_cons_succ, List.getElem_cons_zero] at b0 b1
  have HQ1 := Lib.hid hQ1
  have HQ2 := Lib.hid hQ2
  have HQ3 := Lib.hid hQ3
  have HQY := Lib.hid hq2
  clear hQ1 hQ2 hQ3 hQQ hk hf hv h3 hy hm hq1 hq2 hw2 hbx
  by_cases h1 : q1 = 0
  · by_cases h2 : q2 = 0
    · subst h1 h2
      have hqq := HQ3.out rfl rfl
      obtain ⟨hlen, hok⟩ := chk_ok (HQY.out.symm)
      obtain ⟨hys, hmk⟩ := nats_of hok
      obtain ⟨ss, hss⟩ : ∃ ss, ss = natsI ys := ⟨_, rfl⟩
      rw [← hss] at hys hmk hqq
      have hms : m = ss.length := by rw [HM.out, hss]; unfold natsI; rw [List.length_map]
      have hm60 : m ≤ 60 := by have := HY.out; have := HM.out; omega
      have HFS : Hid (IntsAt w (.slice fa m fc) (ofN ss)) := Lib.hid (by rw [← hys]; exact HF.out)
      have HMK : Hid (∀ s ∈ ss, s < 16777216) := Lib.hid fun s hs => by have := hmk s hs; unfold Mk at this; omega
      have HMS := Lib.hid hms
      have HQQ := Lib.hid hqq
      have HE1 : Hid (∀ W, Kept w W → Calls Tryz.prog 40 #[.slice ka kn kc] W fun e w' => e = .returned (.nilIface) ∧ Kept W w') := Lib.hid HC1.out
      have HE2 : Hid (∀ W, Kept w W → Calls Tryz.prog 40 #[.slice fa m fc] W fun e w' => e = .returned (.nilIface) ∧ Kept W w') := Lib.hid HC2.out
      have HBA := Lib.hid (fun W (h : Kept w W) => bad_any (.slice pa ps.length pc) ps W (HV.out.kept h) (fun r hr => ⟨Nat.le_trans (H3.out r hr).1 (by omega), Nat.le_trans (H3.out r hr).2 (by omega)⟩))
      have HPR : Hid (∀ s W, s < 16777216 → gtK s < (ps.length : Int) → Kept w W → Calls Tryz.prog 35 #[.int .i64 s, .slice pa ps.length pc] W fun e w' => (∃ v', e = .returned v' ∧ RatAt w' v' (canR (prodQ s ps ps.length))) ∧ Kept W w') := Lib.hid fun s W hs hg h => product_rat s _ ps W hs (HV.out.kept h) H3.out h30
      have HSS := Lib.hid (fun k => sum_short (ss := ss) h30 H3.out HV.out.ok k)
      have HPS := Lib.hid (fun s => prod_short (s := s) H3.out HV.out.ok ps.length (Nat.le_refl _))
      have HGR : Hid (∀ (s : Nat) (W : World), s < 16777216 → Calls Tryz.prog 41 #[.int .i64 s] W fun e w' => e = .returned (.int .i64 (gtK s)) ∧ Kept W w') := Lib.hid fun s W hs => (great_any s hs W).mono fun _ _ ⟨h1, h2⟩ => ⟨h1, by rw [h2]; exact Kept.refl _⟩
      obtain ⟨pn, hpn⟩ : ∃ pn, pn = ps.length := ⟨_, rfl⟩
      rw [← hpn] at HBA HPR HPS HQQ h30 ⊢
      have HPN := Lib.hid hpn
      clear hqq hys hmk hss hms hlen hok HC1 HC2 HQ1 HQ2 HQ3 hpn
      go_enter Tryz.func15, Tryz.ntmps15
      go_wp2_with fail
      rw [← HW2.out]
      refine (HE1.out _ HMD.out.2.2).mono ?_
      rintro e w3 ⟨rfl, hk3⟩
      have b30 := hk3.cell b0
      have b31 := hk3.cell b1
      have HK3 := Lib.hid (HMD.out.2.2.trans hk3)
      have HR3 := Lib.hid (HMD.out.1.kept hk3)
      have HF3 := Lib.hid (HMD.out.2.1.kept hk3)
      clear hk3 b0 b1
      go_wp2_with fail
      refine (HE2.out _ HK3.out).mono ?_
      rintro e w4 ⟨rfl, hk4⟩
      have b40 := hk4.cell b30
      have b41 := hk4.cell b31
      have HK4 := Lib.hid (HK3.out.trans hk4)
      have HR4 := Lib.hid (HR3.out.kept hk4)
      have HF4 := Lib.hid (HF3.out.kept hk4)
      have HB4 := Lib.hid (And.intro b40 b41)
      clear hk4 b30 b31
      go_wp2_with fail
      go_loopg [30] m (fun kx s30 wr => ∃ k : Nat, k ≤ m ∧ s30 = .int .i64 k ∧ m - k ≤ kx ∧ Hid (∀ s ∈ ss.take k, gtK s < (pn : Int)) ∧ Hid (Kept w4 wr))
      case atStart => exact ⟨0, Nat.zero_le _, rfl, by omega, Lib.hid (by simp), Lib.hid (Kept.refl _)⟩
      case round =>
        obtain ⟨k, hk, rfl, hkx, HG, HKr⟩ := hrel
        have HKw := Lib.hid (HK4.out.trans HKr.out)
        by_cases hlt : k < m
        · have hkl : k < ss.length := by have := HMS.out; omega
          obtain ⟨fa', fc', he1, _, _, he2⟩ := HFS.out
          injection he1 with he3 he4 he5
          subst he3
          obtain ⟨b, o, rfl, hce⟩ := he2 k (by simpa [ofN] using hkl)
          obtain ⟨s, hs⟩ : ∃ s, s = ss[k] := ⟨_, rfl⟩
          have e1 : (ofN ss)[k]'(by simpa [ofN] using hkl) = (s : Int) := by rw [hs]; simp [ofN]
          rw [e1] at hce
          have hcr := HKw.out.cell hce
          have HS := Lib.hid hs
          have HGC := Lib.hid (fun W => HGR.out s W (HMK.out s (by rw [hs]; exact List.getElem_mem _)))
          have hki : (k : Int) < (m : Int) := by omega
          obtain ⟨g, hg⟩ : ∃ g, g = gtK s := ⟨_, rfl⟩
          have HGG := Lib.hid hg
          rw [← hg] at HGC
          clear he2 he4 he5 e1 hce hs hg
          by_cases hge : (pn : Int) ≤ g
          · have HQV : Hid (Qn = 11 ∧ Qr = 0) := Lib.hid (by
              have h := HQQ.out
              rw [if_pos (List.any_eq_true.2 ⟨s, by rw [HS.out]; exact List.getElem_mem _, decide_eq_true (by rw [← HGG.out]; exact hge)⟩)] at h
              injection h with h1 h2
              exact ⟨h1, h2⟩)
            go_wp2_with fail
            refine (HGC.out _).mono ?_
            rintro e w5 ⟨rfl, hk5⟩
            have hr5 := HR4.out.kept (HKr.out.trans hk5)
            have HF5 := Lib.hid (HF4.out.kept (HKr.out.trans hk5))
            have HK5 := Lib.hid (HKw.out.trans hk5)
            obtain ⟨y0, y1, y2, hra⟩ := rat_stored (r := ⟨false, [], []⟩) hr5 HF5.out (WdsAt.nil _) (WdsAt.nil _)
            have Y := Lib.hid (And.intro y0 (And.intro y1 y2))
            have HRA := Lib.hid hra
            have g0 := hr5.cell (i := 0) (by simp)
            have g1 := hr5.cell (i := 1) (by simp)
            have g2 := hr5.cell (i := 2) (by simp)
            have f0 := hr5.free 0
            have f1 := hr5.free 1
            have f2 := hr5.free 2
            have hlt5 := hr5.lt
            clear hk5 hr5 y0 y1 y2 hra hcr
            go_wp2
            refine bodyPost_ret (v := .tuple #[.agg #[.bool false, .slice none 0 0, .slice none 0 0], errV 11]) ?_ rfl ⟨⟨_, by rw [HQV.out.1], by rw [HQV.out.2, canR_zero]; exact HRA.out⟩, ?_⟩
            · simp [results, Tryz.results15, go_sem, Y.out.1, Y.out.2.1, Y.out.2.2, errV]
            · exact ((HK5.out.store (by omega) _ _).store (by omega) _ _).store (by omega) _ _
          · have hgl : ¬ (pn : Int) ≤ g := hge
            have dgl : decide ((pn : Int) ≤ g) = false := decide_eq_false hge
            go_wp2_with fail
            refine (HGC.out _).mono ?_
            rintro e w5 ⟨rfl, hk5⟩
            have HK5 := Lib.hid (HKr.out.trans hk5)
            clear hk5 hcr
            go_wp2_with fail
            go_roundg (m - (k + 1))
            case measure => omega
            case rel => exact ⟨k + 1, by omega, by go_num, Nat.le_refl _, Lib.hid (fun y hy => by
              rw [List.take_succ_eq_append_getElem hkl] at hy
              rcases List.mem_append.1 hy with hy | hy
              · exact HG.out y hy
              · simp at hy; rw [hy, ← HS.out, ← HGG.out]; omega), HK5⟩
        · have hki : ¬ (k : Int) < (m : Int) := by omega
          have HGA : Hid (∀ s ∈ ss, gtK s < (pn : Int)) := Lib.hid (by have h := HG.out; rwa [List.take_of_length_le (by have := HMS.out; omega)] at h)
          have HQA : Hid ((Qn, Qr) = if badR ps = true then (3, 0) else (0, sumQ ss ps ss.length)) := Lib.hid (by
            have h := HQQ.out
            rw [if_neg (by
              intro h2
              obtain ⟨s, hs, h3⟩ := List.any_eq_true.1 h2
              have := HGA.out s hs
              have := of_decide_eq_true h3
              omega)] at h
            exact h)
          have c40 := HKr.out.cell HB4.out.1
          have c41 := HKr.out.cell HB4.out.2
          cases hbad : badR ps with
          | true =>
            rw [hbad] at HBA HQA
            have HQV : Hid (Qn = 3 ∧ Qr = 0) := Lib.hid (by
              have h := HQA.out
              rw [if_pos rfl] at h
              injection h with h1 h2
              exact ⟨h1, h2⟩)
            go_wp2_with fail
            refine (HBA.out _ HKw.out).mono ?_
            rintro e w5 ⟨rfl, hk5⟩
            have hr5 := HR4.out.kept (HKr.out.trans hk5)
            have HF5 := Lib.hid (HF4.out.kept (HKr.out.trans hk5))
            have HK5 := Lib.hid (HKw.out.trans hk5)
            obtain ⟨y0, y1, y2, hra⟩ := rat_stored (r := ⟨false, [], []⟩) hr5 HF5.out (WdsAt.nil _) (WdsAt.nil _)
            have Y := Lib.hid (And.intro y0 (And.intro y1 y2))
            have HRA := Lib.hid hra
            have g0 := hr5.cell (i := 0) (by simp)
            have g1 := hr5.cell (i := 1) (by simp)
            have g2 := hr5.cell (i := 2) (by simp)
            have f0 := hr5.free 0
            have f1 := hr5.free 1
            have f2 := hr5.free 2
            have hlt5 := hr5.lt
            clear hk5 hr5 y0 y1 y2 hra
            go_wp2
            refine bodyPost_ret (v := .tuple #[.agg #[.bool false, .slice none 0 0, .slice none 0 0], errV 3]) ?_ rfl ⟨⟨_, by rw [HQV.out.1], by rw [HQV.out.2, canR_zero]; exact HRA.out⟩, ?_⟩
            · simp [results, Tryz.results15, go_sem, Y.out.1, Y.out.2.1, Y.out.2.2, errV]
            · exact ((HK5.out.store (by omega) _ _).store (by omega) _ _).store (by omega) _ _
          | false =>
            rw [hbad] at HBA HQA
            have HQV : Hid (Qn = 0 ∧ Qr = sumQ ss ps ss.length) := Lib.hid (by
              have h := HQA.out
              rw [if_neg (by simp)] at h
              injection h with h1 h2
              exact ⟨h1, h2⟩)
            go_wp2_with fail
            refine (HBA.out _ HKw.out).mono ?_
            rintro e w5 ⟨rfl, hk5⟩
            have HK5 := Lib.hid (HKw.out.trans hk5)
            have HR5 := Lib.hid (HR4.out.kept (HKr.out.trans hk5))
            have HF5 := Lib.hid (HF4.out.kept (HKr.out.trans hk5))
            have c50 := hk5.cell c40
            have c51 := hk5.cell c41
            have d51 := ((Kept.refl w5).alloc (.cells #[.bool false, .slice none 0 0, .slice none 0 0] 28)).cell c51
            have HC5 : Hid (RatCell (w5.alloc (.cells #[.bool false, .slice none 0 0, .slice none 0 0] 28)) w5.heap.size (canR (sumQ ss ps 0))) := Lib.hid (RatCell.made (r := ⟨false, [], []⟩) (WdsAt.nil w5) (WdsAt.nil w5))
            have HK6 : Hid (Kept w5 (w5.alloc (.cells #[.bool false, .slice none 0 0, .slice none 0 0] 28))) := Lib.hid ((Kept.refl _).alloc _)
            clear hk5 c40 c41 hki
            go_wp2_with fail
            go_loopg [49] m (fun kx s49 wq => ∃ j : Nat, j ≤ m ∧ s49 = .int .i64 j ∧ m - j ≤ kx ∧ Hid (RatCell wq w5.heap.size (canR (sumQ ss ps j))) ∧ Hid (Kept w5 wq))
            case atStart => exact ⟨0, Nat.zero_le _, rfl, by omega, HC5, HK6⟩
            case round =>
              obtain ⟨j, hj, rfl, hjx, HX, HKq⟩ := hrel
              have HKw2 := Lib.hid (HK5.out.trans HKq.out)
              by_cases hjm : j < m
              · have hjl : j < ss.length := by have := HMS.out; omega
                obtain ⟨fa', fc', he1, _, _, he2⟩ := HFS.out
                injection he1 with he3 he4 he5
                subst he3
                obtain ⟨b, o, rfl, hce⟩ := he2 j (by simpa [ofN] using hjl)
                obtain ⟨s, hs⟩ : ∃ s, s = ss[j] := ⟨_, rfl⟩
                have e1 : (ofN ss)[j]'(by simpa [ofN] using hjl) = (s : Int) := by rw [hs]; simp [ofN]
                rw [e1] at hce
                have hcr := HKw2.out.cell hce
                have hsm : s ∈ ss := by rw [hs]; exact List.getElem_mem _
                have HP := Lib.hid (fun W (h : Kept w W) => HPR.out s W (HMK.out s hsm) (HGA.out s hsm) h)
                have HST : Hid (canR (sumQ ss ps (j + 1)) = canR (ratOf (canR (sumQ ss ps j)) + ratOf (canR (prodQ s ps pn)))) := Lib.hid (by rw [sumQ_succ, ratOf_can, ratOf_can, HPN.out, hs]; simp [List.getD_eq_getElem?_getD, hjl])
                have hsk := HSS.out j
                have hps := HPS.out s
                have hji : (j : Int) < (m : Int) := by omega
                have HAD : Hid (∀ W u1 u2, RatAt W u1 (canR (sumQ ss ps j)) → RatAt W u2 (canR (prodQ s ps pn)) → Calls Tryz.prog 42 #[u1, u2] W fun e w' => (∃ v', e = .returned v' ∧ RatAt w' v' (canR (sumQ ss ps (j + 1)))) ∧ Kept W w') := Lib.hid fun W u1 u2 k1 k2 => by
                  rw [HST.out]
                  exact radd_any u1 u2 _ _ W k1 k2 ⟨Nat.le_trans hsk.1 (by omega), Nat.le_trans hsk.2 (by omega)⟩ ⟨Nat.le_trans hps.1 (by omega), Nat.le_trans hps.2 (by omega)⟩
                obtain ⟨a5, c5, a6, c6, ⟨x0, x1, x2⟩, ⟨f0, f1, f2⟩, hgl, hxa⟩ := HX.out.at
                have HXA := Lib.hid hxa
                generalize (canR (sumQ ss ps j)).neg = z3 at *
                generalize (canR (sumQ ss ps j)).num.length = z4 at *
                generalize (canR (sumQ ss ps j)).den.length = z5 at *
                clear he2 he4 he5 e1 hce hs hsm hsk hps hxa c50 c51 d51
                go_wp2_with fail
                go_region_with (first
                  | (go_at_call 35; (with_reducible refine (HP.out _ (HKw2.out.drew)).mono ?_); rintro e w6 ⟨⟨v6, rfl, hv6⟩, hk6⟩; have hkd := (Kept.refl _).drew.trans hk6; have i0 := hkd.cell x0; have i1 := hkd.cell x1; have i2 := hkd.cell x2; have HX6 := Lib.hid (HX.out.kept hkd); have HXA6 := Lib.hid (HXA.out.kept hkd); have HK6 := Lib.hid (HKq.out.trans hkd); have HV6 := Lib.hid hv6; clear hk6 hkd hv6)
                  | (go_at_call 42; (with_reducible refine (HAD.out _ _ _ HXA6.out HV6.out).mono ?_); rintro e w7 ⟨⟨v7, rfl, hv7⟩, hk7⟩; have HX7 := Lib.hid (HX6.out.kept hk7); have HK7 := Lib.hid (HK6.out.trans hk7); obtain ⟨u7, u8, rfl, k7, k8⟩ := hv7; obtain ⟨a7, c7, rfl⟩ := k7.shape; obtain ⟨a8, c8, rfl⟩ := k8.shape; have K7 := Lib.hid k7; have K8 := Lib.hid k8; obtain ⟨_, _, _, _, ⟨t0, t1, t2⟩, ⟨j0, j1, j2⟩, hgl6, _⟩ := HX7.out.at; clear k7 k8 hk7))
                all_goals
                  have HS := Lib.hid (HX7.out.store K7.out K8.out)
                  generalize (canR (sumQ ss ps (j + 1))).num.length = n7 at *
                  generalize (canR (sumQ ss ps (j + 1))).den.length = n8 at *
                  go_wp2_with fail
                  go_roundg (m - (j + 1))
                  case measure => omega
                  case rel => exact ⟨j + 1, by omega, by go_num, Nat.le_refl _, HS, Lib.hid (((HK7.out.store (Nat.le_refl _) _ _).store (Nat.le_refl _) _ _).store (Nat.le_refl _) _ _)⟩
              · have hje : j = m := by omega
                have hji : ¬ (j : Int) < (m : Int) := by omega
                have HX2 : Hid (RatCell wr w5.heap.size (canR Qr)) := Lib.hid (by rw [HQV.out.2, ← HMS.out, ← hje]; exact HX.out)
                obtain ⟨R, hR⟩ : ∃ R, R = canR Qr := ⟨_, rfl⟩
                have HRR := Lib.hid hR
                rw [← hR] at HX2
                have hrr := HR5.out.kept HKq.out
                have HFF := Lib.hid (HF5.out.kept HKq.out)
                obtain ⟨a5, c5, a6, c6, ⟨x0, x1, x2⟩, _, hgl, u7, u8, e9, k7, k8⟩ := HX2.out.at
                simp only [Value.agg.injEq] at e9
                have e9' := congrArg Array.toList e9
                simp at e9'
                obtain ⟨rfl, rfl⟩ := e9'
                obtain ⟨y0, y1, y2, hra⟩ := rat_stored hrr HFF.out k7 k8
                have g0 := hrr.cell (i := 0) (by simp)
                have g1 := hrr.cell (i := 1) (by simp)
                have g2 := hrr.cell (i := 2) (by simp)
                have f0 := hrr.free 0
                have f1 := hrr.free 1
                have f2 := hrr.free 2
                have hlt5 := hrr.lt
                have HRA := Lib.hid hra
                have Y := Lib.hid (And.intro y0 (And.intro y1 y2))
                clear hra y0 y1 y2 k7 k8 hrr e9 hje hR c50 c51 d51
                generalize R.num.length = n7 at *
                generalize R.den.length = n8 at *
                go_wp2
                refine bodyPost_ret (v := .tuple #[.agg #[.bool R.neg, .slice a5 n7 c5, .slice a6 n8 c6], .nilIface]) ?_ rfl ⟨⟨_, by rw [HQV.out.1]; rfl, by rw [← HRR.out]; exact HRA.out⟩, ?_⟩
                · simp [results, Tryz.results15, go_sem, Y.out.1, Y.out.2.1, Y.out.2.2]
                · exact ((HKw2.out.store (by omega) _ _).store (by omega) _ _).store (by omega) _ _
    · subst h1
      have HQV : Hid (Qn = q2 ∧ Qr = 0) := Lib.hid (by
        have h := HQ2.out rfl h2
        injection h with h3 h4
        exact ⟨h3, h4⟩)
      have HE1 : Hid (∀ W, Kept w W → Calls Tryz.prog 40 #[.slice ka kn kc] W fun e w' => e = .returned (.nilIface) ∧ Kept W w') := Lib.hid HC1.out
      have hqe : errV q2 = .iface 56 (.int .i64 q2) := errV_pos h2
      rw [hqe] at HC2
      have HQE := Lib.hid hqe
      clear hqe
      clear HC1 HQ1 HQ2 HQ3 h2
      go_enter Tryz.func15, Tryz.ntmps15
      go_wp2_with fail
      rw [← HW2.out]
      refine (HE1.out _ HMD.out.2.2).mono ?_
      rintro e w3 ⟨rfl, hk3⟩
      have b30 := hk3.cell b0
      have b31 := hk3.cell b1
      have HK3 := Lib.hid (HMD.out.2.2.trans hk3)
      have HR3 := Lib.hid (HMD.out.1.kept hk3)
      have HF3 := Lib.hid (HMD.out.2.1.kept hk3)
      clear hk3 b0 b1
      go_wp2_with fail
      refine (HC2.out _ HK3.out).mono ?_
      rintro e w5 ⟨rfl, hk5⟩
      have hr5 := HR3.out.kept hk5
      have HF5 := Lib.hid (HF3.out.kept hk5)
      have HK5 := Lib.hid (HK3.out.trans hk5)
      obtain ⟨y0, y1, y2, hra⟩ := rat_stored (r := ⟨false, [], []⟩) hr5 HF5.out (WdsAt.nil _) (WdsAt.nil _)
      have Y := Lib.hid (And.intro y0 (And.intro y1 y2))
      have HRA := Lib.hid hra
      have g0 := hr5.cell (i := 0) (by simp)
      have g1 := hr5.cell (i := 1) (by simp)
      have g2 := hr5.cell (i := 2) (by simp)
      have f0 := hr5.free 0
      have f1 := hr5.free 1
      have f2 := hr5.free 2
      have hlt5 := hr5.lt
      clear hk5 hr5 y0 y1 y2 hra
      go_wp2
      refine bodyPost_ret (v := .tuple #[.agg #[.bool false, .slice none 0 0, .slice none 0 0], .iface 56 (.int .i64 q2)]) ?_ rfl ⟨⟨_, by rw [HQV.out.1]; rw [HQE.out], by rw [HQV.out.2, canR_zero]; exact HRA.out⟩, ?_⟩
      · simp [results, Tryz.results15, go_sem, Y.out.1, Y.out.2.1, Y.out.2.2]
      · exact ((HK5.out.store (by omega) _ _).store (by omega) _ _).store (by omega) _ _
  · have HQV : Hid (Qn = q1 ∧ Qr = 0) := Lib.hid (by
      have h := HQ1.out h1
      injection h with h3 h4
      exact ⟨h3, h4⟩)
    have hqe : errV q1 = .iface 56 (.int .i64 q1) := errV_pos h1
    rw [hqe] at HC1
    have HQE := Lib.hid hqe
    clear hqe
    clear HC2 HQ1 HQ2 HQ3 h1
    go_enter Tryz.func15, Tryz.ntmps15
    go_wp2_with fail
    rw [← HW2.out]
    refine (HC1.out _ HMD.out.2.2).mono ?_
    rintro e w5 ⟨rfl, hk5⟩
    have hr5 := HMD.out.1.kept hk5
    have HF5 := Lib.hid (HMD.out.2.1.kept hk5)
    have HK5 := Lib.hid (HMD.out.2.2.trans hk5)
    obtain ⟨y0, y1, y2, hra⟩ := rat_stored (r := ⟨false, [], []⟩) hr5 HF5.out (WdsAt.nil _) (WdsAt.nil _)
    have Y := Lib.hid (And.intro y0 (And.intro y1 y2))
    have HRA := Lib.hid hra
    have g0 := hr5.cell (i := 0) (by simp)
    have g1 := hr5.cell (i := 1) (by simp)
    have g2 := hr5.cell (i := 2) (by simp)
    have f0 := hr5.free 0
    have f1 := hr5.free 1
    have f2 := hr5.free 2
    have hlt5 := hr5.lt
    clear hk5 hr5 y0 y1 y2 hra
    go_wp2
    refine bodyPost_ret (v := .tuple #[.agg #[.bool false, .slice none 0 0, .slice none 0 0], .iface 56 (.int .i64 q1)]) ?_ rfl ⟨⟨_, by rw [HQV.out.1]; rw [HQE.out], by rw [HQV.out.2, canR_zero]; exact HRA.out⟩, ?_⟩
    · simp [results, Tryz.results15, go_sem, Y.out.1, Y.out.2.1, Y.out.2.2]
    · exact ((HK5.out.store (by omega) _ _).store (by omega) _ _).store (by omega) _ _
end Go.Proofs.YteodabnjkikogaaGreat

/-
  Walk: faultlineref35.Left. Printed by gen_A51.py.
-/
namespace Go.Proofs.YteodabnjkikogaaGreat
open Go.RowKit

set_option maxRecDepth 100000 in
set_option maxHeartbeats 8000000 in
theorem refleft_any (kv fv v : Value) (xs ys : List Int) (ps : List Rw) (w : World) (hk : IntsAt w kv xs) (hf : IntsAt w fv ys) (hv : RatsAt w v ps) (h3 : ∀ r ∈ ps, r.Short 3) (h30 : ps.length ≤ 30) (hy : ys.length ≤ 60 ∨ 1024 < ys.length) :
    Calls Tryz.prog 16 #[.agg #[kv, fv], v] w fun e w' => (∃ v', e = .returned (.tuple #[v', .int .i64 (((leftQ xs ys ps).1 : Nat) : Int)]) ∧ RatAt w' v' (canR (leftQ xs ys ps).2)) ∧ Kept w w' := by
  have HC1 : Hid (∀ W, Kept w W → Calls Tryz.prog 43 #[kv] W fun e w' => e = .returned (.int .i64 ((chkI xs : Nat) : Int)) ∧ Kept W w') := Lib.hid fun W h => rcheck06_any kv xs W (hk.kept h)
  have HC2 : Hid (∀ W, Kept w W → Calls Tryz.prog 43 #[fv] W fun e w' => e = .returned (.int .i64 ((chkI ys : Nat) : Int)) ∧ Kept W w') := Lib.hid fun W h => rcheck06_any fv ys W (hf.kept h)
  have hQ1 : chkI xs ≠ 0 → leftQ xs ys ps = (chkI xs, 0) := fun h => by unfold leftQ; rw [if_pos h]
  have hQ2 : chkI xs = 0 → chkI ys ≠ 0 → leftQ xs ys ps = (chkI ys, 0) := fun h1 h => by unfold leftQ; rw [if_neg (by omega), if_pos h]
  have hQ3 : chkI xs = 0 → chkI ys = 0 → leftQ xs ys ps = if (natsI ys).any (fun s => decide ((ps.length : Int) ≤ gtK s)) = true then (11, 0) else if badR ps = true then (3, 0) else (0, sumQ (natsI ys) ps (natsI ys).length) := fun h1 h2 => by unfold leftQ; rw [if_neg (by omega), if_neg (by omega)]
  obtain ⟨QQ, hQQ⟩ : ∃ QQ, QQ = leftQ xs ys ps := ⟨_, rfl⟩
  rw [← hQQ] at hQ1 hQ2 hQ3 ⊢
  obtain ⟨Qn, Qr⟩ := QQ
  simp only
  obtain ⟨ka, kn, kc, rfl⟩ := hk.shape
  obtain ⟨fa, fc, hfs, _⟩ := id hf
  obtain ⟨m, hm⟩ : ∃ m, m = ys.length := ⟨_, rfl⟩
  rw [← hm] at hfs
  subst hfs
  obtain ⟨pa, pc, rfl⟩ := hv.shape
  have HF := Lib.hid hf
  have HV := Lib.hid hv
  have HM := Lib.hid hm
  have H3 := Lib.hid h3
  have HY := Lib.hid hy
  obtain ⟨q1, hq1⟩ : ∃ q1, q1 = chkI xs := ⟨_, rfl⟩
  obtain ⟨q2, hq2⟩ : ∃ q2, q2 = chkI ys := ⟨_, rfl⟩
  rw [← hq1] at HC1 hQ1 hQ2 hQ3
  rw [← hq2] at HC2 hQ2 hQ3
  obtain ⟨w2, hw2⟩ : ∃ w2, w2 = (w.alloc (.cells #[.slice ka kn kc, .slice fa m fc] 34)).alloc (.cells #[.bool false, .slice none 0 0, .slice none 0 0] 28) := ⟨_, rfl⟩
  have hbx := (RowAt.made w #[.slice ka kn kc, .slice fa m fc] 34).kept ((Kept.refl _).alloc (.cells #[.bool false, .slice none 0 0, .slice none 0 0] 28))
  have HMD := Lib.hid (res_made w (.cells #[.slice ka kn kc, .slice fa m fc] 34))
  rw [← hw2] at hbx HMD
  have HBX := Lib.hid hbx
  have HW2 := Lib.hid hw2
  have b0 := hbx.cell (i := 0) (by simp)
  have b1 := hbx.cell (i := 1) (by simp)
  simp only [List.getElem_cons_succ, List.getElem_cons_zero] at b0 b1
  have HQ1 := Lib.hid hQ1
  have HQ2 := Lib.hid hQ2
  have HQ3 := Lib.hid hQ3
  have HQY := Lib.hid hq2
  clear hQ1 hQ2 hQ3 hQQ hk hf hv h3 hy hm hq1 hq2 hw2 hbx
  by_cases h1 : q1 = 0
  · by_cases h2 : q2 = 0
    · subst h1 h2
      have hqq := HQ3.out rfl rfl
      obtain ⟨hlen, hok⟩ := chk_ok (HQY.out.symm)
      obtain ⟨hys, hmk⟩ := nats_of hok
      obtain ⟨ss, hss⟩ : ∃ ss, ss = natsI ys := ⟨_, rfl⟩
      rw [← hss] at hys hmk hqq
      have hms : m = ss.length := by rw [HM.out, hss]; unfold natsI; rw [List.length_map]
      have hm60 : m ≤ 60 := by have := HY.out; have := HM.out; omega
      have HFS : Hid (IntsAt w (.slice fa m fc) (ofN ss)) := Lib.hid (by rw [← hys]; exact HF.out)
      have HMK : Hid (∀ s ∈ ss, s < 16777216) := Lib.hid fun s hs => by have := hmk s hs; unfold Mk at this; omega
      have HMS := Lib.hid hms
      have HQQ := Lib.hid hqq
      have HE1 : Hid (∀ W, Kept w W → Calls Tryz.prog 43 #[.slice ka kn kc] W fun e w' => e = .returned (.int .i64 0) ∧ Kept W w') := Lib.hid HC1.out
      have HE2 : Hid (∀ W, Kept w W → Calls Tryz.prog 43 #[.slice fa m fc] W fun e w' => e = .returned (.int .i64 0) ∧ Kept W w') := Lib.hid HC2.out
      have HBA := Lib.hid (fun W (h : Kept w W) => refbad_any (.slice pa ps.length pc) ps W (HV.out.kept h) (fun r hr => ⟨Nat.le_trans (H3.out r hr).1 (by omega), Nat.le_trans (H3.out r hr).2 (by omega)⟩))
      have HPR : Hid (∀ s W, s < 16777216 → gtK s < (ps.length : Int) → Kept w W → Calls Tryz.prog 46 #[.slice pa ps.length pc, .int .i64 s] W fun e w' => (∃ v', e = .returned v' ∧ RatAt w' v' (canR (prodQ s ps ps.length))) ∧ Kept W w') := Lib.hid fun s W hs hg h => refproduct_any s _ ps W hs (HV.out.kept h) H3.out hg
      have HSS := Lib.hid (fun k => sum_short (ss := ss) h30 H3.out HV.out.ok k)
      have HPS := Lib.hid (fun s => prod_short (s := s) H3.out HV.out.ok ps.length (Nat.le_refl _))
      have HGR : Hid (∀ (s : Nat) (W : World), s < 16777216 → Calls Tryz.prog 44 #[.int .i64 s] W fun e w' => e = .returned (.int .i64 (gtK s)) ∧ Kept W w') := Lib.hid fun s W hs => great05_any s hs W
      obtain ⟨pn, hpn⟩ : ∃ pn, pn = ps.length := ⟨_, rfl⟩
      rw [← hpn] at HBA HPR HPS HQQ h30 ⊢
      have HPN := Lib.hid hpn
      clear hqq hys hmk hss hms hlen hok HC1 HC2 HQ1 HQ2 HQ3 hpn
      go_enter Tryz.func16, Tryz.ntmps16
      go_wp2_with fail
      rw [← HW2.out]
      refine (HE1.out _ HMD.out.2.2).mono ?_
      rintro e w3 ⟨rfl, hk3⟩
      have b30 := hk3.cell b0
      have b31 := hk3.cell b1
      have HK3 := Lib.hid (HMD.out.2.2.trans hk3)
      have HR3 := Lib.hid (HMD.out.1.kept hk3)
      have HF3 := Lib.hid (HMD.out.2.1.kept hk3)
      clear hk3 b0 b1
      go_wp2_with fail
      refine (HE2.out _ HK3.out).mono ?_
      rintro e w4 ⟨rfl, hk4⟩
      have b40 := hk4.cell b30
      have b41 := hk4.cell b31
      have HK4 := Lib.hid (HK3.out.trans hk4)
      have HR4 := Lib.hid (HR3.out.kept hk4)
      have HF4 := Lib.hid (HF3.out.kept hk4)
      have HB4 := Lib.hid (And.intro b40 b41)
      clear hk4 b30 b31
      go_wp2_with fail
      go_loopg [30] m (fun kx s30 wr => ∃ k : Nat, k ≤ m ∧ s30 = .int .i64 k ∧ m - k ≤ kx ∧ Hid (∀ s ∈ ss.take k, gtK s < (pn : Int)) ∧ Hid (Kept w4 wr))
      case atStart => exact ⟨0, Nat.zero_le _, rfl, by omega, Lib.hid (by simp), Lib.hid (Kept.refl _)⟩
      case round =>
        obtain ⟨k, hk, rfl, hkx, HG, HKr⟩ := hrel
        have HKw := Lib.hid (HK4.out.trans HKr.out)
        by_cases hlt : k < m
        · have hkl : k < ss.length := by have := HMS.out; omega
          obtain ⟨fa', fc', he1, _, _, he2⟩ := HFS.out
          injection he1 with he3 he4 he5
          subst he3
          obtain ⟨b, o, rfl, hce⟩ := he2 k (by simpa [ofN] using hkl)
          obtain ⟨s, hs⟩ : ∃ s, s = ss[k] := ⟨_, rfl⟩
          have e1 : (ofN ss)[k]'(by simpa [ofN] using hkl) = (s : Int) := by rw [hs]; simp [ofN]
          rw [e1] at hce
          have hcr := HKw.out.cell hce
          have HS := Lib.hid hs
          have HGC := Lib.hid (fun W => HGR.out s W (HMK.out s (by rw [hs]; exact List.getElem_mem _)))
          have hki : (k : Int) < (m : Int) := by omega
          obtain ⟨g, hg⟩ : ∃ g, g = gtK s := ⟨_, rfl⟩
          have HGG := Lib.hid hg
          rw [← hg] at HGC
          clear he2 he4 he5 e1 hce hs hg
          by_cases hge : (pn : Int) ≤ g
          · have HQV : Hid (Qn = 11 ∧ Qr = 0) := Lib.hid (by
              have h := HQQ.out
              rw [if_pos (List.any_eq_true.2 ⟨s, by rw [HS.out]; exact List.getElem_mem _, decide_eq_true (by rw [← HGG.out]; exact hge)⟩)] at h
              injection h with h1 h2
              exact ⟨h1, h2⟩)
            go_wp2_with fail
            refine (HGC.out _).mono ?_
            rintro e w5 ⟨rfl, hk5⟩
            have hr5 := HR4.out.kept (HKr.out.trans hk5)
            have HF5 := Lib.hid (HF4.out.kept (HKr.out.trans hk5))
            have HK5 := Lib.hid (HKw.out.trans hk5)
            obtain ⟨y0, y1, y2, hra⟩ := rat_stored (r := ⟨false, [], []⟩) hr5 HF5.out (WdsAt.nil _) (WdsAt.nil _)
            have Y := Lib.hid (And.intro y0 (And.intro y1 y2))
            have HRA := Lib.hid hra
            have g0 := hr5.cell (i := 0) (by simp)
            have g1 := hr5.cell (i := 1) (by simp)
            have g2 := hr5.cell (i := 2) (by simp)
            have f0 := hr5.free 0
            have f1 := hr5.free 1
            have f2 := hr5.free 2
            have hlt5 := hr5.lt
            clear hk5 hr5 y0 y1 y2 hra hcr
            go_wp2
            refine bodyPost_ret (v := .tuple #[.agg #[.bool false, .slice none 0 0, .slice none 0 0], .int .i64 11]) ?_ rfl ⟨⟨_, by rw [HQV.out.1]; rfl, by rw [HQV.out.2, canR_zero]; exact HRA.out⟩, ?_⟩
            · simp [results, Tryz.results16, go_sem, Y.out.1, Y.out.2.1, Y.out.2.2]
            · exact ((HK5.out.store (by omega) _ _).store (by omega) _ _).store (by omega) _ _
          · have hgl : ¬ (pn : Int) ≤ g := hge
            have dgl : decide ((pn : Int) ≤ g) = false := decide_eq_false hge
            go_wp2_with fail
            refine (HGC.out _).mono ?_
            rintro e w5 ⟨rfl, hk5⟩
            have HK5 := Lib.hid (HKr.out.trans hk5)
            clear hk5 hcr
            go_wp2_with fail
            go_roundg (m - (k + 1))
            case measure => omega
            case rel => exact ⟨k + 1, by omega, by go_num, Nat.le_refl _, Lib.hid (fun y hy => by
              rw [List.take_succ_eq_append_getElem hkl] at hy
              rcases List.mem_append.1 hy with hy | hy
              · exact HG.out y hy
              · simp at hy; rw [hy, ← HS.out, ← HGG.out]; omega), HK5⟩
        · have hki : ¬ (k : Int) < (m : Int) := by omega
          have HGA : Hid (∀ s ∈ ss, gtK s < (pn : Int)) := Lib.hid (by have h := HG.out; rwa [List.take_of_length_le (by have := HMS.out; omega)] at h)
          have HQA : Hid ((Qn, Qr) = if badR ps = true then (3, 0) else (0, sumQ ss ps ss.length)) := Lib.hid (by
            have h := HQQ.out
            rw [if_neg (by
              intro h2
              obtain ⟨s, hs, h3⟩ := List.any_eq_true.1 h2
              have := HGA.out s hs
              have := of_decide_eq_true h3
              omega)] at h
            exact h)
          have c40 := HKr.out.cell HB4.out.1
          have c41 := HKr.out.cell HB4.out.2
          cases hbad : badR ps with
          | true =>
            rw [hbad] at HBA HQA
            have HQV : Hid (Qn = 3 ∧ Qr = 0) := Lib.hid (by
              have h := HQA.out
              rw [if_pos rfl] at h
              injection h with h1 h2
              exact ⟨h1, h2⟩)
            go_wp2_with fail
            refine (HBA.out _ HKw.out).mono ?_
            rintro e w5 ⟨rfl, hk5⟩
            have hr5 := HR4.out.kept (HKr.out.trans hk5)
            have HF5 := Lib.hid (HF4.out.kept (HKr.out.trans hk5))
            have HK5 := Lib.hid (HKw.out.trans hk5)
            obtain ⟨y0, y1, y2, hra⟩ := rat_stored (r := ⟨false, [], []⟩) hr5 HF5.out (WdsAt.nil _) (WdsAt.nil _)
            have Y := Lib.hid (And.intro y0 (And.intro y1 y2))
            have HRA := Lib.hid hra
            have g0 := hr5.cell (i := 0) (by simp)
            have g1 := hr5.cell (i := 1) (by simp)
            have g2 := hr5.cell (i := 2) (by simp)
            have f0 := hr5.free 0
            have f1 := hr5.free 1
            have f2 := hr5.free 2
            have hlt5 := hr5.lt
            clear hk5 hr5 y0 y1 y2 hra
            go_wp2
            refine bodyPost_ret (v := .tuple #[.agg #[.bool false, .slice none 0 0, .slice none 0 0], .int .i64 3]) ?_ rfl ⟨⟨_, by rw [HQV.out.1]; rfl, by rw [HQV.out.2, canR_zero]; exact HRA.out⟩, ?_⟩
            · simp [results, Tryz.results16, go_sem, Y.out.1, Y.out.2.1, Y.out.2.2]
            · exact ((HK5.out.store (by omega) _ _).store (by omega) _ _).store (by omega) _ _
          | false =>
            rw [hbad] at HBA HQA
            have HQV : Hid (Qn = 0 ∧ Qr = sumQ ss ps ss.length) := Lib.hid (by
              have h := HQA.out
              rw [if_neg (by simp)] at h
              injection h with h1 h2
              exact ⟨h1, h2⟩)
            go_wp2_with fail
            refine (HBA.out _ HKw.out).mono ?_
            rintro e w5 ⟨rfl, hk5⟩
            have HK5 := Lib.hid (HKw.out.trans hk5)
            have HR5 := Lib.hid (HR4.out.kept (HKr.out.trans hk5))
            have HF5 := Lib.hid (HF4.out.kept (HKr.out.trans hk5))
            have c50 := hk5.cell c40
            have c51 := hk5.cell c41
            have d51 := ((Kept.refl w5).alloc (.cells #[.bool false, .slice none 0 0, .slice none 0 0] 28)).cell c51
            have HC5 : Hid (RatCell (w5.alloc (.cells #[.bool false, .slice none 0 0, .slice none 0 0] 28)) w5.heap.size (canR (sumQ ss ps 0))) := Lib.hid (RatCell.made (r := ⟨false, [], []⟩) (WdsAt.nil w5) (WdsAt.nil w5))
            have HK6 : Hid (Kept w5 (w5.alloc (.cells #[.bool false, .slice none 0 0, .slice none 0 0] 28))) := Lib.hid ((Kept.refl _).alloc _)
            clear hk5 c40 c41 hki
            go_wp2_with fail
            go_loopg [48] m (fun kx s49 wq => ∃ j : Nat, j ≤ m ∧ s49 = .int .i64 j ∧ m - j ≤ kx ∧ Hid (RatCell wq w5.heap.size (canR (sumQ ss ps j))) ∧ Hid (Kept w5 wq))
            case atStart => exact ⟨0, Nat.zero_le _, rfl, by omega, HC5, HK6⟩
            case round =>
              obtain ⟨j, hj, rfl, hjx, HX, HKq⟩ := hrel
              have HKw2 := Lib.hid (HK5.out.trans HKq.out)
              by_cases hjm : j < m
              · have hjl : j < ss.length := by have := HMS.out; omega
                obtain ⟨fa', fc', he1, _, _, he2⟩ := HFS.out
                injection he1 with he3 he4 he5
                subst he3
                obtain ⟨b, o, rfl, hce⟩ := he2 j (by simpa [ofN] using hjl)
                obtain ⟨s, hs⟩ : ∃ s, s = ss[j] := ⟨_, rfl⟩
                have e1 : (ofN ss)[j]'(by simpa [ofN] using hjl) = (s : Int) := by rw [hs]; simp [ofN]
                rw [e1] at hce
                have hcr := HKw2.out.cell hce
                have hsm : s ∈ ss := by rw [hs]; exact List.getElem_mem _
                have HP := Lib.hid (fun W (h : Kept w W) => HPR.out s W (HMK.out s hsm) (HGA.out s hsm) h)
                have HST : Hid (canR (sumQ ss ps (j + 1)) = canR (ratOf (canR (sumQ ss ps j)) + ratOf (canR (prodQ s ps pn)))) := Lib.hid (by rw [sumQ_succ, ratOf_can, ratOf_can, HPN.out, hs]; simp [List.getD_eq_getElem?_getD, hjl])
                have hsk := HSS.out j
                have hps := HPS.out s
                have hji : (j : Int) < (m : Int) := by omega
                have HAD : Hid (∀ W u1 u2, RatAt W u1 (canR (sumQ ss ps j)) → RatAt W u2 (canR (prodQ s ps pn)) → Calls Tryz.prog 45 #[u1, u2] W fun e w' => (∃ v', e = .returned v' ∧ RatAt w' v' (canR (sumQ ss ps (j + 1)))) ∧ Kept W w') := Lib.hid fun W u1 u2 k1 k2 => by
                  rw [HST.out]
                  exact refadd02_any u1 u2 _ _ W k1 k2 ⟨Nat.le_trans hsk.1 (by omega), Nat.le_trans hsk.2 (by omega)⟩ ⟨Nat.le_trans hps.1 (by omega), Nat.le_trans hps.2 (by omega)⟩
                obtain ⟨a5, c5, a6, c6, ⟨x0, x1, x2⟩, ⟨f0, f1, f2⟩, hgl, hxa⟩ := HX.out.at
                have HXA := Lib.hid hxa
                generalize (canR (sumQ ss ps j)).neg = z3 at *
                generalize (canR (sumQ ss ps j)).num.length = z4 at *
                generalize (canR (sumQ ss ps j)).den.length = z5 at *
                clear he2 he4 he5 e1 hce hs hsm hsk hps hxa c50 c51 d51
                go_wp2_with fail
                go_region_with (first
                  | (go_at_call 46; (with_reducible refine (HP.out _ (HKw2.out.drew)).mono ?_); rintro e w6 ⟨⟨v6, rfl, hv6⟩, hk6⟩; have hkd := (Kept.refl _).drew.trans hk6; have i0 := hkd.cell x0; have i1 := hkd.cell x1; have i2 := hkd.cell x2; have HX6 := Lib.hid (HX.out.kept hkd); have HXA6 := Lib.hid (HXA.out.kept hkd); have HK6 := Lib.hid (HKq.out.trans hkd); have HV6 := Lib.hid hv6; clear hk6 hkd hv6)
                  | (go_at_call 45; (with_reducible refine (HAD.out _ _ _ HXA6.out HV6.out).mono ?_); rintro e w7 ⟨⟨v7, rfl, hv7⟩, hk7⟩; have HX7 := Lib.hid (HX6.out.kept hk7); have HK7 := Lib.hid (HK6.out.trans hk7); obtain ⟨u7, u8, rfl, k7, k8⟩ := hv7; obtain ⟨a7, c7, rfl⟩ := k7.shape; obtain ⟨a8, c8, rfl⟩ := k8.shape; have K7 := Lib.hid k7; have K8 := Lib.hid k8; obtain ⟨_, _, _, _, ⟨t0, t1, t2⟩, ⟨j0, j1, j2⟩, hgl6, _⟩ := HX7.out.at; clear k7 k8 hk7))
                all_goals
                  have HS := Lib.hid (HX7.out.store K7.out K8.out)
                  generalize (canR (sumQ ss ps (j + 1))).num.length = n7 at *
                  generalize (canR (sumQ ss ps (j + 1))).den.length = n8 at *
                  go_wp2_with fail
                  go_roundg (m - (j + 1))
                  case measure => omega
                  case rel => exact ⟨j + 1, by omega, by go_num, Nat.le_refl _, HS, Lib.hid (((HK7.out.store (Nat.le_refl _) _ _).store (Nat.le_refl _) _ _).store (Nat.le_refl _) _ _)⟩
              · have hje : j = m := by omega
                have hji : ¬ (j : Int) < (m : Int) := by omega
                have HX2 : Hid (RatCell wr w5.heap.size (canR Qr)) := Lib.hid (by rw [HQV.out.2, ← HMS.out, ← hje]; exact HX.out)
                obtain ⟨R, hR⟩ : ∃ R, R = canR Qr := ⟨_, rfl⟩
                have HRR := Lib.hid hR
                rw [← hR] at HX2
                have hrr := HR5.out.kept HKq.out
                have HFF := Lib.hid (HF5.out.kept HKq.out)
                obtain ⟨a5, c5, a6, c6, ⟨x0, x1, x2⟩, _, hgl, u7, u8, e9, k7, k8⟩ := HX2.out.at
                simp only [Value.agg.injEq] at e9
                have e9' := congrArg Array.toList e9
                simp at e9'
                obtain ⟨rfl, rfl⟩ := e9'
                obtain ⟨y0, y1, y2, hra⟩ := rat_stored hrr HFF.out k7 k8
                have g0 := hrr.cell (i := 0) (by simp)
                have g1 := hrr.cell (i := 1) (by simp)
                have g2 := hrr.cell (i := 2) (by simp)
                have f0 := hrr.free 0
                have f1 := hrr.free 1
                have f2 := hrr.free 2
                have hlt5 := hrr.lt
                have HRA := Lib.hid hra
                have Y := Lib.hid (And.intro y0 (And.intro y1 y2))
                clear hra y0 y1 y2 k7 k8 hrr e9 hje hR c50 c51 d51
                generalize R.num.length = n7 at *
                generalize R.den.length = n8 at *
                go_wp2
                refine bodyPost_ret (v := .tuple #[.agg #[.bool R.neg, .slice a5 n7 c5, .slice a6 n8 c6], .int .i64 0]) ?_ rfl ⟨⟨_, by rw [HQV.out.1]; rfl, by rw [← HRR.out]; exact HRA.out⟩, ?_⟩
                · simp [results, Tryz.results16, go_sem, Y.out.1, Y.out.2.1, Y.out.2.2]
                · exact ((HKw2.out.store (by omega) _ _).store (by omega) _ _).store (by omega) _ _
    · subst h1
      have HQV : Hid (Qn = q2 ∧ Qr = 0) := Lib.hid (by
        have h := HQ2.out rfl h2
        injection h with h3 h4
        exact ⟨h3, h4⟩)
      have HE1 : Hid (∀ W, Kept w W → Calls Tryz.prog 43 #[.slice ka kn kc] W fun e w' => e = .returned (.int .i64 0) ∧ Kept W w') := Lib.hid HC1.out
      have hq0 : ((q2 : Int) != 0) = true := by simp [bne]; omega
      have hq9 : ((q2 : Int) == 0) = false := by simp; omega
      clear HC1 HQ1 HQ2 HQ3 h2
      go_enter Tryz.func16, Tryz.ntmps16
      go_wp2_with fail
      rw [← HW2.out]
      refine (HE1.out _ HMD.out.2.2).mono ?_
      rintro e w3 ⟨rfl, hk3⟩
      have b30 := hk3.cell b0
      have b31 := hk3.cell b1
      have HK3 := Lib.hid (HMD.out.2.2.trans hk3)
      have HR3 := Lib.hid (HMD.out.1.kept hk3)
      have HF3 := Lib.hid (HMD.out.2.1.kept hk3)
      clear hk3 b0 b1
      go_wp2_with fail
      refine (HC2.out _ HK3.out).mono ?_
      rintro e w5 ⟨rfl, hk5⟩
      have hr5 := HR3.out.kept hk5
      have HF5 := Lib.hid (HF3.out.kept hk5)
      have HK5 := Lib.hid (HK3.out.trans hk5)
      obtain ⟨y0, y1, y2, hra⟩ := rat_stored (r := ⟨false, [], []⟩) hr5 HF5.out (WdsAt.nil _) (WdsAt.nil _)
      have Y := Lib.hid (And.intro y0 (And.intro y1 y2))
      have HRA := Lib.hid hra
      have g0 := hr5.cell (i := 0) (by simp)
      have g1 := hr5.cell (i := 1) (by simp)
      have g2 := hr5.cell (i := 2) (by simp)
      have f0 := hr5.free 0
      have f1 := hr5.free 1
      have f2 := hr5.free 2
      have hlt5 := hr5.lt
      clear hk5 hr5 y0 y1 y2 hra
      go_wp2
      refine bodyPost_ret (v := .tuple #[.agg #[.bool false, .slice none 0 0, .slice none 0 0], .int .i64 (q2 : Int)]) ?_ rfl ⟨⟨_, by rw [HQV.out.1], by rw [HQV.out.2, canR_zero]; exact HRA.out⟩, ?_⟩
      · simp [results, Tryz.results16, go_sem, Y.out.1, Y.out.2.1, Y.out.2.2]
      · exact ((HK5.out.store (by omega) _ _).store (by omega) _ _).store (by omega) _ _
  · have HQV : Hid (Qn = q1 ∧ Qr = 0) := Lib.hid (by
      have h := HQ1.out h1
      injection h with h3 h4
      exact ⟨h3, h4⟩)
    have hq0 : ((q1 : Int) != 0) = true := by simp [bne]; omega
    have hq9 : ((q1 : Int) == 0) = false := by simp; omega
    clear HC2 HQ1 HQ2 HQ3 h1
    go_enter Tryz.func16, Tryz.ntmps16
    go_wp2_with fail
    rw [← HW2.out]
    refine (HC1.out _ HMD.out.2.2).mono ?_
    rintro e w5 ⟨rfl, hk5⟩
    have hr5 := HMD.out.1.kept hk5
    have HF5 := Lib.hid (HMD.out.2.1.kept hk5)
    have HK5 := Lib.hid (HMD.out.2.2.trans hk5)
    obtain ⟨y0, y1, y2, hra⟩ := rat_stored (r := ⟨false, [], []⟩) hr5 HF5.out (WdsAt.nil _) (WdsAt.nil _)
    have Y := Lib.hid (And.intro y0 (And.intro y1 y2))
    have HRA := Lib.hid hra
    have g0 := hr5.cell (i := 0) (by simp)
    have g1 := hr5.cell (i := 1) (by simp)
    have g2 := hr5.cell (i := 2) (by simp)
    have f0 := hr5.free 0
    have f1 := hr5.free 1
    have f2 := hr5.free 2
    have hlt5 := hr5.lt
    clear hk5 hr5 y0 y1 y2 hra
    go_wp2
    refine bodyPost_ret (v := .tuple #[.agg #[.bool false, .slice none 0 0, .slice none 0 0], .int .i64 (q1 : Int)]) ?_ rfl ⟨⟨_, by rw [HQV.out.1], by rw [HQV.out.2, canR_zero]; exact HRA.out⟩, ?_⟩
    · simp [results, Tryz.results16, go_sem, Y.out.1, Y.out.2.1, Y.out.2.2]
    · exact ((HK5.out.store (by omega) _ _).store (by omega) _ _).store (by omega) _ _
end Go.Proofs.YteodabnjkikogaaGreat

/-
  Walks: faultlinebase.Words, Rat of equal ones.
-/
namespace Go.Proofs.YteodabnjkikogaaGreat
open Go.RowKit

set_option maxRecDepth 100000 in
set_option maxHeartbeats 2000000 in
theorem words_true (xs : List Nat) (va vb : Value) (w : World) (ha : WdsAt w va xs) (hb : WdsAt w vb xs) :
    Calls Tryz.prog 47 #[va, vb] w fun e w' => e = .returned (.bool true) ∧ Kept w w' := by
  have HA := Lib.hid ha
  have HB := Lib.hid hb
  have hl := ha.len
  obtain ⟨a0, c0, rfl⟩ := ha.shape
  obtain ⟨a1, c1, rfl⟩ := hb.shape
  obtain ⟨n, hn⟩ : ∃ n, n = xs.length := ⟨_, rfl⟩
  rw [← hn] at HA HB hl ⊢
  have HN := Lib.hid hn
  clear ha hb hn
  go_enter Tryz.func47, Tryz.ntmps47
  go_wp2
  go_loopg [13] n (fun kx s13 wr => ∃ k : Nat, k ≤ n ∧ s13 = .int .i64 k ∧ n - k ≤ kx ∧ Hid (Kept w wr))
  case atStart => exact ⟨0, Nat.zero_le _, rfl, by omega, Lib.hid (Kept.refl _)⟩
  case round =>
    obtain ⟨k, hk, rfl, hkx, HK⟩ := hrel
    by_cases hlt : k < n
    · have hkl : k < xs.length := by have := HN.out; omega
      obtain ⟨b1, o1, rfl, h1⟩ := HA.out.get k hkl
      obtain ⟨b2, o2, rfl, h2⟩ := HB.out.get k hkl
      have c1' := HK.out.cell h1
      have c2' := HK.out.cell h2
      generalize xs.getD k 0 = x at *
      have hki : (k : Int) < (n : Int) := by omega
      have e1 : ((x : Int) == (x : Int)) = true := by simp
      have e2 : ((x : Int) != (x : Int)) = false := by simp
      clear h1 h2 hkl
      go_wp2
      go_quiet (fail)
      go_wp2
      go_roundg (n - (k + 1))
      case measure => omega
      case rel => exact ⟨k + 1, by omega, by go_num, Nat.le_refl _, Lib.hid (HK.out.drewN _)⟩
    · have hki : ¬ (k : Int) < (n : Int) := by omega
      go_wp2
      go_ret
      exact ⟨rfl, HK.out⟩
set_option maxRecDepth 100000 in
set_option maxHeartbeats 2000000 in
theorem rat_true (va vb : Value) (r : Rw) (w : World) (ha : RatAt w va r) (hb : RatAt w vb r) :
    Calls Tryz.prog 17 #[va, vb] w fun e w' => e = .returned (.bool true) ∧ Kept w w' := by
  obtain ⟨u1, u2, rfl, h1, h2⟩ := ha
  obtain ⟨u3, u4, rfl, h3, h4⟩ := hb
  have HW1 := Lib.hid (fun W (hk : Kept w W) => words_true r.num u1 u3 W (h1.kept hk) (h3.kept hk))
  have HW2 := Lib.hid (fun W (hk : Kept w W) => words_true r.den u2 u4 W (h2.kept hk) (h4.kept hk))
  obtain ⟨a1, c1, rfl⟩ := h1.shape
  obtain ⟨a2, c2, rfl⟩ := h2.shape
  obtain ⟨a3, c3, rfl⟩ := h3.shape
  obtain ⟨a4, c4, rfl⟩ := h4.shape
  generalize r.num.length = n1 at *
  generalize r.den.length = n2 at *
  generalize r.neg = neg at *
  obtain ⟨w2, hw2⟩ : ∃ w2, w2 = (w.alloc (.cells #[.bool neg, .slice a1 n1 c1, .slice a2 n2 c2] 28)).alloc (.cells #[.bool neg, .slice a3 n1 c3, .slice a4 n2 c4] 28) := ⟨_, rfl⟩
  have HK0 : Hid (Kept w w2) := Lib.hid (by rw [hw2]; exact ((Kept.refl w).alloc _).alloc _)
  have p := (RowAt.made w #[.bool neg, .slice a1 n1 c1, .slice a2 n2 c2] 28).kept ((Kept.refl _).alloc (.cells #[.bool neg, .slice a3 n1 c3, .slice a4 n2 c4] 28))
  have q := RowAt.made (w.alloc (.cells #[.bool neg, .slice a1 n1 c1, .slice a2 n2 c2] 28)) #[.bool neg, .slice a3 n1 c3, .slice a4 n2 c4] 28
  rw [World.size_alloc] at q
  rw [← hw2] at p q
  have p0 := p.cell (i := 0) (by simp)
  have p1 := p.cell (i := 1) (by simp)
  have p2 := p.cell (i := 2) (by simp)
  have q0 := q.cell (i := 0) (by simp)
  have q1 := q.cell (i := 1) (by simp)
  have q2 := q.cell (i := 2) (by simp)
  simp only [List.getElem_cons_succ, List.getElem_cons_zero] at p0 p1 p2 q0 q1 q2
  have HW := Lib.hid hw2
  clear h1 h2 h3 h4 hw2 p q
  go_enter Tryz.func17, Tryz.ntmps17
  go_wp2_with fail
  rw [← HW.out]
  refine (HW1.out _ HK0.out).mono ?_
  rintro e w3 ⟨rfl, hk3⟩
  have r2 := hk3.cell p2
  have s2 := hk3.cell q2
  have HK3 := Lib.hid (HK0.out.trans hk3)
  clear hk3
  go_wp2_with fail
  refine (HW2.out _ HK3.out).mono ?_
  rintro e w4 ⟨rfl, hk4⟩
  have HK4 := Lib.hid (HK3.out.trans hk4)
  clear hk4
  go_wp2
  go_ret
  exact ⟨rfl, HK4.out⟩
end Go.Proofs.YteodabnjkikogaaGreat

/-
  Walks: truncate.coherently; ByOrder's closure.
-/
namespace Go.Proofs.YteodabnjkikogaaGreat.Tr
open Go.RowKit

set_option maxRecDepth 100000 in
theorem coher_ok (v : Value) (f : Fm) (V T : Nat) (w : World) (hv : NodesAt w v f.nodes) (hok : Ok f V T) (hck : chkF f = 0) :
    Calls Tryz.prog 30 #[.agg #[.int .i64 V, v, .int .i64 T]] w fun e w' => e = .returned (errV (if synK V T f = true then 0 else 7)) ∧ Kept w w' := by
  have hfm : fmV v f = .agg #[.int .i64 V, v, .int .i64 T] := by unfold fmV; rw [hok.vars, hok.top]
  have HC : Hid (∀ W, Kept w W → Calls Tryz.prog 18 #[.agg #[.int .i64 V, v, .int .i64 T]] W fun e w' => e = .returned .nilIface ∧ Kept W w') := Lib.hid fun W hk => by
    have h := check_any v f W (hv.kept hk) (by rw [hok.top]; have := hok.tlt; have := hok.n128; have := hok.v24; omega)
    rw [hck, hfm] at h
    exact h
  have HSY := Lib.hid (fun W (hk : Kept w W) => syntax_ok v f V T W (hv.kept hk) hok hck)
  obtain ⟨b, hb⟩ : ∃ b, b = synK V T f := ⟨_, rfl⟩
  rw [← hb] at HSY ⊢
  obtain ⟨a, c, rfl, hrest⟩ := hv
  clear hrest hok hck hfm hb
  generalize f.nodes.length = n at *
  cases b with
  | true =>
    rw [if_pos rfl, errV_zero]
    go_enter Tryz.func30, Tryz.ntmps30
    go_wp2_with (go_at_call 18; refine (HC.out _ ((Kept.refl _).alloc _)).mono ?_; rintro e w1 ⟨rfl, hk1⟩; obtain ⟨c0, c1, c2⟩ := fm_cells hk1; have K1 := Lib.hid (((Kept.refl _).alloc _).trans hk1); clear hk1)
    refine (HSY.out _ K1.out).mono ?_
    rintro e w2 ⟨rfl, hk2⟩
    go_wp2
    go_ret
    exact ⟨rfl, K1.out.trans hk2⟩
  | false =>
    rw [if_neg (by decide), errV_pos (by decide)]
    go_enter Tryz.func30, Tryz.ntmps30
    go_wp2_with (go_at_call 18; refine (HC.out _ ((Kept.refl _).alloc _)).mono ?_; rintro e w1 ⟨rfl, hk1⟩; obtain ⟨c0, c1, c2⟩ := fm_cells hk1; have K1 := Lib.hid (((Kept.refl _).alloc _).trans hk1); clear hk1)
    refine (HSY.out _ K1.out).mono ?_
    rintro e w2 ⟨rfl, hk2⟩
    go_wp2
    go_ret
    exact ⟨rfl, K1.out.trans hk2⟩
/-- Too many events. -/
def overP (k : Int) (e : Nat) : Bool := decide (k < pc e)
set_option maxRecDepth 100000 in
theorem over_any (k : Int) (e bk : Nat) (w : World) (hk : w.cell? ⟨bk, 0, none⟩ = some (.int .i64 k)) (he : Mk e) :
    Calls Tryz.prog 62 #[.int .i64 e, .pointer (some ⟨bk, 0, none⟩)] w fun e' w' => e' = .returned (.bool (overP k e)) ∧ Kept w w' := by
  have HC : Hid (∀ W, Calls Tryz.prog 63 #[.int .i64 e] W fun e' w' => e' = .returned (.int .i64 (pc e)) ∧ W = w') := Lib.hid fun W => (count_any he W).mono fun _ _ h => ⟨h.1, h.2⟩
  unfold overP
  generalize pc e = q at *
  have hk2 := ((Kept.refl w).drew).cell hk
  clear he
  go_enter Tryz.func62, Tryz.ntmps62
  go_wp2
  go_region_with (go_at_call 63; (with_reducible refine (HC.out _).mono ?_); rintro e w3 ⟨rfl, rfl⟩)
  all_goals go_wp2
  all_goals go_ret
  all_goals exact ⟨rfl, (Kept.refl _).drew⟩
end Go.Proofs.YteodabnjkikogaaGreat.Tr

/-
  Walks: the rows of truncate: flip, node, within, size.
-/
namespace Go.Proofs.YteodabnjkikogaaGreat
open Go.RowKit

set_option maxRecDepth 100000 in
theorem tflip_lo_on (e l h j : Nat) (hl : l < 18446744073709551616) (hj : j < 64) (w : World) (y : Nat) (hy : y = l ||| 2 ^ j) :
    Calls Tryz.prog 125 #[.agg #[.int .i64 e, .int .u64 l, .int .u64 h], .int .i64 (j : Nat), .bool true] w fun e' w' => e' = .returned (.agg #[.int .i64 e, .int .u64 y, .int .u64 h]) ∧ Kept w w' := by
  obtain ⟨i, hi⟩ : ∃ i, i = j := ⟨_, rfl⟩
  rw [← hi]
  have q4 : ¬ (j : Int) < 0 := by omega
  have p1 := pow_u64 j hj
  have hp := pow_lt64 hj
  obtain ⟨z, hz⟩ : ∃ z, z = 2 ^ j := ⟨_, rfl⟩
  rw [← hz] at p1 hp hy
  have p2 := or_u64 l z hl hp
  rw [← hy] at p2
  clear hz hy
  subst hi
  have g1 : ¬ 64 ≤ (i : Int) := by omega
  go_enter Tryz.func125, Tryz.ntmps125
  go_wp2
  go_region
  all_goals go_wp2
  all_goals exact bodyPost_ret (v := .agg #[.int .i64 e, .int .u64 y, .int .u64 h]) (by simp [results, Tryz.results125, go_sem]) rfl ⟨rfl, by repeat (first | exact Kept.refl _ | apply Kept.drew | apply Kept.alloc | refine Kept.store ?_ (by simp) _ _)⟩
set_option maxRecDepth 100000 in
theorem tflip_hi_on (e l h j : Nat) (hl : h < 18446744073709551616) (hj : j < 64) (w : World) (y : Nat) (hy : y = h ||| 2 ^ j) :
    Calls Tryz.prog 125 #[.agg #[.int .i64 e, .int .u64 l, .int .u64 h], .int .i64 (64 + j : Nat), .bool true] w fun e' w' => e' = .returned (.agg #[.int .i64 e, .int .u64 l, .int .u64 y]) ∧ Kept w w' := by
  obtain ⟨i, hi⟩ : ∃ i, i = 64 + j := ⟨_, rfl⟩
  rw [← hi]
  have q4 : ¬ (j : Int) < 0 := by omega
  have p1 := pow_u64 j hj
  have hp := pow_lt64 hj
  obtain ⟨z, hz⟩ : ∃ z, z = 2 ^ j := ⟨_, rfl⟩
  rw [← hz] at p1 hp hy
  have p2 := or_u64 h z hl hp
  rw [← hy] at p2
  clear hz hy
  have g1 : 64 ≤ (i : Int) := by omega
  have g2 : (i : Int) - 64 = (j : Int) := by omega
  have g3 : IntKind.i64.wrap ((i : Int) - 64) = (j : Int) := by rw [IntKind.wrap_i64]; omega
  clear hi
  go_enter Tryz.func125, Tryz.ntmps125
  go_wp2
  go_region
  all_goals go_wp2
  all_goals exact bodyPost_ret (v := .agg #[.int .i64 e, .int .u64 l, .int .u64 y]) (by simp [results, Tryz.results125, go_sem]) rfl ⟨rfl, by repeat (first | exact Kept.refl _ | apply Kept.drew | apply Kept.alloc | refine Kept.store ?_ (by simp) _ _)⟩
set_option maxRecDepth 100000 in
theorem tflip_lo_off (e l h j : Nat) (hl : l < 18446744073709551616) (hj : j < 64) (w : World) (y : Nat) (hy : y = sdiff l (2 ^ j)) :
    Calls Tryz.prog 125 #[.agg #[.int .i64 e, .int .u64 l, .int .u64 h], .int .i64 (j : Nat), .bool false] w fun e' w' => e' = .returned (.agg #[.int .i64 e, .int .u64 y, .int .u64 h]) ∧ Kept w w' := by
  obtain ⟨i, hi⟩ : ∃ i, i = j := ⟨_, rfl⟩
  rw [← hi]
  have q4 : ¬ (j : Int) < 0 := by omega
  have p1 := pow_u64 j hj
  have hp := pow_lt64 hj
  obtain ⟨z, hz⟩ : ∃ z, z = 2 ^ j := ⟨_, rfl⟩
  rw [← hz] at p1 hp hy
  have p2 := andNot_u64 l z hl hp
  rw [← hy] at p2
  clear hz hy
  subst hi
  have g1 : ¬ 64 ≤ (i : Int) := by omega
  go_enter Tryz.func125, Tryz.ntmps125
  go_wp2
  go_region
  all_goals go_wp2
  all_goals exact bodyPost_ret (v := .agg #[.int .i64 e, .int .u64 y, .int .u64 h]) (by simp [results, Tryz.results125, go_sem]) rfl ⟨rfl, by repeat (first | exact Kept.refl _ | apply Kept.drew | apply Kept.alloc | refine Kept.store ?_ (by simp) _ _)⟩
set_option maxRecDepth 100000 in
theorem tflip_hi_off (e l h j : Nat) (hl : h < 18446744073709551616) (hj : j < 64) (w : World) (y : Nat) (hy : y = sdiff h (2 ^ j)) :
    Calls Tryz.prog 125 #[.agg #[.int .i64 e, .int .u64 l, .int .u64 h], .int .i64 (64 + j : Nat), .bool false] w fun e' w' => e' = .returned (.agg #[.int .i64 e, .int .u64 l, .int .u64 y]) ∧ Kept w w' := by
  obtain ⟨i, hi⟩ : ∃ i, i = 64 + j := ⟨_, rfl⟩
  rw [← hi]
  have q4 : ¬ (j : Int) < 0 := by omega
  have p1 := pow_u64 j hj
  have hp := pow_lt64 hj
  obtain ⟨z, hz⟩ : ∃ z, z = 2 ^ j := ⟨_, rfl⟩
  rw [← hz] at p1 hp hy
  have p2 := andNot_u64 h z hl hp
  rw [← hy] at p2
  clear hz hy
  have g1 : 64 ≤ (i : Int) := by omega
  have g2 : (i : Int) - 64 = (j : Int) := by omega
  have g3 : IntKind.i64.wrap ((i : Int) - 64) = (j : Int) := by rw [IntKind.wrap_i64]; omega
  clear hi
  go_enter Tryz.func125, Tryz.ntmps125
  go_wp2
  go_region
  all_goals go_wp2
  all_goals exact bodyPost_ret (v := .agg #[.int .i64 e, .int .u64 l, .int .u64 y]) (by simp [results, Tryz.results125, go_sem]) rfl ⟨rfl, by repeat (first | exact Kept.refl _ | apply Kept.drew | apply Kept.alloc | refine Kept.store ?_ (by simp) _ _)⟩
theorem twithin_any {a b : Nat} (ha : RowLt 152 a) (hb : RowLt 152 b) (w : World) : Calls Tryz.prog 131 #[rowV a, rowV b] w fun e w' => e = .returned (.bool (subN a b)) ∧ ∃ C O, w' = (w.alloc C).alloc O := by
  have b1 := sub_i64 (evW a) (evW b) (by have := evW_lt a; omega) (by have := evW_lt b; omega)
  have b2 := sub_u64 (loW a) (loW b) (loW_lt a) (loW_lt b)
  have b3 := sub_u64 (hiW a) (hiW b) (hiW_lt ha) (hiW_lt hb)
  rw [sub_row]
  generalize subN (evW a) (evW b) = x1 at *
  generalize subN (loW a) (loW b) = x2 at *
  generalize subN (hiW a) (hiW b) = x3 at *
  unfold rowV
  generalize evW a = ea at *
  generalize evW b = eb at *
  generalize loW a = la at *
  generalize loW b = lb at *
  generalize hiW a = za at *
  generalize hiW b = zb at *
  clear ha hb
  cases x1 with
  | false =>
    go_enter Tryz.func131, Tryz.ntmps131
    go_wp2
    go_ret
    exact ⟨rfl, _, _, rfl⟩
  | true =>
    cases x2 with
    | false =>
      go_enter Tryz.func131, Tryz.ntmps131
      go_wp2
      go_ret
      exact ⟨rfl, _, _, rfl⟩
    | true =>
      go_enter Tryz.func131, Tryz.ntmps131
      go_wp2
      go_ret
      exact ⟨by cases x3 <;> rfl, _, _, rfl⟩
theorem tsize_any {c : Nat} (hc : RowLt 152 c) (w : World) : Calls Tryz.prog 128 #[rowV c] w fun e w' => e = .returned (.int .i64 (pc c)) ∧ ∃ C n, w' = (w.alloc C).drewN n := by
  have h1 : ∀ W, Calls Tryz.prog 63 #[.int .i64 (evW c)] W fun e w' => e = .returned (.int .i64 (pc (evW c))) ∧ w' = W := fun W => (count_any (evW_lt c) W).mono fun _ _ h => ⟨h.1, h.2.symm⟩
  have h2 : ∀ W, Calls Tryz.prog 177 #[.int .u64 (loW c)] W fun e w' => e = .returned (.int .i64 (pc (loW c))) ∧ w' = W := fun W => (ones64_any _ W).mono fun _ _ h => ⟨by rw [h.1, pcS_word _ (loW_lt c)], h.2.symm⟩
  have h3 : ∀ W, Calls Tryz.prog 177 #[.int .u64 (hiW c)] W fun e w' => e = .returned (.int .i64 (pc (hiW c))) ∧ w' = W := fun W => (ones64_any _ W).mono fun _ _ h => ⟨by rw [h.1, pcS_word _ (hiW_lt hc)], h.2.symm⟩
  have e1 := pc_lt 24 (evW c) (evW_lt c)
  have e2 := pc_lt 64 (loW c) (loW_lt c)
  have e3 := pc_lt 64 (hiW c) (hiW_lt hc)
  rw [pc_row c]
  unfold rowV
  generalize pc (evW c) = p1 at *
  generalize pc (loW c) = p2 at *
  generalize pc (hiW c) = p3 at *
  generalize evW c = ea at *
  generalize loW c = la at *
  generalize hiW c = za at *
  have H1 := Lib.hid h1
  have H2 := Lib.hid h2
  have H3 := Lib.hid h3
  have w1 : IntKind.i64.wrap ((p1 : Int) + (p2 : Int)) = (p1 : Int) + (p2 : Int) := by rw [IntKind.wrap_i64]; omega
  have w2 : IntKind.i64.wrap ((p1 : Int) + (p2 : Int) + (p3 : Int)) = (p1 : Int) + (p2 : Int) + (p3 : Int) := by rw [IntKind.wrap_i64]; omega
  clear h1 h2 h3 hc
  go_enter Tryz.func128, Tryz.ntmps128
  go_wp2
  go_quiet ((first | (go_at_call 63; exact Calls.quiet_of_same (H1.out _)) | (go_at_call 177; (with_reducible exact Calls.quiet_of_same (H2.out _))) | (go_at_call 177; (with_reducible exact Calls.quiet_of_same (H3.out _)))))
  go_wp2
  go_ret
  exact ⟨by simp, _, _, rfl⟩
end Go.Proofs.YteodabnjkikogaaGreat

/-
  Walks: slices.SortStableFunc at the rows of truncate: the closure, insertionSort's contract laid, swapRange, rotate.
-/
namespace Go.Proofs.YteodabnjkikogaaGreat.Tr
open Go.Shelf Go.RowKit Go.Lib Go.Sort

def rcells (c : Nat) : List Value := [.int .i64 (evW c), .int .u64 (loW c), .int .u64 (hiW c)]
/-- A number as a row: its low bits. -/
def lowR (c : Nat) : Nat := c % 5708990770823839524233143877797980545530986496
theorem lowR_lt (c : Nat) : RowLt 152 (lowR c) := rowLt_of_num (Nat.lt_of_lt_of_le (Nat.mod_lt _ (by decide)) (by decide))
theorem lowR_of {c : Nat} (h : RowLt 152 c) : lowR c = c := Nat.mod_eq_of_lt (Nat.lt_of_lt_of_le (rowLt_num h) (by decide))
def encR (c : Nat) : List Value := rcells (lowR c)
def cfR (a b : Nat) : Int := (pc (lowR a) : Int) - (pc (lowR b) : Int)
theorem ltR (a b : Nat) : ltOf cfR a b = decide (pc (lowR a) < pc (lowR b)) := by
  unfold ltOf cfR
  rw [decide_eq_decide]; omega
theorem swoR : SWO (ltOf cfR) where
  irrefl x := by rw [ltR]; simp
  trans x y z h1 h2 := by rw [ltR] at *; simp at *; omega
  ntrans x y z h1 h2 := by rw [ltR] at *; simp at *; omega
theorem drewN_alloc_grow (w : World) (C : Obj) (n : Nat) : (w.alloc C).drewN n = grow (w.drewN n) #[C] := by
  rw [alloc_eq_grow]; rfl
theorem grow_two (W : World) (X Y : Obj) (n : Nat) (os : Array Obj) : grow (((W.alloc X).alloc Y).drewN n) os = grow (W.drewN n) (#[X] ++ (#[Y] ++ os)) := by
  rw [alloc_eq_grow, alloc_eq_grow]
  show grow (grow (grow (W.drewN n) #[X]) #[Y]) os = _
  rw [grow_grow, grow_grow]
set_option maxRecDepth 100000 in
theorem leastCmp (x y : Nat) (W : World) : Calls Tryz.prog 127 #[.agg (encR x).toArray, .agg (encR y).toArray] W fun e w' => e = .returned (.int .i64 (cfR x y)) ∧ ∃ q os', w' = grow (W.drewN q) os' := by
  have hx : ∀ W', Calls Tryz.prog 128 #[.agg (encR x).toArray] W' fun e w' => e = .returned (.int .i64 (pc (lowR x))) ∧ ∃ q os', w' = grow (W'.drewN q) os' := fun W' => (tsize_any (lowR_lt x) W').mono fun _ _ ⟨h1, C, n, h2⟩ => ⟨h1, n, _, h2.trans (drewN_alloc_grow W' C n)⟩
  have hy : ∀ W', Calls Tryz.prog 128 #[.agg (encR y).toArray] W' fun e w' => e = .returned (.int .i64 (pc (lowR y))) ∧ ∃ q os', w' = grow (W'.drewN q) os' := fun W' => (tsize_any (lowR_lt y) W').mono fun _ _ ⟨h1, C, n, h2⟩ => ⟨h1, n, _, h2.trans (drewN_alloc_grow W' C n)⟩
  have bx := pc_lt 152 (lowR x) (rowLt_num (lowR_lt x))
  have by' := pc_lt 152 (lowR y) (rowLt_num (lowR_lt y))
  unfold cfR
  unfold encR rcells at *
  generalize pc (lowR x) = px at *
  generalize pc (lowR y) = py at *
  generalize evW (lowR x) = x0 at *
  generalize loW (lowR x) = x1 at *
  generalize hiW (lowR x) = x2 at *
  generalize evW (lowR y) = y0 at *
  generalize loW (lowR y) = y1 at *
  generalize hiW (lowR y) = y2 at *
  have w1 : IntKind.i64.wrap ((px : Int) - (py : Int)) = (px : Int) - (py : Int) := by rw [IntKind.wrap_i64]; omega
  have mixed : Tryz.prog.follows .mixedOrders = true := by kernel_rfl
  have cx : ∀ n os, (grow ((((W.alloc (.cells #[.int .i64 x0, .int .u64 x1, .int .u64 x2] 103)).alloc (.cells #[.int .i64 y0, .int .u64 y1, .int .u64 y2] 103))).drewN n) os).cell? ⟨W.heap.size, 0, none⟩ = some (.int .i64 x0) ∧ (grow ((((W.alloc (.cells #[.int .i64 x0, .int .u64 x1, .int .u64 x2] 103)).alloc (.cells #[.int .i64 y0, .int .u64 y1, .int .u64 y2] 103))).drewN n) os).cell? ⟨W.heap.size, 1, none⟩ = some (.int .u64 x1) ∧ (grow ((((W.alloc (.cells #[.int .i64 x0, .int .u64 x1, .int .u64 x2] 103)).alloc (.cells #[.int .i64 y0, .int .u64 y1, .int .u64 y2] 103))).drewN n) os).cell? ⟨W.heap.size, 2, none⟩ = some (.int .u64 x2) := fun n os => by
    refine ⟨?_, ?_, ?_⟩ <;> (rw [cell?_grow _ _ _ (by simp; omega)]; simp)
  have cy : ∀ n os, (grow ((((W.alloc (.cells #[.int .i64 x0, .int .u64 x1, .int .u64 x2] 103)).alloc (.cells #[.int .i64 y0, .int .u64 y1, .int .u64 y2] 103))).drewN n) os).cell? ⟨W.heap.size + 1, 0, none⟩ = some (.int .i64 y0) ∧ (grow ((((W.alloc (.cells #[.int .i64 x0, .int .u64 x1, .int .u64 x2] 103)).alloc (.cells #[.int .i64 y0, .int .u64 y1, .int .u64 y2] 103))).drewN n) os).cell? ⟨W.heap.size + 1, 1, none⟩ = some (.int .u64 y1) ∧ (grow ((((W.alloc (.cells #[.int .i64 x0, .int .u64 x1, .int .u64 x2] 103)).alloc (.cells #[.int .i64 y0, .int .u64 y1, .int .u64 y2] 103))).drewN n) os).cell? ⟨W.heap.size + 1, 2, none⟩ = some (.int .u64 y2) := fun n os => by
    refine ⟨?_, ?_, ?_⟩ <;> (rw [cell?_grow _ _ _ (by simp)]; simp)
  have HX : Hid _ := hx
  have HY : Hid _ := hy
  clear hx hy
  show Calls Tryz.prog 127 #[.agg #[.int .i64 x0, .int .u64 x1, .int .u64 x2], .agg #[.int .i64 y0, .int .u64 y1, .int .u64 y2]] W _
  go_enter Tryz.func127, Tryz.ntmps127
  go_wp2
  go_quiet_grown (first | (go_at_call 128; (with_reducible refine Calls.grown_of (HX.out _))) | (go_at_call 128; (with_reducible refine Calls.grown_of (HY.out _))))
  go_wp2
  go_ret
  exact ⟨rfl, nq, _, grow_two _ _ _ _ _⟩
end Go.Proofs.YteodabnjkikogaaGreat.Tr

/-
  Slices of rows of truncate. Walk: topdown.greatest.
-/
namespace Go.Proofs.YteodabnjkikogaaGreat.Tr
open Go.RowKit

/-- A slice of rows that can be read. -/
def RwsAt (w : World) (v : Value) (L : List Nat) : Prop :=
  ∃ (a : Option Addr) (c : Nat), v = .slice a L.length c ∧ (L.length ≤ c ∧ (a = none → c = 0)) ∧ L.length ≤ 10000 ∧ (∀ c ∈ L, RowLt 152 c) ∧
    ∀ i (h : i < L.length), ∃ b o, a = some ⟨b, o, none⟩ ∧ w.rangeAt b (o + i * 3) (rcells L[i])
theorem range_kept {w w' : World} {b o : Nat} {cs : List Value} (h : w.rangeAt b o cs) (hk : Kept w w') : w'.rangeAt b o cs := fun j v hj => hk.cell (h j v hj)
theorem RwsAt.kept {w w' : World} {v : Value} {L : List Nat} (h : RwsAt w v L) (hk : Kept w w') : RwsAt w' v L := by
  obtain ⟨a, c, h1, h2, h3, h4, h5⟩ := h
  exact ⟨a, c, h1, h2, h3, h4, fun i hi => let ⟨b, o, h6, h7⟩ := h5 i hi; ⟨b, o, h6, range_kept h7 hk⟩⟩
/-- Rows of the call's own. -/
def OwnRws (w : World) (B : Nat) (v : Value) (L : List Nat) : Prop :=
  w.ownsRow B 103 3 v L.length (L.flatMap rcells) ∧ L.length ≤ 10000 ∧ ∀ c ∈ L, RowLt 152 c
theorem OwnRws.kept {w w' : World} {B : Nat} {v : Value} {L : List Nat} (h : OwnRws w B v L) (hk : Kept w w') : OwnRws w' B v L := ⟨own_kept h.1 hk, h.2⟩
theorem OwnRws.mono {w : World} {B B' : Nat} {v : Value} {L : List Nat} (h : OwnRws w B v L) (hb : B' ≤ B) : OwnRws w B' v L := ⟨own_mono h.1 hb, h.2⟩
theorem OwnRws.nil (w : World) (B : Nat) : OwnRws w B (.slice none 0 0) [] := ⟨World.ownsRow_nil _ _ _ _, by simp, by simp⟩
theorem len_flat (L : List Nat) : (L.flatMap rcells).length = L.length * 3 := by
  induction L with
  | nil => rfl
  | cons c L ih => simp [rcells, ih]; omega
theorem flat_get (L : List Nat) : ∀ i (h : i < L.length) j, j < 3 → (L.flatMap rcells)[i * 3 + j]? = (rcells L[i])[j]? := by
  induction L with
  | nil => intro i h; simp at h
  | cons c L ih =>
    intro i h j hj
    rw [List.flatMap_cons]
    cases i with
    | zero => rw [List.getElem?_append_left (by simp [rcells]; omega)]; simp
    | succ i =>
      rw [List.getElem?_append_right (by simp [rcells]; omega), show (rcells c).length = 3 from rfl, show (i + 1) * 3 + j - 3 = i * 3 + j by omega]
      exact ih i (by simpa using h) j hj
theorem OwnRws.at {w : World} {B : Nat} {v : Value} {L : List Nat} (h : OwnRws w B v L) : RwsAt w v L := by
  obtain ⟨⟨h1, h2⟩, h3, h4⟩ := h
  rcases h2 with ⟨rfl, h6⟩ | ⟨g, cap, cur, rfl, h6, h7, h8, h9, h10, h11⟩
  · have : L = [] := List.eq_nil_of_length_eq_zero h6
    subst this
    exact ⟨none, 0, rfl, ⟨by simp, fun _ => rfl⟩, by simp, by simp, fun i h => by simp at h⟩
  · refine ⟨some ⟨g, 0, none⟩, cap, rfl, ⟨h8, fun h => by cases h⟩, h3, h4, fun i hi => ⟨g, 0, rfl, fun j u hj => ?_⟩⟩
    have hj3 : j < 3 := by
      have := (List.getElem?_eq_some_iff.1 hj).1
      simpa [rcells] using this
    have e1 : (cur.toList.take (L.length * 3))[i * 3 + j]? = (L.flatMap rcells)[i * 3 + j]? := by rw [h11]
    rw [List.getElem?_take_of_lt (by omega), flat_get L i hi j hj3, hj] at e1
    simp only [World.cell?, h7, Nat.zero_add]
    simpa using e1
theorem RwsAt.shape {w : World} {v : Value} {L : List Nat} (h : RwsAt w v L) : ∃ a c, v = .slice a L.length c := by
  obtain ⟨a, c, h, _⟩ := h; exact ⟨a, c, h⟩
end Go.Proofs.YteodabnjkikogaaGreat.Tr
