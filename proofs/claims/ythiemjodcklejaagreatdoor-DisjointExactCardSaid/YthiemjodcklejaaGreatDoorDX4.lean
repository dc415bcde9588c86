import Derived.WalkKit
import Derived.WalkSpells
import Derived.WalkLawsBesides
import Derived.Deep.QuietTactic
import Derived.BigQuiet
import Derived.Lib.Hide
import Derived.Shelf.Abstract
import Derived.Deep.RegionWith
import Derived.Laws.AppendOwnNone
import Derived.Lib.AppendZerosOnto
import Derived.Lib.SliceRun
import Derived.Lib.SlicesCompact
import Derived.Shelf.SlSortCmp.NoneTotal
import Derived.Maps.OwnOps
import Derived.Maps.OwnSet
import Derived.Maps.Views
import Derived.Deep.MidRow
import Derived.Deep.RegionHeld3
import Derived.Deep.AppendLies
import Derived.Deep.RegionLaw
import Derived.IntWalk
import Derived.StillTailTactics
import Derived.RegionTactic
import Derived.BigRegion
import Derived.ChangeAlike
import Derived.Sort.LotD2
import Derived.Sort.LotA
import Derived.Shelf.SlSortCmp.PdqK
import Derived.Deep.DeepCutAuto
import Derived.Test.YthiemjodcklejaaGreatDoorDX3
import Derived.Test.YthiemjodcklejaaGreatDoorShelf
import Derived.Lib.ItoaNum
import Derived.Deep.LoopGhost
import Derived.Test.YthiemjodcklejaaGreatDoorDX1
import Derived.Test.YthiemjodcklejaaGreatDoorDX2
import Derived.ProofKit
import Derived.OpenShut
import Derived.SizedLaws
import Derived.Lib.SmallJoins
import Derived.Deep.Slices
import Derived.Deep.Fields
import Derived.Deep.Strs
import Derived.Carry
/-
  Slices of rows of topdown. Walk: topdown.greatest.
-/
namespace Go.Proofs.YthiemjodcklejaaGreatDoor
open Go.RowKit

/-- A slice of rows that can be read. -/
def RwsAt (w : World) (v : Value) (L : List Nat) : Prop :=
  ∃ (a : Option Addr) (c : Nat), v = .slice a L.length c ∧ (L.length ≤ c ∧ (a = none → c = 0)) ∧ L.length ≤ 10000 ∧ (∀ c ∈ L, RowLt 152 c) ∧
    ∀ i (h : i < L.length), ∃ b o, a = some ⟨b, o, none⟩ ∧ w.rangeAt b (o + i * 3) (rcells L[i])
theorem range_kept {w w' : World} {b o : Nat} {cs : List Value} (h : w.rangeAt b o cs) (hk : Kept w w') : w'.rangeAt b o cs := fun j v hj => hk.cell (h j v hj)
theorem RwsAt.kept {w w' : World} {v : Value} {L : List Nat} (h : RwsAt w v L) (hk : Kept w w') : RwsAt w' v L := by
  obtain ⟨a, c, h1, h2, h3, h4, h5⟩ := h
  exact ⟨a, c, h1, h2, h3, h4, fun i hi => let ⟨b, o, h6, h7⟩ := h5 i hi; ⟨b, o, h6, range_kept h7 hk⟩⟩
/-- Rows of the call's own. -/
def OwnRws (w : World) (B : Nat) (v : Value) (L : List Nat) : Prop :=
  w.ownsRow B 121 3 v L.length (L.flatMap rcells) ∧ L.length ≤ 10000 ∧ ∀ c ∈ L, RowLt 152 c
theorem OwnRws.kept {w w' : World} {B : Nat} {v : Value} {L : List Nat} (h : OwnRws w B v L) (hk : Kept w w') : OwnRws w' B v L := ⟨own_kept h.1 hk, h.2⟩
theorem OwnRws.mono {w : World} {B B' : Nat} {v : Value} {L : List Nat} (h : OwnRws w B v L) (hb : B' ≤ B) : OwnRws w B' v L := ⟨own_mono h.1 hb, h.2⟩
theorem OwnRws.nil (w : World) (B : Nat) : OwnRws w B (.slice none 0 0) [] := ⟨World.ownsRow_nil _ _ _ _, by simp, by simp⟩
theorem len_flat (L : List Nat) : (L.flatMap rcells).length = L.length * 3 := by
  induction L with
  | nil => rfl
  | cons c L ih => simp [rcells, ih]; omega
theorem flat_get (L : List Nat) : ∀ i (h : i < L.length) j, j < 3 → (L.flatMap rcells)[i * 3 + j]? = (rcells L[i])[j]? := by
  induction L with
  | nil => intro i h; simp at h
  | cons c L ih =>
    intro i h j hj
    rw [List.flatMap_cons]
    cases i with
    | zero => rw [List.getElem?_append_left (by simp [rcells]; omega)]; simp
    | succ i =>
      rw [List.getElem?_append_right (by simp [rcells]; omega), show (rcells c).length = 3 from rfl, show (i + 1) * 3 + j - 3 = i * 3 + j by omega]
      exact ih i (by simpa using h) j hj
theorem OwnRws.at {w : World} {B : Nat} {v : Value} {L : List Nat} (h : OwnRws w B v L) : RwsAt w v L := by
  obtain ⟨⟨h1, h2⟩, h3, h4⟩ := h
  rcases h2 with ⟨rfl, h6⟩ | ⟨g, cap, cur, rfl, h6, h7, h8, h9, h10, h11⟩
  · have : L = [] := List.eq_nil_of_length_eq_zero h6
    subst this
    exact ⟨none, 0, rfl, ⟨by simp, fun _ => rfl⟩, by simp, by simp, fun i h => by simp at h⟩
  · refine ⟨some ⟨g, 0, none⟩, cap, rfl, ⟨h8, fun h => by cases h⟩, h3, h4, fun i hi => ⟨g, 0, rfl, fun j u hj => ?_⟩⟩
    have hj3 : j < 3 := by
      have := (List.getElem?_eq_some_iff.1 hj).1
      simpa [rcells] using this
    have e1 : (cur.toList.take (L.length * 3))[i * 3 + j]? = (L.flatMap rcells)[i * 3 + j]? := by rw [h11]
    rw [List.getElem?_take_of_lt (by omega), flat_get L i hi j hj3, hj] at e1
    simp only [World.cell?, h7, Nat.zero_add]
    simpa using e1
theorem RwsAt.shape {w : World} {v : Value} {L : List Nat} (h : RwsAt w v L) : ∃ a c, v = .slice a L.length c := by
  obtain ⟨a, c, h, _⟩ := h; exact ⟨a, c, h⟩
/-- The greatest node of a row. -/
def TopIs (c : Nat) (r : Int) : Prop := (∀ j, c.testBit (24 + j) = true → (j : Int) ≤ r) ∧ (r = -1 ∨ ∃ i : Nat, r = i ∧ c.testBit (24 + i) = true)
def GTop (L : List Nat) (r : Int) : Prop := (∀ c ∈ L, ∀ j, c.testBit (24 + j) = true → (j : Int) ≤ r) ∧ (r = -1 ∨ ∃ i : Nat, r = i ∧ ∃ c ∈ L, c.testBit (24 + i) = true)
theorem bitLen_top {x : Nat} (h : x < 18446744073709551616) (h0 : x ≠ 0) : ∃ n, Lib.bitLen x = n + 1 ∧ n < 64 ∧ x.testBit n = true ∧ ∀ j, x.testBit j = true → j ≤ n := by
  obtain ⟨h1, h2, h3⟩ := Lib.bitLenAux_bounds 64 x h h0
  have h4 := Lib.bitLen_le x 64 (by omega) h
  unfold Lib.bitLen at *
  obtain ⟨n, hn⟩ : ∃ n, Lib.bitLenAux 64 x = n + 1 := ⟨Lib.bitLenAux 64 x - 1, by omega⟩
  rw [hn] at h2 h3 h4
  refine ⟨n, hn, by omega, ?_, fun j hj => ?_⟩
  · have h2' : 2 ^ n ≤ x := h2
    obtain ⟨i, hi, hb⟩ := Nat.exists_ge_and_testBit_of_ge_two_pow h2'
    by_cases e : i = n
    · subst e; exact hb
    · rw [Nat.testBit_lt_two_pow (Nat.lt_of_lt_of_le h3 (Nat.pow_le_pow_right (by omega) (by omega)))] at hb; cases hb
  · apply Nat.le_of_not_lt
    intro hlt
    rw [Nat.testBit_lt_two_pow (Nat.lt_of_lt_of_le h3 (Nat.pow_le_pow_right (by omega) (by omega)))] at hj; cases hj
theorem topIs_hi {c n : Nat} (h1 : (hiW c).testBit n = true) (h2 : ∀ j, (hiW c).testBit j = true → j ≤ n) : TopIs c ((64 + n : Nat) : Int) := by
  refine ⟨fun j hj => ?_, .inr ⟨64 + n, rfl, by rw [hiW_bit] at h1; rw [show 24 + (64 + n) = 88 + n by omega]; exact h1⟩⟩
  by_cases c1 : j < 64
  · omega
  · have := h2 (j - 64) (by rw [hiW_bit, show 88 + (j - 64) = 24 + j by omega]; exact hj)
    omega
theorem topIs_lo {c n : Nat} (h0 : hiW c = 0) (h1 : (loW c).testBit n = true) (h2 : ∀ j, (loW c).testBit j = true → j ≤ n) : TopIs c (n : Int) := by
  have hn : n < 64 := by rw [loW_bit] at h1; simp at h1; exact h1.1
  refine ⟨fun j hj => ?_, .inr ⟨n, rfl, by rw [loW_bit] at h1; simp at h1; exact h1.2⟩⟩
  by_cases c1 : j < 64
  · have := h2 j (by rw [loW_bit]; simp [c1, hj])
    omega
  · have h3 : (hiW c).testBit (j - 64) = true := by rw [hiW_bit, show 88 + (j - 64) = 24 + j by omega]; exact hj
    rw [h0] at h3; simp at h3
theorem topIs_none {c : Nat} (h0 : hiW c = 0) (h1 : loW c = 0) : TopIs c (-1) := by
  refine ⟨fun j hj => ?_, .inl rfl⟩
  exfalso
  by_cases c1 : j < 64
  · have h3 : (loW c).testBit j = true := by rw [loW_bit]; simp [c1, hj]
    rw [h1] at h3; simp at h3
  · have h3 : (hiW c).testBit (j - 64) = true := by rw [hiW_bit, show 88 + (j - 64) = 24 + j by omega]; exact hj
    rw [h0] at h3; simp at h3
theorem GTop.snoc {L : List Nat} {c : Nat} {r s : Int} (h : GTop L r) (hc : TopIs c s) : GTop (L ++ [c]) (max r s) := by
  obtain ⟨h1, h2⟩ := h
  obtain ⟨h3, h4⟩ := hc
  refine ⟨fun x hx j hj => ?_, ?_⟩
  · rcases List.mem_append.1 hx with hx | hx
    · have := h1 x hx j hj; omega
    · simp at hx; subst hx
      have := h3 j hj; omega
  · by_cases e : r ≤ s
    · rw [show max r s = s by omega]
      rcases h4 with h4 | ⟨i, h4, h5⟩
      · exact .inl h4
      · exact .inr ⟨i, h4, c, by simp, h5⟩
    · rw [show max r s = r by omega]
      rcases h2 with h2 | ⟨i, h2, x, hx, h5⟩
      · exact .inl h2
      · exact .inr ⟨i, h2, x, List.mem_append.2 (.inl hx), h5⟩
theorem GTop.nil : GTop [] (-1) := ⟨fun c h => by simp at h, .inl rfl⟩
set_option maxRecDepth 100000 in
set_option maxHeartbeats 4000000 in
theorem greatest_any (v : Value) (L : List Nat) (w : World) (hv : RwsAt w v L) : Calls Tryz.prog 143 #[v] w fun e w' => (∃ r : Int, e = .returned (.int .i64 r) ∧ GTop L r) ∧ Kept w w' := by
  have HV := Lib.hid hv
  obtain ⟨sa, sc, hs, _, hl9, _⟩ := hv
  subst hs
  obtain ⟨n, hn⟩ : ∃ n, n = L.length := ⟨_, rfl⟩
  have HN := Lib.hid hn
  rw [← hn] at hl9 ⊢
  have HV2 : Hid (RwsAt w (.slice sa n sc) L) := Lib.hid (by rw [hn]; exact HV.out)
  clear hn HV
  go_enter Tryz.func143, Tryz.ntmps143
  go_wp2
  go_loopg [3, 9] n (fun kx s3 s9 wr => ∃ (k : Nat) (r : Int), s3 = .int .i64 r ∧ s9 = .int .i64 k ∧ k ≤ n ∧ n - k ≤ kx ∧ -1 ≤ r ∧ r ≤ 1000 ∧ Hid (GTop (L.take k) r) ∧ Hid (Kept w wr))
  case atStart => exact ⟨0, -1, rfl, rfl, Nat.zero_le _, by omega, by omega, by omega, Lib.hid GTop.nil, Lib.hid (Kept.refl _)⟩
  case round =>
    obtain ⟨k, r, rfl, rfl, hk, hkx, hr0, hr9, HG, HK⟩ := hrel
    by_cases hlt : k < n
    · have hkl : k < L.length := by have := HN.out; omega
      obtain ⟨b, o, rfl, hrg⟩ : ∃ b o, sa = some ⟨b, o, none⟩ ∧ wr.rangeAt b (o + k * 3) (rcells L[k]) := by
        obtain ⟨a', c', h1, _, _, _, h5⟩ := HV2.out.kept HK.out
        injection h1 with h1 h2 h3
        subst h1
        exact h5 k hkl
      have hc152 : RowLt 152 L[k] := by obtain ⟨_, _, _, _, _, h4, _⟩ := HV2.out; exact h4 _ (List.getElem_mem _)
      have HS : Hid (∀ s, TopIs L[k] s → GTop (L.take (k + 1)) (max r s)) := Lib.hid fun s hs => by
        rw [List.take_succ_eq_append_getElem hkl]; exact HG.out.snoc hs
      have hlo := loW_lt L[k]
      have hhi := hiW_lt hc152
      have HT1 : Hid (∀ m, (hiW L[k]).testBit m = true → (∀ j, (hiW L[k]).testBit j = true → j ≤ m) → TopIs L[k] ((64 + m : Nat) : Int)) := Lib.hid fun m h1 h2 => topIs_hi h1 h2
      have HT2 : Hid (∀ m, hiW L[k] = 0 → (loW L[k]).testBit m = true → (∀ j, (loW L[k]).testBit j = true → j ≤ m) → TopIs L[k] (m : Int)) := Lib.hid fun m h0 h1 h2 => topIs_lo h0 h1 h2
      have HT3 : Hid (hiW L[k] = 0 → loW L[k] = 0 → TopIs L[k] (-1)) := Lib.hid fun h0 h1 => topIs_none h0 h1
      have HLEN : Hid (∀ x W, x < 18446744073709551616 → Calls Tryz.prog 200 #[.int .u64 (x : Nat)] W fun e w' => e = .returned (.int .i64 (Lib.bitLen x)) ∧ W = w') := Lib.hid fun x W h => (Tryz.bits_Len64 (x : Int) W (by omega) (by omega)).mono fun _ _ h => ⟨by rw [h.1]; simp, h.2.symm⟩
      unfold rcells at hrg
      generalize evW L[k] = ev at hrg
      generalize hiW L[k] = hi at hrg hhi HT1 HT2 HT3
      generalize loW L[k] = lo at hrg hlo HT1 HT2 HT3
      have HRG := Lib.hid hrg
      clear hrg
      go_wp2_with (with_reducible refine wpList_load_mid rfl 121 _ rfl b (o + k * 3) rfl _ _ HRG.out Tryz.underlying121 rfl (by kernel_rfl) ?_)
      have HRN := HN.out
      by_cases hhi0 : hi = 0
      · have b1 : ((hi : Int) != 0) = false := by simp [hhi0]
        by_cases hlo0 : lo = 0
        · have b2 : ((lo : Int) != 0) = false := by simp [hlo0]
          have HF : Hid (GTop (L.take (k + 1)) r) := Lib.hid (by have h := HS.out _ (HT3.out hhi0 hlo0); rw [show max r (-1) = r by omega] at h; exact h)
          clear hhi0 hlo0 HRN
          refine wp_loop_rounds 3 ?_
          rw [rounds_succ]
          go_wp2
          rw [rounds_succ]
          go_wp2
          rw [rounds_succ]
          go_wp2
          go_roundg (n - (k + 1))
          case measure => omega
          case rel => exact ⟨k + 1, r, rfl, by go_num, by omega, Nat.le_refl _, hr0, hr9, HF, Lib.hid (HK.out.alloc _)⟩
        · have b2 : ((lo : Int) != 0) = true := by simp; omega
          obtain ⟨m, hm1, hm2, hm3, hm4⟩ := bitLen_top hlo hlo0
          have HC := Lib.hid (fun W => HLEN.out lo W hlo)
          rw [hm1] at HC
          have HF : Hid (GTop (L.take (k + 1)) (max r m)) := Lib.hid (HS.out _ (HT2.out m hhi0 hm3 hm4))
          obtain ⟨m1, hm⟩ : ∃ x, x = m + 1 := ⟨_, rfl⟩
          rw [← hm] at HC
          have q1 : (m1 : Int) - 1 = (m : Int) := by omega
          have hm9 : m1 ≤ 64 := by omega
          clear hhi0 hlo0 HRN hm1 hm3 hm4 hm
          refine wp_loop_rounds 2 ?_
          rw [rounds_succ]
          go_wp2
          rw [rounds_succ]
          go_wp2_with (go_at_call 200; refine (HC.out _).mono ?_; rintro e w2 ⟨rfl, rfl⟩)
          go_roundg (n - (k + 1))
          case measure => omega
          case rel => exact ⟨k + 1, max r m, rfl, by go_num, by omega, Nat.le_refl _, by omega, by omega, HF, Lib.hid (HK.out.alloc _)⟩
      · have b1 : ((hi : Int) != 0) = true := by simp; omega
        obtain ⟨m, hm1, hm2, hm3, hm4⟩ := bitLen_top hhi hhi0
        have HC := Lib.hid (fun W => HLEN.out hi W hhi)
        rw [hm1] at HC
        obtain ⟨z, hz⟩ : ∃ z, z = 64 + m := ⟨_, rfl⟩
        have HF : Hid (GTop (L.take (k + 1)) (max r z)) := Lib.hid (by rw [hz]; exact HS.out _ (HT1.out m hm3 hm4))
        obtain ⟨m1, hm⟩ : ∃ x, x = m + 1 := ⟨_, rfl⟩
        rw [← hm] at HC
        have q1 : (64 : Int) + (m1 : Int) - 1 = (z : Int) := by omega
        have hz9 : z ≤ 1000 := by omega
        have hm9 : m1 ≤ 64 := by omega
        clear hhi0 HRN hm1 hm3 hm4 hm hz
        refine wp_loop_rounds 1 ?_
        rw [rounds_succ]
        go_wp2_with (go_at_call 200; refine (HC.out _).mono ?_; rintro e w2 ⟨rfl, rfl⟩)
        go_roundg (n - (k + 1))
        case measure => omega
        case rel => exact ⟨k + 1, max r z, rfl, by go_num, by omega, Nat.le_refl _, by omega, by omega, HF, Lib.hid (HK.out.alloc _)⟩
    · have hke : k = n := by omega
      have HF : Hid (GTop L r) := Lib.hid (by have h := HG.out; rw [hke, HN.out, List.take_length] at h; exact h)
      go_wp2
      go_ret
      exact ⟨⟨_, rfl, HF.out⟩, HK.out⟩
end Go.Proofs.YthiemjodcklejaaGreatDoor

/-
  slices.SortStableFunc at the rows of topdown, in the words of V3.
-/
namespace Go.Proofs.YthiemjodcklejaaGreatDoor
open Go.Shelf Go.RowKit Go.Lib Go.Sort

set_option maxRecDepth 100000 in
theorem stable_none (p : Option Addr) (cap : Nat) (fv : Value) (w : World) : Calls Tryz.prog 246 #[.slice p 0 cap, .int .i64 0, fv] w fun e w' => e = .returned (.tuple #[]) ∧ w = w' := by
  have HI : Hid (∀ W, Calls Tryz.prog 265 #[.slice p 0 cap, .int .i64 0, .int .i64 0, fv] W fun e w' => e = .returned (.tuple #[]) ∧ W = w') := Lib.hid fun W => (AnyF.insertionSortCmpFunc_none rowLays p cap fv W).mono fun _ _ h => ⟨h.1, h.2.symm⟩
  go_enter Tryz.func246, Tryz.ntmps246
  go_wp2
  refine wp_loop_rounds 1 ?_
  rw [rounds_succ]
  go_wp2_with (go_at_call 265; refine (HI.out _).mono ?_; rintro e w2 ⟨rfl, rfl⟩)
  refine wp_loop_rounds 1 ?_
  rw [rounds_succ]
  go_wp2
  go_end0
  exact ⟨rfl, rfl⟩
theorem flat_getE (L : List Nat) : ∀ i (h : i < L.length) j, j < 3 → (L.flatMap encR)[i * 3 + j]? = (encR L[i])[j]? := by
  induction L with
  | nil => intro i h; simp at h
  | cons c L ih =>
    intro i h j hj
    rw [List.flatMap_cons]
    cases i with
    | zero => rw [List.getElem?_append_left (by simp [encR, rcells]; omega)]; simp
    | succ i =>
      rw [List.getElem?_append_right (by simp [encR, rcells]; omega), show (encR c).length = 3 from rfl, show (i + 1) * 3 + j - 3 = i * 3 + j by omega]
      exact ih i (by simpa using h) j hj
theorem len_flatE (L : List Nat) : (L.flatMap encR).length = L.length * 3 := by
  induction L with
  | nil => rfl
  | cons c L ih => simp [encR, rcells, ih]; omega
theorem flatK_list (L : List Nat) : (flatK encR 3 L.toArray).toList = L.flatMap encR := by
  apply List.ext_getElem?
  intro t
  by_cases h : t < L.length * 3
  · have hi : t / 3 < L.length := by omega
    have e := flat_getE L (t / 3) hi (t % 3) (by omega)
    rw [show t / 3 * 3 + t % 3 = t by omega] at e
    rw [e]
    have e2 : (flatK encR 3 L.toArray)[t]! = (encR L.toArray[t / 3]!)[t % 3]! := get_flatK encR 3 L.toArray t (by simpa using h)
    have e3 : (flatK encR 3 L.toArray).toList[t]? = some (flatK encR 3 L.toArray)[t]! := by
      have hs : t < (flatK encR 3 L.toArray).size := by rw [size_flatK]; simpa using h
      rw [Array.getElem?_toList, Array.getElem?_eq_getElem hs, getElem!_pos _ t hs]
    rw [e3, e2]
    have e4 : L.toArray[t / 3]! = L[t / 3] := by rw [getElem!_pos _ _ (by simpa using hi)]; simp
    rw [e4]
    have h3 : t % 3 < (encR L[t / 3]).length := by show t % 3 < 3; omega
    rw [List.getElem?_eq_getElem h3, getElem!_pos (encR L[t / 3]) (t % 3) h3]
  · rw [List.getElem?_eq_none (by rw [Array.length_toList, size_flatK]; simp; omega), List.getElem?_eq_none (by rw [len_flatE]; omega)]
theorem flat_same {L : List Nat} (h : ∀ c ∈ L, RowLt 152 c) : L.flatMap encR = L.flatMap rcells := by
  induction L with
  | nil => rfl
  | cons c L ih =>
    rw [List.flatMap_cons, List.flatMap_cons, ih fun x hx => h x (List.mem_cons_of_mem _ hx)]
    unfold encR
    rw [lowR_of (h c (List.mem_cons_self ..))]
theorem sortRows_any (B : Nat) (v : Value) (L : List Nat) (w : World) (hv : OwnRws w B v L) (hB : B ≤ w.heap.size) :
    Calls Tryz.prog 246 #[v, .int .i64 L.length, .func (.func 205) #[] #[]] w fun e w' => e = .returned (.tuple #[]) ∧ ∃ M : List Nat, M.Perm L ∧ M.Pairwise (fun a b => pc a ≤ pc b) ∧ OwnRws w' B v M ∧ Below B w w' := by
  obtain ⟨hv1, hv2, hv3⟩ := hv
  by_cases h0 : L = []
  · subst h0
    have hv4 := hv1
    obtain ⟨_, h2⟩ := hv1
    have : ∃ p c, v = .slice p 0 c := by
      rcases h2 with ⟨h2, _⟩ | ⟨g, cap, cur, h2, _⟩
      · exact ⟨_, _, h2⟩
      · exact ⟨_, cap, by simpa using h2⟩
    obtain ⟨p, c, rfl⟩ := this
    exact (stable_none p c _ w).mono fun e w' ⟨h3, h4⟩ => ⟨h3, [], .refl _, by simp, by subst h4; exact ⟨hv4, by simp, by simp⟩, by subst h4; exact Below.refl _ _⟩
  · obtain ⟨h1, h2⟩ := hv1
    rcases h2 with ⟨_, h2⟩ | ⟨g, cap, cur, rfl, hg, hh, hn, hcap, hsz, htk⟩
    · exact absurd (List.eq_nil_of_length_eq_zero h2) h0
    · have hH : HoldsK encR 3 w g 0 L.toArray := by
        intro j hj
        have hj' : j < L.length * 3 := by rw [size_flatK] at hj; simpa using hj
        refine ⟨?_, by simp [World.frozen?, hh]⟩
        have e1 : (cur.toList.take (L.length * 3))[j]? = (L.flatMap rcells)[j]? := by rw [htk]
        rw [List.getElem?_take_of_lt (by omega), ← flat_same hv3, ← flatK_list] at e1
        simp only [World.cell?, hh, Nat.zero_add]
        rw [show cur[j]? = cur.toList[j]? from by simp]
        simp only [Option.isSome_none, Bool.false_eq_true, if_false]
        rw [e1, Array.getElem?_toList, Array.getElem?_eq_getElem hj, getElem!_pos _ j hj]
        rfl
      have hS := stable_any g 0 cap L.toArray w hH (heap_lt hh) (by simp; omega)
      simp only [List.size_toArray] at hS
      refine hS.mono fun e w' ⟨h3, dn, hm, n, os, h4⟩ => ⟨h3, dn.toList, ?_⟩
      clear hS h3
      obtain ⟨⟨hp1, hp2, hp3⟩, hs⟩ := hm
      have hdn : dn.size = L.length := by simpa using hp1
      have hperm : dn.toList.Perm L := by
        have e1 : dn.extract 0 L.length = dn := by rw [← hdn]; simp
        have e2 : L.toArray.extract 0 L.length = L.toArray := by simp
        rw [e1, e2] at hp3
        simpa using hp3
      have hlt : ∀ c ∈ dn.toList, RowLt 152 c := fun c hc => hv3 c (hperm.mem_iff.1 hc)
      refine ⟨hperm, ?_, ?_, ?_⟩
      · rw [List.pairwise_iff_getElem]
        intro i j hi hj hij
        have hi' : i < dn.size := by simpa using hi
        have hj' : j < dn.size := by simpa using hj
        have h := hs i j (Nat.zero_le _) hij (by omega)
        rw [ltR] at h
        simp at h
        rw [getElem!_pos dn i hi', getElem!_pos dn j hj', lowR_of (hlt _ (by simp)), lowR_of (hlt _ (by simp))] at h
        simpa using h
      · subst h4
        have hg1 := heap_putRow (id : Value → Value) w n g 0 (flatK encR 3 dn) hh
        have hps := putCells_take (id : Value → Value) (flatK encR 3 dn) cur (L.length * 3) (by rw [size_flatK, hdn]) (by rw [hsz]; exact Nat.mul_le_mul_right 3 hn)
        refine ⟨⟨by rw [len_flat], .inr ⟨g, cap, putCells id 0 (flatK encR 3 dn) cur, by simp [hdn], hg, ?_, by simp [hdn]; exact hn, hcap, by rw [hps.1]; exact hsz, ?_⟩⟩, by simp; omega, hlt⟩
        · show (grow (putRow id (Sort.ahead w n) g 0 (flatK encR 3 dn)) os).heap[g]? = _
          rw [heap_grow_old _ _ (heap_lt hg1)]; exact hg1
        · have := hps.2
          rw [show dn.toList.length * 3 = L.length * 3 by simp [hdn], this, ← flat_same hlt]
          have e := flatK_list dn.toList
          simp only [Array.toArray_toList] at e
          rw [e]; simp
      · subst h4
        refine ⟨rfl, rfl, rfl, ?_, fun k hk => ?_⟩
        · show w.heap.size ≤ ((w.heap.modify g _) ++ os).size
          simp
        · have hkg : k ≠ g := by omega
          show (grow (putRow id (Sort.ahead w n) g 0 (flatK encR 3 dn)) os).heap[k]? = _
          rw [heap_grow_old _ _ (by show k < (w.heap.modify g _).size; simp; omega)]
          exact heap_putRow_ne (id : Value → Value) w n g 0 k _ hkg
set_option maxRecDepth 100000 in
theorem sortStable_any (B : Nat) (v : Value) (L : List Nat) (w : World) (hv : OwnRws w B v L) (hB : B ≤ w.heap.size) :
    Calls Tryz.prog 204 #[v, .func (.func 205) #[] #[]] w fun e w' => e = .returned (.tuple #[]) ∧ ∃ M : List Nat, M.Perm L ∧ M.Pairwise (fun a b => pc a ≤ pc b) ∧ OwnRws w' B v M ∧ Below B w w' := by
  have HC := Lib.hid (sortRows_any B v L w hv hB)
  obtain ⟨a, c, rfl⟩ := hv.at.shape
  have hl := hv.2.1
  obtain ⟨n, hn⟩ : ∃ n, n = L.length := ⟨_, rfl⟩
  rw [← hn] at hl HC ⊢
  clear hv hn
  go_enter Tryz.func204, Tryz.ntmps204
  go_wp2_with (go_at_call 246; refine HC.out.mono ?_; rintro e w2 ⟨rfl, M, h1, h2, h3, h4⟩)
  go_end0
  exact ⟨rfl, M, h1, h2, h3, h4⟩
end Go.Proofs.YthiemjodcklejaaGreatDoor

/-
  Walks: the list of topdown: add.
-/
namespace Go.Proofs.YthiemjodcklejaaGreatDoor
open Go.RowKit

theorem info_row : (Tryz.prog.info? 121).map (fun i => (i.zero, i.size, i.bytes)) = some (some (.agg #[.int .i64 0, .int .u64 0, .int .u64 0]), 3, 24) := by kernel_rfl
def addK (L : List Nat) (c : Nat) : List Nat := if L.length ≤ 4096 then L ++ [c] else L
/-- The list behind the pointer. -/
def ListAt (w : World) (gl B : Nat) (v : Value) (L : List Nat) : Prop := RowAt w gl 158 [v] ∧ OwnRws w B v L
/-- What the list's methods leave: but for the pointer's cell and the list's own row, all that was. -/
structure Frm (gl : Nat) (v v' : Value) (w w' : World) : Prop where
  os : w'.os = w.os
  tape : w'.tape = w.tape
  output : w'.output = w.output
  size : w.heap.size ≤ w'.heap.size
  block : ∀ k, k < w.heap.size → k ≠ gl → some k ≠ v.ownBlock → w'.heap[k]? = w.heap[k]?
  own : v'.ownBlock = v.ownBlock ∨ ∀ g, v'.ownBlock = some g → w.heap.size ≤ g
theorem Frm.of_kept {gl : Nat} {v : Value} {w w' : World} (h : Kept w w') : Frm gl v v w w' := ⟨h.os, h.tape, h.output, h.size, fun k hk _ _ => h.block k hk, .inl rfl⟩
theorem Frm.trans {gl : Nat} {v v1 v2 : Value} {w w1 w2 : World} (h : Frm gl v v1 w w1) (k : Frm gl v1 v2 w1 w2) : Frm gl v v2 w w2 := by
  have hs := h.size
  refine ⟨k.os.trans h.os, k.tape.trans h.tape, k.output.trans h.output, Nat.le_trans h.size k.size, fun b hb h1 h2 => ?_, ?_⟩
  · refine (k.block b (by omega) h1 fun e => ?_).trans (h.block b hb h1 h2)
    rcases h.own with ho | ho
    · rw [ho] at e; exact h2 e
    · have := ho b e.symm; omega
  · rcases k.own with ko | ko
    · rw [ko]; exact h.own
    · exact .inr fun g hg => by have := ko g hg; omega
theorem OwnRws.own_ge {w : World} {B : Nat} {v : Value} {L : List Nat} (h : OwnRws w B v L) {g : Nat} (hg : v.ownBlock = some g) : B ≤ g ∧ g < w.heap.size := h.1.lt g hg
theorem Frm.below {gl B : Nat} {v v' : Value} {w w' : World} {L : List Nat} (h : Frm gl v v' w w') (hv : OwnRws w B v L) (hB : B ≤ gl) (hl : B ≤ w.heap.size) : Below B w w' :=
  ⟨h.os, h.tape, h.output, h.size, fun k hk => h.block k (by omega) (by omega) fun e => by have := (hv.own_ge e.symm).1; omega⟩
theorem Frm.cell {gl : Nat} {v v' : Value} {w w' : World} (h : Frm gl v v' w w') {b o : Nat} {u : Value} (hb : b < w.heap.size) (h1 : b ≠ gl) (h2 : some b ≠ v.ownBlock) (hc : w.cell? ⟨b, o, none⟩ = some u) : w'.cell? ⟨b, o, none⟩ = some u := by
  have := h.block b hb h1 h2
  simp only [World.cell?, this] at hc ⊢
  exact hc
theorem heap_new2d (w : World) (C O : Obj) : ((w.alloc C).alloc O).drew.heap[w.heap.size + 1]? = some O := by
  refine (Below.block (Kept.refl ((w.alloc C).alloc O)).drew (w.heap.size + 1) (by simp)).trans ?_
  simpa using heap_alloc_new (w.alloc C) O
theorem list_apart {w : World} {gl B : Nat} {v : Value} {L : List Nat} {cs : List Value} (h : OwnRws w B v L) (hx : RowAt w gl 158 cs) : some gl ≠ v.ownBlock := by
  obtain ⟨⟨_, h2⟩, _⟩ := h
  obtain ⟨cur, hx1, _⟩ := hx
  intro e
  rcases h2 with ⟨rfl, _⟩ | ⟨g, cap, cur2, rfl, _, h7, _⟩
  · cases e
  · have : gl = g := by simpa [Value.ownBlock] using e
    subst this
    rw [hx1] at h7
    injection h7 with h7
    injection h7 with _ h8 _
    exact absurd h8 (by decide)
theorem OwnRws.store_other {w : World} {B g : Nat} {v : Value} {L : List Nat} (h : OwnRws w B v L) (hg : some g ≠ v.ownBlock) (i : Nat) (u : Value) : OwnRws (w.setCell ⟨g, i, none⟩ u) B v L := by
  obtain ⟨⟨h1, h2⟩, h3⟩ := h
  refine ⟨⟨h1, h2.imp id ?_⟩, h3⟩
  rintro ⟨b, cap, cur, rfl, h5, h6, h7⟩
  refine ⟨b, cap, cur, rfl, h5, ?_, h7⟩
  have hne : b ≠ g := fun e => hg (by simp [Value.ownBlock, e])
  exact (Below.heap_setCell w ⟨g, i, none⟩ u b hne).trans h6
theorem add_step {W w5 : World} {gl B n cap gg c : Nat} {L : List Nat} {v : Value} {C O : Obj} (hr : RowAt W gl 158 [v]) (hv : OwnRws W B v L) (hB : B ≤ gl) (hc : RowLt 152 c) (hl : L.length ≤ 4097) (hn : n = L.length)
    (hown : w5.ownsRow B 121 3 (.slice (some ⟨gg, 0, none⟩) (n + 1) cap) (n + 1) (L.flatMap rcells ++ rcells c)) (hg : ((W.alloc C).alloc O).drew.grownBy w5 v.ownBlock) (hat : v.ownBlock = some gg ∨ gg = W.heap.size + 1 + 1) :
    ListAt (w5.setCell ⟨gl, 0, none⟩ (.slice (some ⟨gg, 0, none⟩) (n + 1) cap)) gl B (.slice (some ⟨gg, 0, none⟩) (n + 1) cap) (L ++ [c]) ∧ Frm gl v (.slice (some ⟨gg, 0, none⟩) (n + 1) cap) W (w5.setCell ⟨gl, 0, none⟩ (.slice (some ⟨gg, 0, none⟩) (n + 1) cap)) := by
  have hgl := hr.lt
  have k1 : Kept W ((W.alloc C).alloc O).drew := (((Kept.refl W).alloc C).alloc O).drew
  have hb : w5.heap[gl]? = W.heap[gl]? := (hg.block gl (by simp; omega) (list_apart hv hr)).trans (k1.block gl hgl)
  have hr5 := hr.same hb
  have hv5 : OwnRws w5 B (.slice (some ⟨gg, 0, none⟩) (n + 1) cap) (L ++ [c]) := by
    refine ⟨by rw [List.flatMap_append, List.flatMap_cons, List.flatMap_nil, List.append_nil, List.length_append, List.length_singleton, ← hn]; exact hown, by simp; omega, fun x hx => ?_⟩
    rcases List.mem_append.1 hx with hx | hx
    · exact hv.2.2 x hx
    · simp at hx; subst hx; exact hc
  have hne5 := list_apart hv5 hr5
  refine ⟨⟨?_, hv5.store_other hne5 0 _⟩, ?_⟩
  · have := hr5.store 0 (.slice (some ⟨gg, 0, none⟩) (n + 1) cap)
    simpa using this
  · have h2 : Below B ((W.alloc C).alloc O).drew w5 := grown_below hg (hv.kept k1).1 (by simp; omega)
    have h3 : Below B W (w5.setCell ⟨gl, 0, none⟩ (.slice (some ⟨gg, 0, none⟩) (n + 1) cap)) := Below.setCell ((k1.mono (by omega)).trans h2) hB _
    refine ⟨h3.os, h3.tape, h3.output, h3.size, fun k hk e1 e2 => ?_, ?_⟩
    · exact (Below.heap_setCell w5 ⟨gl, 0, none⟩ _ k e1).trans ((hg.block k (by simp; omega) e2).trans (k1.block k hk))
    · rcases hat with h | h
      · exact .inl h.symm
      · refine .inr fun g hg' => ?_
        have : gg = g := by simpa [Value.ownBlock] using hg'
        omega
set_option maxRecDepth 100000 in
set_option maxHeartbeats 4000000 in
theorem add_any (gl B c : Nat) (v : Value) (L : List Nat) (W : World) (hL : ListAt W gl B v L) (hc : RowLt 152 c) (hl : L.length ≤ 4097) (hB : B ≤ gl) :
    Calls Tryz.prog 146 #[.pointer (some ⟨gl, 0, none⟩), rowV c] W fun e w' => e = .returned (.tuple #[]) ∧ ∃ v', ListAt w' gl B v' (addK L c) ∧ Frm gl v v' W w' := by
  obtain ⟨hr, hv⟩ := hL
  have hgl := hr.lt
  have c0 := hr.cell (i := 0) (by simp)
  have f0 := hr.free 0
  simp only [List.getElem_cons_zero] at c0
  have hne := list_apart hv hr
  obtain ⟨a, cp, hv2⟩ := hv.at.shape
  obtain ⟨n, hn⟩ : ∃ n, n = L.length := ⟨_, rfl⟩
  unfold addK
  rw [← hn] at hv2 hl ⊢
  subst hv2
  have HR := Lib.hid hr
  have HV := Lib.hid hv
  have HNE := Lib.hid hne
  have HN := Lib.hid hn
  unfold rowV
  have HC : Hid (RowLt 152 c) := hc
  have HCC : Hid (rcells c = [.int .i64 (evW c), .int .u64 (loW c), .int .u64 (hiW c)]) := rfl
  generalize evW c = x0 at *
  generalize loW c = x1 at *
  generalize hiW c = x2 at *
  clear hr hv hne hn hc
  by_cases h : n ≤ 4096
  · rw [if_pos h]
    have h' : (n : Int) ≤ 4096 := by omega
    obtain ⟨i0, hi0, hz0, hz1, hz2⟩ := info_parts info_row
    have I0 := Lib.hid hi0
    have I1 := Lib.hid hz0
    have I2 := Lib.hid hz1
    have I3 := Lib.hid hz2
    clear hi0 hz0 hz1 hz2 h
    have HO2 : Hid (∀ C O, (((W.alloc C).alloc O).drew).ownsRow B 121 3 (.slice a n cp) n (L.flatMap rcells)) := Lib.hid fun C O => by
      have h := (HV.out.kept ((((Kept.refl W).alloc C).alloc O).drew)).1
      rw [← HN.out] at h; exact h
    have cA : ∀ C, (W.alloc C).drew.cell? ⟨gl, 0, none⟩ = some (.slice a n cp) := fun C => (((Kept.refl W).alloc C).drew).cell c0
    have cB : ∀ C O, ((W.alloc C).alloc O).drew.cell? ⟨gl, 0, none⟩ = some (.slice a n cp) := fun C O => ((((Kept.refl W).alloc C).alloc O).drew).cell c0
    go_enter Tryz.func146, Tryz.ntmps146
    go_wp2
    go_region_law ((refine step_append_lies _ (by rfl) _ _ _ (by rfl) B 121 i0 _ 3 24 Tryz.underlying158 I0.out I1.out I2.out I3.out rfl (by omega) (.slice a n cp) n _ (by rfl) (HO2.out _ _) ⟨W.heap.size + 1, 0, none⟩ 1 1 [.int .i64 x0, .int .u64 x1, .int .u64 x2] (by rfl) (by rfl) (World.news_of_block (cs := #[.int .i64 x0, .int .u64 x1, .int .u64 x2]) (t := 121) (fr := (0, 0)) (heap_new2d W _ _)) (by simp [Value.oneCell']) (by omega) (by unfold maxLen; omega) (by omega) (by simp; omega) (W.heap.size + 1 + 1) (by simp) ?_; intro gg cap w5 hown5 hgrow hat hlt5; have st5 := hgrow.cell (a := ⟨gl, 0, none⟩) (v := .slice a n cp) (cB _ _) HNE.out; have sf5 := (World.frozen?_of_block (a := ⟨gl, 0, none⟩) (hgrow.block gl (by simp; omega) HNE.out)).trans ((Below.frozen ((((Kept.refl W).alloc _).alloc _).drew) (p := ⟨gl, 0, none⟩) (by simp; omega)).trans f0)))
    all_goals go_wp2
    all_goals
     have hs := add_step HR.out HV.out hB HC.out (by have := HN.out; omega) HN.out (c := c) (by rw [HCC.out]; exact hown5) hgrow hat
     go_end0
     exact ⟨rfl, _, hs⟩
  · rw [if_neg h]
    have h' : ¬ (n : Int) ≤ 4096 := by omega
    go_enter Tryz.func146, Tryz.ntmps146
    go_wp2
    go_end0
    exact ⟨rfl, _, ⟨HR.out.kept ((Kept.refl _).alloc _), HV.out.kept ((Kept.refl _).alloc _)⟩, Frm.of_kept ((Kept.refl _).alloc _)⟩
end Go.Proofs.YthiemjodcklejaaGreatDoor

/-
  Walks: the list of topdown: choose.
-/
namespace Go.Proofs.YthiemjodcklejaaGreatDoor
open Go.RowKit

theorem chooseK_many (V : Nat) : ∀ (args : List Int) (k r : Nat), args.length < k → chooseK V args k r = []
  | [], k, r, h => by unfold chooseK; rw [if_neg (by simp at h; omega)]
  | a :: l, k, r, h => by
    simp at h
    unfold chooseK
    rw [if_neg (by omega), chooseK_many V l (k - 1) _ (by omega), chooseK_many V l k _ (by omega)]; rfl
theorem take_app (l m : List Nat) (n : Nat) : (l.take n ++ m).take n = (l ++ m).take n := by
  rw [List.take_append, List.take_append, List.take_take, Nat.min_self, List.length_take]
  congr 1
  by_cases h : n ≤ l.length
  · rw [Nat.min_eq_left h, Nat.sub_self, show n - l.length = 0 by omega]
  · rw [Nat.min_eq_right (by omega)]
theorem addK_take {L : List Nat} {c : Nat} (h : L.length ≤ 4097) : addK L c = (L ++ [c]).take 4097 := by
  unfold addK
  split
  · rw [List.take_of_length_le (by simp; omega)]
  · rw [List.take_append, show 4097 - L.length = 0 by omega, List.take_of_length_le (by omega)]; simp
theorem ints_tail {w : World} {b o n c : Nat} {x : Int} {l : List Int} (h : IntsAt w (.slice (some ⟨b, o, none⟩) n c) (x :: l)) (hc : 2 ≤ c) : IntsAt w (.slice (some ⟨b, o + 1, none⟩) (n - 1) (c - 1)) l := by
  obtain ⟨a, c', h1, h2, h3, h4⟩ := h
  injection h1 with e1 e2 e3
  subst e1 e2 e3
  simp at h2 h3
  refine ⟨some ⟨b, o + 1, none⟩, c - 1, by simp, ⟨by omega, fun h => by cases h⟩, by omega, fun i hi => ?_⟩
  obtain ⟨b', o', h5, h6⟩ := h4 (i + 1) (by simpa using hi)
  injection h5 with h5
  injection h5 with h7 h8
  subst h7 h8
  exact ⟨b, o + 1, rfl, by rw [show o + 1 + i = o + (i + 1) by omega, h6]; simp⟩
theorem ListAt.kept {w w' : World} {gl B : Nat} {v : Value} {L : List Nat} (h : ListAt w gl B v L) (hk : Kept w w') : ListAt w' gl B v L := ⟨h.1.kept hk, h.2.kept hk⟩
set_option maxRecDepth 100000 in
set_option maxHeartbeats 4000000 in
theorem choose_base (gl B V m k r : Nat) (T : Int) (fa aa : Option Addr) (fn fc ac : Nat) (v : Value) (L : List Nat) (W : World) (hB : B ≤ gl) (hL : ListAt W gl B v L) (hl : L.length ≤ 4097) (hr : RowLt 152 r) (hk : k ≤ 1000) (hm : m ≤ 1000) (hc : L.length = 4097 ∨ m < k ∨ k = 0) :
    Calls Tryz.prog 202 #[.pointer (some ⟨gl, 0, none⟩), .agg #[.int .i64 V, .slice fa fn fc, .int .i64 T], rowV r, .slice aa m ac, .int .i64 k] W fun e w' => e = .returned (.tuple #[]) ∧ ∃ v', ListAt w' gl B v' (if L.length = 4097 ∨ m < k then L else L ++ [r]) ∧ Frm gl v v' W w' := by
  have HADD : Hid (∀ W', Kept W W' → L.length ≤ 4096 → Calls Tryz.prog 146 #[.pointer (some ⟨gl, 0, none⟩), rowV r] W' fun e w' => e = .returned (.tuple #[]) ∧ ∃ v', ListAt w' gl B v' (L ++ [r]) ∧ Frm gl v v' W' w') := Lib.hid fun W' hk h => by
    have := add_any gl B r v L W' (hL.kept hk) hr hl hB
    unfold addK at this
    rw [if_pos h] at this
    exact this
  have HL := Lib.hid hL
  obtain ⟨hro, hv⟩ := hL
  have c0 := hro.cell (i := 0) (by simp)
  simp only [List.getElem_cons_zero] at c0
  obtain ⟨la, lc, hv2⟩ := hv.at.shape
  obtain ⟨n, hn⟩ : ∃ n, n = L.length := ⟨_, rfl⟩
  rw [← hn] at hv2 hl hc HADD ⊢
  subst hv2
  have hgl := hro.lt
  unfold rowV at *
  generalize evW r = x0 at *
  generalize loW r = x1 at *
  generalize hiW r = x2 at *
  clear hro hv hr hn
  by_cases h1 : n = 4097
  · rw [if_pos (.inl h1)]
    have h1' : (4096 : Int) < (n : Int) := by omega
    clear h1 hc
    go_enter Tryz.func202, Tryz.ntmps202
    go_wp2
    refine bodyPost_ret (results_none rfl _ _ _) rfl ?_
    exact ⟨rfl, _, HL.out.kept (((Kept.refl _).alloc _).alloc _), Frm.of_kept (((Kept.refl _).alloc _).alloc _)⟩
  · have h1' : ¬ (4096 : Int) < (n : Int) := by omega
    by_cases h2 : m < k
    · rw [if_pos (.inr h2)]
      have h2' : (m : Int) < (k : Int) := by omega
      clear h1 hc h2
      go_enter Tryz.func202, Tryz.ntmps202
      go_wp2
      refine bodyPost_ret (results_none rfl _ _ _) rfl ?_
      exact ⟨rfl, _, HL.out.kept (((Kept.refl _).alloc _).alloc _), Frm.of_kept (((Kept.refl _).alloc _).alloc _)⟩
    · rw [if_neg (by omega)]
      have hk0 : k = 0 := by omega
      subst hk0
      have h2' : ¬ (m : Int) < 0 := by omega
      have HA := Lib.hid (fun W' hk => HADD.out W' hk (by omega))
      clear h1 hc h2 HADD
      go_enter Tryz.func202, Tryz.ntmps202
      go_wp2_with (go_at_call 146; refine (HA.out _ (((Kept.refl _).alloc _).alloc _)).mono ?_; rintro e w2 ⟨rfl, v', h3, h4⟩)
      refine bodyPost_ret (results_none rfl _ _ _) rfl ?_
      exact ⟨rfl, v', h3, (Frm.of_kept (((Kept.refl W).alloc _).alloc _)).trans h4⟩
set_option maxRecDepth 100000 in
set_option maxHeartbeats 16000000 in
theorem choose_step (gl B V n m k k1 b o ac x0 x1 x2 y0 y1 y2 : Nat) (T a : Int) (fa la : Option Addr) (fn fc lc : Nat) (tv : Value) (L1 L2 : List Nat) (W : World) (hgl : gl < W.heap.size) (c0 : W.cell? ⟨gl, 0, none⟩ = some (.slice la n lc)) (hown : ∀ g, (Value.slice la n lc).ownBlock = some g → g < W.heap.size)
    (hn : n ≤ 4096) (hk : 1 ≤ k) (hkm : k ≤ m) (hm : m ≤ 200) (hmc : m ≤ ac) (hk1 : k1 = k - 1) (htv : (2 ≤ ac ∧ tv = .slice (some ⟨b, o + 1, none⟩) (m - 1) (ac - 1)) ∨ (ac = 1 ∧ tv = .slice (some ⟨b, o, none⟩) 0 0))
    (harg : ∀ v1 w', Frm gl (.slice la n lc) v1 W w' → w'.cell? ⟨b, o, none⟩ = some (.int .i64 a)) (_hbo : b < W.heap.size)
    (hwith : ∀ W', Calls Tryz.prog 142 #[.agg #[.int .i64 x0, .int .u64 x1, .int .u64 x2], .agg #[.int .i64 V, .slice fa fn fc, .int .i64 T], .int .i64 a] W' fun e w' => e = .returned (.agg #[.int .i64 y0, .int .u64 y1, .int .u64 y2]) ∧ Kept W' w')
    (hc1 : ∀ W', Kept W W' → Calls Tryz.prog 202 #[.pointer (some ⟨gl, 0, none⟩), .agg #[.int .i64 V, .slice fa fn fc, .int .i64 T], .agg #[.int .i64 y0, .int .u64 y1, .int .u64 y2], tv, .int .i64 k1] W' fun e w' => e = .returned (.tuple #[]) ∧ ∃ v1, ListAt w' gl B v1 L1 ∧ Frm gl (.slice la n lc) v1 W' w')
    (hc2 : ∀ v1 W', ListAt W' gl B v1 L1 → Frm gl (.slice la n lc) v1 W W' → Calls Tryz.prog 202 #[.pointer (some ⟨gl, 0, none⟩), .agg #[.int .i64 V, .slice fa fn fc, .int .i64 T], .agg #[.int .i64 x0, .int .u64 x1, .int .u64 x2], tv, .int .i64 k] W' fun e w' => e = .returned (.tuple #[]) ∧ ∃ v2, ListAt w' gl B v2 L2 ∧ Frm gl v1 v2 W' w') :
    Calls Tryz.prog 202 #[.pointer (some ⟨gl, 0, none⟩), .agg #[.int .i64 V, .slice fa fn fc, .int .i64 T], .agg #[.int .i64 x0, .int .u64 x1, .int .u64 x2], .slice (some ⟨b, o, none⟩) m ac, .int .i64 k] W fun e w' => e = .returned (.tuple #[]) ∧ ∃ v2, ListAt w' gl B v2 L2 ∧ Frm gl (.slice la n lc) v2 W w' := by
  obtain ⟨w1, hw1⟩ : ∃ w1, w1 = (W.alloc (.cells #[.int .i64 V, .slice fa fn fc, .int .i64 T] 24)).alloc (.cells #[.int .i64 x0, .int .u64 x1, .int .u64 x2] 121) := ⟨_, rfl⟩
  have hkw : Kept W w1 := by rw [hw1]; exact ((Kept.refl _).alloc _).alloc _
  have hsz : w1.heap.size = W.heap.size + 1 + 1 := by rw [hw1]; simp
  have q0 : w1.cell? ⟨W.heap.size, 0, none⟩ = some (.int .i64 V) := by rw [hw1]; simp
  have q1 : w1.cell? ⟨W.heap.size, 1, none⟩ = some (.slice fa fn fc) := by rw [hw1]; simp
  have q2 : w1.cell? ⟨W.heap.size, 2, none⟩ = some (.int .i64 T) := by rw [hw1]; simp
  have q3 : w1.cell? ⟨W.heap.size + 1, 0, none⟩ = some (.int .i64 x0) := by rw [hw1]; simp
  have q4 : w1.cell? ⟨W.heap.size + 1, 1, none⟩ = some (.int .u64 x1) := by rw [hw1]; simp
  have q5 : w1.cell? ⟨W.heap.size + 1, 2, none⟩ = some (.int .u64 x2) := by rw [hw1]; simp
  have qa := harg _ w1 (Frm.of_kept hkw)
  -- the first call, with what stays
  have HC1 : Hid (∀ W', Kept w1 W' → Calls Tryz.prog 202 #[.pointer (some ⟨gl, 0, none⟩), .agg #[.int .i64 V, .slice fa fn fc, .int .i64 T], .agg #[.int .i64 y0, .int .u64 y1, .int .u64 y2], tv, .int .i64 k1] W' fun e w' => e = .returned (.tuple #[]) ∧ (∃ v1, ListAt w' gl B v1 L1 ∧ Frm gl (.slice la n lc) v1 w1 w') ∧
      (w'.cell? ⟨W.heap.size, 0, none⟩ = some (.int .i64 V) ∧ w'.cell? ⟨W.heap.size, 1, none⟩ = some (.slice fa fn fc) ∧ w'.cell? ⟨W.heap.size, 2, none⟩ = some (.int .i64 T) ∧ w'.cell? ⟨W.heap.size + 1, 0, none⟩ = some (.int .i64 x0) ∧ w'.cell? ⟨W.heap.size + 1, 1, none⟩ = some (.int .u64 x1) ∧ w'.cell? ⟨W.heap.size + 1, 2, none⟩ = some (.int .u64 x2) ∧ w'.cell? ⟨b, o, none⟩ = some (.int .i64 a))) := Lib.hid fun W' hk => by
    refine (hc1 W' (hkw.trans hk)).mono fun e w' ⟨he, v1, h1, h2⟩ => ⟨he, ⟨v1, h1, (Frm.of_kept hk).trans h2⟩, ?_⟩
    have hs := hk.size
    have hne1 : some W.heap.size ≠ (Value.slice la n lc).ownBlock := fun e => by have := hown _ e.symm; omega
    have hne2 : some (W.heap.size + 1) ≠ (Value.slice la n lc).ownBlock := fun e => by have := hown _ e.symm; omega
    exact ⟨h2.cell (by omega) (by omega) hne1 (hk.cell q0), h2.cell (by omega) (by omega) hne1 (hk.cell q1), h2.cell (by omega) (by omega) hne1 (hk.cell q2), h2.cell (by omega) (by omega) hne2 (hk.cell q3), h2.cell (by omega) (by omega) hne2 (hk.cell q4), h2.cell (by omega) (by omega) hne2 (hk.cell q5), harg _ _ ((Frm.of_kept (hkw.trans hk)).trans h2)⟩
  have HC2 := Lib.hid hc2
  have HOWN := Lib.hid hown
  have HWI := Lib.hid hwith
  have HKW := Lib.hid hkw
  have HW1 : Hid (w1 = (W.alloc (.cells #[.int .i64 V, .slice fa fn fc, .int .i64 T] 24)).alloc (.cells #[.int .i64 x0, .int .u64 x1, .int .u64 x2] 121)) := Lib.hid hw1
  have hn' : ¬ (4096 : Int) < (n : Int) := by omega
  have hkm' : ¬ (m : Int) < (k : Int) := by omega
  have hk0 : ((k : Int) == 0) = false := by simp; omega
  have hm1 : (0 : Int) < (m : Int) := by omega
  have hm2 : 1 ≤ (m : Int) := by omega
  have hm3 : 0 < m := by omega
  have hk9 : (k : Int) ≤ 200 := by omega
  have hk91 : 1 ≤ (k : Int) := by omega
  have hmac : 1 ≤ (ac : Int) := by omega
  have hkk : (k : Int) - 1 = (k1 : Int) := by omega
  rcases htv with ⟨hac, rfl⟩ | ⟨hac, rfl⟩
  · have hac1 : ¬ ac = 1 := by omega
    have hac2 : ¬ (ac : Int) = 1 := by omega
    have hkw1 : IntKind.i64.wrap (k1 : Int) = (k1 : Int) := by rw [IntKind.wrap_i64]; omega
    clear hc1 hc2 hwith hkw hown harg hk1 hac hn hk hkm hw1
    go_enter Tryz.func202, Tryz.ntmps202
    go_wp2
    rw [← HW1.out]
    go_upto_region 4 with fail
    go_cut [] (fun wx => (∃ v1, Hid (ListAt wx gl B v1 L1) ∧ Hid (Frm gl (.slice la n lc) v1 w1 wx)) ∧ (wx.cell? ⟨W.heap.size, 0, none⟩ = some (.int .i64 V) ∧ wx.cell? ⟨W.heap.size, 1, none⟩ = some (.slice fa fn fc) ∧ wx.cell? ⟨W.heap.size, 2, none⟩ = some (.int .i64 T) ∧ wx.cell? ⟨W.heap.size + 1, 0, none⟩ = some (.int .i64 x0) ∧ wx.cell? ⟨W.heap.size + 1, 1, none⟩ = some (.int .u64 x1) ∧ wx.cell? ⟨W.heap.size + 1, 2, none⟩ = some (.int .u64 x2)))
    case first =>
      go_region_held3 (fun w' => w'.cell? ⟨W.heap.size, 0, none⟩ = some (.int .i64 V) ∧ w'.cell? ⟨W.heap.size, 1, none⟩ = some (.slice fa fn fc) ∧ w'.cell? ⟨W.heap.size, 2, none⟩ = some (.int .i64 T) ∧ w'.cell? ⟨W.heap.size + 1, 0, none⟩ = some (.int .i64 x0) ∧ w'.cell? ⟨W.heap.size + 1, 1, none⟩ = some (.int .u64 x1) ∧ w'.cell? ⟨W.heap.size + 1, 2, none⟩ = some (.int .u64 x2) ∧ w'.cell? ⟨b, o, none⟩ = some (.int .i64 a))
        (first | go_keep | exact ⟨hk3.cell q0, hk3.cell q1, hk3.cell q2, hk3.cell q3, hk3.cell q4, hk3.cell q5, hk3.cell qa⟩ | exact hS4)
        (first | (go_at_call 142; refine (HWI.out _).mono ?_; rintro e w3 ⟨rfl, hk3⟩) | (go_at_call 202; refine (HC1.out _ ((Kept.refl _).drew.trans hk3)).mono ?_; rintro e w4 ⟨rfl, h4, hS4⟩))
      all_goals
        obtain ⟨v1, h5, h6⟩ := h4
        have HL5 := Lib.hid h5
        have HF6 := Lib.hid h6
        obtain ⟨g0, g1, g2, g3, g4, g5, _⟩ := hS4
        clear h5 h6
        go_wp2_with fail
        go_meet
        exact ⟨⟨v1, HL5, HF6⟩, g0, g1, g2, g3, g4, g5⟩
    case rest =>
      obtain ⟨⟨v1, h5, h6⟩, g0, g1, g2, g3, g4, g5⟩ := hcut
      clear q0 q1 q2 q3 q4 q5 qa HC1 HWI hkw1
      have HC3 : Hid (∀ W', Kept wc W' → Calls Tryz.prog 202 #[.pointer (some ⟨gl, 0, none⟩), .agg #[.int .i64 V, .slice fa fn fc, .int .i64 T], .agg #[.int .i64 x0, .int .u64 x1, .int .u64 x2], .slice (some ⟨b, o + 1, none⟩) (m - 1) (ac - 1), .int .i64 k] W' fun e w' => e = .returned (.tuple #[]) ∧ (∃ v2, Hid (ListAt w' gl B v2 L2) ∧ Hid (Frm gl (.slice la n lc) v2 W w')) ∧ (w'.cell? ⟨W.heap.size, 0, none⟩ = some (.int .i64 V) ∧ w'.cell? ⟨W.heap.size, 1, none⟩ = some (.slice fa fn fc) ∧ w'.cell? ⟨W.heap.size, 2, none⟩ = some (.int .i64 T) ∧ w'.cell? ⟨W.heap.size + 1, 0, none⟩ = some (.int .i64 x0) ∧ w'.cell? ⟨W.heap.size + 1, 1, none⟩ = some (.int .u64 x1) ∧ w'.cell? ⟨W.heap.size + 1, 2, none⟩ = some (.int .u64 x2))) := Lib.hid fun W' hk => by
        have hf := (Frm.of_kept HKW.out).trans (h6.out.trans (Frm.of_kept hk))
        refine (HC2.out v1 W' (h5.out.kept hk) hf).mono fun _ _ ⟨he, v2, e1, e2⟩ => ⟨he, ⟨v2, Lib.hid e1, Lib.hid (hf.trans e2)⟩, ?_⟩
        have hs := hk.size
        have hs2 := h6.out.size
        have hne : ∀ j, j < 2 → some (W.heap.size + j) ≠ v1.ownBlock := fun j hj e => by
          rcases h6.out.own with h | h
          · rw [h] at e; have := HOWN.out _ e.symm; omega
          · have := h _ e.symm; omega
        have hne1 := hne 0 (by omega)
        have hne2 := hne 1 (by omega)
        exact ⟨e2.cell (by omega) (by omega) hne1 (hk.cell g0), e2.cell (by omega) (by omega) hne1 (hk.cell g1), e2.cell (by omega) (by omega) hne1 (hk.cell g2), e2.cell (by omega) (by omega) hne2 (hk.cell g3), e2.cell (by omega) (by omega) hne2 (hk.cell g4), e2.cell (by omega) (by omega) hne2 (hk.cell g5)⟩
      clear HC2 h5 h6
      go_upto_region 5 with fail
      go_region_held3 (fun w' => w'.cell? ⟨W.heap.size, 0, none⟩ = some (.int .i64 V) ∧ w'.cell? ⟨W.heap.size, 1, none⟩ = some (.slice fa fn fc) ∧ w'.cell? ⟨W.heap.size, 2, none⟩ = some (.int .i64 T) ∧ w'.cell? ⟨W.heap.size + 1, 0, none⟩ = some (.int .i64 x0) ∧ w'.cell? ⟨W.heap.size + 1, 1, none⟩ = some (.int .u64 x1) ∧ w'.cell? ⟨W.heap.size + 1, 2, none⟩ = some (.int .u64 x2))
        (first | go_keep | exact hS4)
        (first | (go_at_call 202; refine (HC3.out _ ((Kept.refl _).drew)).mono ?_; rintro e w4 ⟨rfl, ⟨v2, h7, h8⟩, hS4⟩))
      all_goals
        go_wp2
        go_end0
        exact ⟨rfl, v2, h7.out, h8.out⟩
  · subst hac
    have hkw1 : IntKind.i64.wrap (k1 : Int) = (k1 : Int) := by rw [IntKind.wrap_i64]; omega
    clear hc1 hc2 hwith hkw hown harg hk1 hn hk hkm hw1
    go_enter Tryz.func202, Tryz.ntmps202
    go_wp2
    rw [← HW1.out]
    go_upto_region 4 with fail
    go_cut [] (fun wx => (∃ v1, Hid (ListAt wx gl B v1 L1) ∧ Hid (Frm gl (.slice la n lc) v1 w1 wx)) ∧ (wx.cell? ⟨W.heap.size, 0, none⟩ = some (.int .i64 V) ∧ wx.cell? ⟨W.heap.size, 1, none⟩ = some (.slice fa fn fc) ∧ wx.cell? ⟨W.heap.size, 2, none⟩ = some (.int .i64 T) ∧ wx.cell? ⟨W.heap.size + 1, 0, none⟩ = some (.int .i64 x0) ∧ wx.cell? ⟨W.heap.size + 1, 1, none⟩ = some (.int .u64 x1) ∧ wx.cell? ⟨W.heap.size + 1, 2, none⟩ = some (.int .u64 x2)))
    case first =>
      go_region_held3 (fun w' => w'.cell? ⟨W.heap.size, 0, none⟩ = some (.int .i64 V) ∧ w'.cell? ⟨W.heap.size, 1, none⟩ = some (.slice fa fn fc) ∧ w'.cell? ⟨W.heap.size, 2, none⟩ = some (.int .i64 T) ∧ w'.cell? ⟨W.heap.size + 1, 0, none⟩ = some (.int .i64 x0) ∧ w'.cell? ⟨W.heap.size + 1, 1, none⟩ = some (.int .u64 x1) ∧ w'.cell? ⟨W.heap.size + 1, 2, none⟩ = some (.int .u64 x2) ∧ w'.cell? ⟨b, o, none⟩ = some (.int .i64 a))
        (first | go_keep | exact ⟨hk3.cell q0, hk3.cell q1, hk3.cell q2, hk3.cell q3, hk3.cell q4, hk3.cell q5, hk3.cell qa⟩ | exact hS4)
        (first | (go_at_call 142; refine (HWI.out _).mono ?_; rintro e w3 ⟨rfl, hk3⟩) | (go_at_call 202; refine (HC1.out _ ((Kept.refl _).drew.trans hk3)).mono ?_; rintro e w4 ⟨rfl, h4, hS4⟩))
      all_goals
        obtain ⟨v1, h5, h6⟩ := h4
        have HL5 := Lib.hid h5
        have HF6 := Lib.hid h6
        obtain ⟨g0, g1, g2, g3, g4, g5, _⟩ := hS4
        clear h5 h6
        go_wp2_with fail
        go_meet
        exact ⟨⟨v1, HL5, HF6⟩, g0, g1, g2, g3, g4, g5⟩
    case rest =>
      obtain ⟨⟨v1, h5, h6⟩, g0, g1, g2, g3, g4, g5⟩ := hcut
      clear q0 q1 q2 q3 q4 q5 qa HC1 HWI hkw1
      have HC3 : Hid (∀ W', Kept wc W' → Calls Tryz.prog 202 #[.pointer (some ⟨gl, 0, none⟩), .agg #[.int .i64 V, .slice fa fn fc, .int .i64 T], .agg #[.int .i64 x0, .int .u64 x1, .int .u64 x2], .slice (some ⟨b, o, none⟩) 0 0, .int .i64 k] W' fun e w' => e = .returned (.tuple #[]) ∧ (∃ v2, Hid (ListAt w' gl B v2 L2) ∧ Hid (Frm gl (.slice la n lc) v2 W w')) ∧ (w'.cell? ⟨W.heap.size, 0, none⟩ = some (.int .i64 V) ∧ w'.cell? ⟨W.heap.size, 1, none⟩ = some (.slice fa fn fc) ∧ w'.cell? ⟨W.heap.size, 2, none⟩ = some (.int .i64 T) ∧ w'.cell? ⟨W.heap.size + 1, 0, none⟩ = some (.int .i64 x0) ∧ w'.cell? ⟨W.heap.size + 1, 1, none⟩ = some (.int .u64 x1) ∧ w'.cell? ⟨W.heap.size + 1, 2, none⟩ = some (.int .u64 x2))) := Lib.hid fun W' hk => by
        have hf := (Frm.of_kept HKW.out).trans (h6.out.trans (Frm.of_kept hk))
        refine (HC2.out v1 W' (h5.out.kept hk) hf).mono fun _ _ ⟨he, v2, e1, e2⟩ => ⟨he, ⟨v2, Lib.hid e1, Lib.hid (hf.trans e2)⟩, ?_⟩
        have hs := hk.size
        have hs2 := h6.out.size
        have hne : ∀ j, j < 2 → some (W.heap.size + j) ≠ v1.ownBlock := fun j hj e => by
          rcases h6.out.own with h | h
          · rw [h] at e; have := HOWN.out _ e.symm; omega
          · have := h _ e.symm; omega
        have hne1 := hne 0 (by omega)
        have hne2 := hne 1 (by omega)
        exact ⟨e2.cell (by omega) (by omega) hne1 (hk.cell g0), e2.cell (by omega) (by omega) hne1 (hk.cell g1), e2.cell (by omega) (by omega) hne1 (hk.cell g2), e2.cell (by omega) (by omega) hne2 (hk.cell g3), e2.cell (by omega) (by omega) hne2 (hk.cell g4), e2.cell (by omega) (by omega) hne2 (hk.cell g5)⟩
      clear HC2 h5 h6
      go_upto_region 5 with fail
      go_region_held3 (fun w' => w'.cell? ⟨W.heap.size, 0, none⟩ = some (.int .i64 V) ∧ w'.cell? ⟨W.heap.size, 1, none⟩ = some (.slice fa fn fc) ∧ w'.cell? ⟨W.heap.size, 2, none⟩ = some (.int .i64 T) ∧ w'.cell? ⟨W.heap.size + 1, 0, none⟩ = some (.int .i64 x0) ∧ w'.cell? ⟨W.heap.size + 1, 1, none⟩ = some (.int .u64 x1) ∧ w'.cell? ⟨W.heap.size + 1, 2, none⟩ = some (.int .u64 x2))
        (first | go_keep | exact hS4)
        (first | (go_at_call 202; refine (HC3.out _ ((Kept.refl _).drew)).mono ?_; rintro e w4 ⟨rfl, ⟨v2, h7, h8⟩, hS4⟩))
      all_goals
        go_wp2
        go_end0
        exact ⟨rfl, v2, h7.out, h8.out⟩
set_option maxRecDepth 100000 in
set_option maxHeartbeats 16000000 in
theorem choose_any (gl B V : Nat) (T : Int) (v0 : Value) (W0 : World) (hs : ∃ a n c, v0 = .slice a n c) (hV : V ≤ 24) (hB : B ≤ gl) (_hBW : B ≤ W0.heap.size) :
    ∀ (args : List Int) (va : Value), (∀ w', Below B W0 w' → IntsAt w' va args) → (∀ a ∈ args, 0 ≤ a ∧ a < (V : Int) + 128) → args.length ≤ 100 → ∀ (k r : Nat) (v : Value) (L : List Nat) (W : World), Below B W0 W → ListAt W gl B v L → L.length ≤ 4097 → RowLt 152 r → k ≤ 1000 →
      Calls Tryz.prog 202 #[.pointer (some ⟨gl, 0, none⟩), .agg #[.int .i64 V, v0, .int .i64 T], rowV r, va, .int .i64 k] W fun e w' => e = .returned (.tuple #[]) ∧ ∃ v', ListAt w' gl B v' ((L ++ chooseK V args k r).take 4097) ∧ Frm gl v v' W w' := by
  obtain ⟨fa, fn, fc, rfl⟩ := hs
  intro args
  induction args with
  | nil =>
    intro va hva _ _ k r v L W hW hL hl hr hk
    obtain ⟨aa, an, ac, rfl⟩ := (hva W hW).shape
    have han : an = 0 := by
      obtain ⟨_, _, h, _⟩ := hva W hW
      injection h
    subst han
    have := choose_base gl B V 0 k r T fa aa fn fc ac v L W hB hL hl hr hk (by omega) (by omega)
    refine this.mono fun e w' ⟨he, v', h1, h2⟩ => ⟨he, v', ?_, h2⟩
    unfold chooseK
    by_cases hk0 : k = 0
    · rw [if_pos hk0]
      by_cases h9 : L.length = 4097
      · rw [if_pos (.inl h9)] at h1
        rw [List.take_append, h9, List.take_of_length_le (by omega)]; simpa using h1
      · rw [if_neg (by omega)] at h1
        rw [List.take_of_length_le (by simp; omega)]; exact h1
    · rw [if_neg hk0, List.append_nil, List.take_of_length_le hl]
      rw [if_pos (.inr (by omega))] at h1; exact h1
  | cons a l ih =>
    intro va hva hargs hal k r v L W hW hL hl hr hk
    obtain ⟨aa, an, ac, rfl⟩ := (hva W hW).shape
    have han : an = l.length + 1 := by
      obtain ⟨_, _, h, _⟩ := hva W hW
      injection h
    subst han
    by_cases hbase : L.length = 4097 ∨ l.length + 1 < k ∨ k = 0
    · have := choose_base gl B V (l.length + 1) k r T fa aa fn fc ac v L W hB hL hl hr hk (by simp at hal; omega) hbase
      refine this.mono fun e w' ⟨he, v', h1, h2⟩ => ⟨he, v', ?_, h2⟩
      by_cases h9 : L.length = 4097
      · rw [if_pos (.inl h9)] at h1
        rw [List.take_append, h9, List.take_of_length_le (by omega)]; simpa using h1
      · by_cases h8 : l.length + 1 < k
        · rw [if_pos (.inr h8)] at h1
          rw [chooseK_many V (a :: l) k r (by simpa using h8), List.append_nil, List.take_of_length_le hl]; exact h1
        · rw [if_neg (by omega)] at h1
          unfold chooseK
          rw [if_pos (by omega), List.take_of_length_le (by simp; omega)]; exact h1
    · have hl4 : L.length ≤ 4096 := by omega
      have hk1 : 1 ≤ k := by omega
      have hkl : k ≤ l.length + 1 := by omega
      obtain ⟨k1, hk1e⟩ : ∃ k1, k1 = k - 1 := ⟨_, rfl⟩
      have hlt : ∀ x ∈ l, 0 ≤ x ∧ x < (V : Int) + 128 := fun x hx => hargs x (List.mem_cons_of_mem _ hx)
      have ha := hargs a (List.mem_cons_self ..)
      have hr1 : RowLt 152 (withC V r a) := rowLt_or hr (rowLt_mono (rowLt_cond (V := V) (m := 128) (by omega) hV) (by omega))
      -- the tail
      obtain ⟨b, o, rfl, hca⟩ : ∃ b o, aa = some ⟨b, o, none⟩ ∧ ∀ w', Below B W0 w' → w'.cell? ⟨b, o, none⟩ = some (.int .i64 a) := by
        obtain ⟨a', c', h1, _, _, h4⟩ := hva W hW
        injection h1 with h1 h2 h3
        obtain ⟨b, o, h5, _⟩ := h4 0 (by simp)
        refine ⟨b, o, by rw [h1, h5], fun w' hw' => ?_⟩
        obtain ⟨a2, c2, g1, _, _, g4⟩ := hva w' hw'
        injection g1 with g1 g2 g3
        obtain ⟨b2, o2, g5, g6⟩ := g4 0 (by simp)
        rw [← g1, h1, h5] at g5
        injection g5 with g5
        injection g5 with g7 g8
        subst g7 g8
        simpa using g6
      have hac : l.length + 1 ≤ ac := by
        obtain ⟨_, _, h1, h2, _⟩ := hva W hW
        injection h1 with _ _ h3
        rw [h3]; simpa using h2.1
      have hcut : chooseK V (a :: l) k r = chooseK V l k1 (withC V r a) ++ chooseK V l k r := by
        rw [hk1e]
        conv => lhs; unfold chooseK
        rw [if_neg (by omega)]
      rw [hcut]
      obtain ⟨hro, hv⟩ := hL
      have hLA : ListAt W gl B v L := ⟨hro, hv⟩
      have hgl := hro.lt
      have c0 := hro.cell (i := 0) (by simp)
      simp only [List.getElem_cons_zero] at c0
      obtain ⟨la, lc, rfl⟩ := hv.at.shape
      have hBW' : B ≤ W.heap.size := by omega
      obtain ⟨tv, htv, hti⟩ : ∃ tv, ((2 ≤ ac ∧ tv = .slice (some ⟨b, o + 1, none⟩) (l.length + 1 - 1) (ac - 1)) ∨ (ac = 1 ∧ tv = .slice (some ⟨b, o, none⟩) 0 0)) ∧ ∀ w', Below B W0 w' → IntsAt w' tv l := by
        by_cases h2 : 2 ≤ ac
        · exact ⟨_, .inl ⟨h2, rfl⟩, fun w' hw' => ints_tail (hva w' hw') h2⟩
        · have hl0 : l = [] := List.eq_nil_of_length_eq_zero (by omega)
          subst hl0
          exact ⟨_, .inr ⟨by omega, rfl⟩, fun w' _ => ⟨some ⟨b, o, none⟩, 0, rfl, ⟨by simp, fun h => by cases h⟩, by simp, fun i h => by simp at h⟩⟩
      have hbo : b < W.heap.size := by
        have := hca W hW
        by_cases h : b < W.heap.size
        · exact h
        · simp [World.cell?, Array.getElem?_eq_none (Nat.le_of_not_lt h)] at this
      have hX1 : (L ++ chooseK V l k1 (withC V r a)).take 4097 = (L ++ chooseK V l k1 (withC V r a)).take 4097 := rfl
      refine choose_step gl B V L.length (l.length + 1) k k1 b o ac _ _ _ (evW (withC V r a)) (loW (withC V r a)) (hiW (withC V r a)) T a fa la fn fc lc tv ((L ++ chooseK V l k1 (withC V r a)).take 4097) _ W hgl c0 (fun g hg => (hv.own_ge hg).2) hl4 hk1 hkl (by simp at hal; omega) hac hk1e htv (fun v1 w' hf => hca w' (hW.trans (hf.below hv hB hBW'))) hbo (fun W' => rwith_any hr V _ T ⟨fa, fn, fc, rfl⟩ hV a (by omega) W') (fun W' hk => ?_) (fun v1 W' h1 h2 => ?_)
      · exact ih tv hti hlt (by simp at hal; omega) k1 (withC V r a) _ L W' (hW.trans (hk.mono hBW')) (hLA.kept hk) hl hr1 (by omega)
      · have h3 := ih tv hti hlt (by simp at hal; omega) k r v1 _ W' (hW.trans (h2.below hv hB hBW')) h1 (by rw [List.length_take]; omega) hr hk
        rw [take_app, List.append_assoc] at h3
        exact h3
end Go.Proofs.YthiemjodcklejaaGreatDoor

/-
  Walks: the list of topdown: expand.
-/
namespace Go.Proofs.YthiemjodcklejaaGreatDoor
open Go.RowKit

/-- Behind expand's first two statements. -/
def ExpSt (W wx : World) (V : Nat) (fs : Value) (T : Int) (y0 y1 y2 : Nat) (kd kk : Int) (us : Value) : Prop :=
  Kept W wx ∧ RowAt wx W.heap.size 24 [.int .i64 V, fs, .int .i64 T] ∧ RowAt wx (W.heap.size + 1) 121 [.int .i64 y0, .int .u64 y1, .int .u64 y2] ∧ RowAt wx (W.heap.size + 1 + 1) 80 [.int .i64 kd, .int .i64 kk, us]
theorem RowAt.made2 (w : World) (cs : Array Value) (e : TypeId) (o : Obj) : RowAt ((w.alloc (.cells cs e)).alloc o) w.heap.size e cs.toList := (RowAt.made w cs e).kept ((Kept.refl _).alloc o)
theorem RowAt.made3 (w : World) (cs : Array Value) (e : TypeId) (o p : Obj) : RowAt (((w.alloc (.cells cs e)).alloc o).alloc p) w.heap.size e cs.toList := (RowAt.made w cs e).kept (((Kept.refl _).alloc o).alloc p)
theorem expSt_made (W w2 : World) (V : Nat) (fs : Value) (T : Int) (x0 x1 x2 y0 y1 y2 : Nat) (kd kk : Int) (us : Value)
    (h : Kept (((W.alloc (.cells #[.int .i64 V, fs, .int .i64 T] 24)).alloc (.cells #[.int .i64 x0, .int .u64 x1, .int .u64 x2] 121)).alloc (.cells #[.int .i64 kd, .int .i64 kk, us] 80)) w2) :
    ExpSt W (((w2.setCell ⟨W.heap.size + 1, 0, none⟩ (.int .i64 y0)).setCell ⟨W.heap.size + 1, 1, none⟩ (.int .u64 y1)).setCell ⟨W.heap.size + 1, 2, none⟩ (.int .u64 y2)) V fs T y0 y1 y2 kd kk us := by
  have k0 : Kept W w2 := ((((Kept.refl W).alloc _).alloc _).alloc _).trans h
  have r1 : RowAt w2 W.heap.size 24 [.int .i64 V, fs, .int .i64 T] := (RowAt.made3 W #[.int .i64 V, fs, .int .i64 T] _ _ _).kept h
  have r2 : RowAt w2 (W.heap.size + 1) 121 [.int .i64 x0, .int .u64 x1, .int .u64 x2] := by
    have := (RowAt.made2 (W.alloc (.cells #[.int .i64 V, fs, .int .i64 T] 24)) #[.int .i64 x0, .int .u64 x1, .int .u64 x2] 121 (.cells #[.int .i64 kd, .int .i64 kk, us] 80)).kept h
    simpa using this
  have r3 : RowAt w2 (W.heap.size + 1 + 1) 80 [.int .i64 kd, .int .i64 kk, us] := by
    have := (RowAt.made ((W.alloc (.cells #[.int .i64 V, fs, .int .i64 T] 24)).alloc (.cells #[.int .i64 x0, .int .u64 x1, .int .u64 x2] 121)) #[.int .i64 kd, .int .i64 kk, us] 80).kept h
    simpa using this
  refine ⟨((k0.store (by omega) 0 _).store (by omega) 1 _).store (by omega) 2 _, ((r1.other (by omega) 0 _).other (by omega) 1 _).other (by omega) 2 _, ?_, ((r3.other (by omega) 0 _).other (by omega) 1 _).other (by omega) 2 _⟩
  have := ((r2.store 0 (.int .i64 y0)).store 1 (.int .u64 y1)).store 2 (.int .u64 y2)
  simpa using this
theorem exp_box {W w2 : World} {FB NB : Obj} {x0 x1 x2 : Value} {e : TypeId} (h : Kept (((W.alloc FB).alloc (.cells #[x0, x1, x2] e)).alloc NB) w2) : RowAt w2 (W.heap.size + 1) e [x0, x1, x2] := by
  have := (RowAt.made2 (W.alloc FB) #[x0, x1, x2] e NB).kept h
  simpa using this
set_option maxRecDepth 100000 in
set_option maxHeartbeats 16000000 in
theorem expand_any (gl B V i r b o n c : Nat) (T : Int) (x : Nd) (ua : Option Addr) (un uc : Nat) (v : Value) (L : List Nat) (W : World) (hB : B ≤ gl) (hV : V ≤ 24) (hBW : B ≤ W.heap.size) (hL : ListAt W gl B v L) (hl : L.length ≤ 4097) (hr : RowLt 152 r) (hi : i < 128) (hin : i < n)
    (hnd : W.rangeAt b (o + i * 3) [.int .i64 x.kind, .int .i64 x.k, .slice ua un uc]) (hia : ∀ w', Below B W w' → IntsAt w' (.slice ua un uc) x.args) (hargs : ∀ a ∈ x.args, 0 ≤ a ∧ a < (V : Int) + 128) (h16 : x.args.length ≤ 16)
    (hkd : x.kind = 0 ∨ x.kind = 2 ∨ x.kind = 3 ∨ x.kind = 4) (hk4 : x.kind = 4 → 1 ≤ x.k ∧ x.k ≤ x.args.length) :
    Calls Tryz.prog 145 #[.pointer (some ⟨gl, 0, none⟩), .agg #[.int .i64 V, .slice (some ⟨b, o, none⟩) n c, .int .i64 T], rowV r, .int .i64 i] W fun e w' => e = .returned (.tuple #[]) ∧ ∃ v', ListAt w' gl B v' ((L ++ expandK V x i r).take 4097) ∧ Frm gl v v' W w' := by
  obtain ⟨kd, kk, args⟩ := x
  simp only at hnd hia hargs h16 hkd hk4
  have hr1 : RowLt 152 (sdiff r (2 ^ (24 + i))) := fun j hj => by rw [sdiff_bit] at hj; simp at hj; exact hr j hj.1
  have HWO : Hid (∀ W', Calls Tryz.prog 201 #[rowV r, .int .i64 i] W' fun e w' => e = .returned (rowV (sdiff r (2 ^ (24 + i)))) ∧ Kept W' w') := Lib.hid fun W' => rwithout_any hr i hi W'
  have HEX : Hid (expandK V ⟨kd, kk, args⟩ i r = if kd = 0 then (if kk = 1 then [sdiff r (2 ^ (24 + i))] else []) else if kd = 2 then [args.foldl (withC V) (sdiff r (2 ^ (24 + i)))] else if kd = 3 then args.map (withC V (sdiff r (2 ^ (24 + i)))) else chooseK V args kk.toNat (sdiff r (2 ^ (24 + i)))) := rfl
  generalize sdiff r (2 ^ (24 + i)) = r1 at *
  obtain ⟨ex, hex⟩ : ∃ ex, ex = expandK V ⟨kd, kk, args⟩ i r := ⟨_, rfl⟩
  rw [← hex] at HEX ⊢
  have HL := Lib.hid hL
  have HR1 := Lib.hid hr1
  have HIA := Lib.hid hia
  have HARG := Lib.hid hargs
  have hun : un = args.length := by
    obtain ⟨_, _, h, _⟩ := hia W (Below.refl _ _)
    injection h
  have HUN := Lib.hid hun
  have hun16 : un ≤ 16 := by omega
  obtain ⟨y0, hy0⟩ : ∃ y, y = evW r1 := ⟨_, rfl⟩
  obtain ⟨y1, hy1⟩ : ∃ y, y = loW r1 := ⟨_, rfl⟩
  obtain ⟨y2, hy2⟩ : ∃ y, y = hiW r1 := ⟨_, rfl⟩
  have HY : Hid (y0 = evW r1 ∧ y1 = loW r1 ∧ y2 = hiW r1) := ⟨hy0, hy1, hy2⟩
  unfold rowV at *
  rw [← hy0, ← hy1, ← hy2] at HWO
  generalize evW r = x0 at *
  generalize loW r = x1 at *
  generalize hiW r = x2 at *
  have hii : (i : Int) < (n : Int) := by omega
  have HND : Hid (∀ C1 C2, ((W.alloc C1).alloc C2).rangeAt b (o + i * 3) [.int .i64 kd, .int .i64 kk, .slice ua un uc]) := Lib.hid fun C1 C2 => range_kept hnd (((Kept.refl W).alloc C1).alloc C2)
  have hgl := hL.1.lt
  have HK4 := Lib.hid hk4
  clear hL hr hr1 hnd hin hi hia hargs hun hex hy0 hy1 hy2 hk4
  go_enter Tryz.func145, Tryz.ntmps145
  go_upto_region 2 with (first | (with_reducible refine wpList_load_mid rfl 80 _ rfl b (o + i * 3) rfl _ _ (HND.out _ _) Tryz.underlying80 rfl (by kernel_rfl) ?_))
  go_cut [] (fun wx => Hid (ExpSt W wx V (.slice (some ⟨b, o, none⟩) n c) T y0 y1 y2 kd kk (.slice ua un uc)))
  case first =>
    go_wp2_with fail
    refine (HWO.out _).mono ?_
    rintro e w2 ⟨rfl, hk2⟩
    have hbx := exp_box hk2
    have d0 := hbx.cell (i := 0) (by simp)
    have d1 := hbx.cell (i := 1) (by simp)
    have d2 := hbx.cell (i := 2) (by simp)
    have f0 := hbx.free 0
    have f1 := hbx.free 1
    have f2 := hbx.free 2
    simp only [List.getElem_cons_succ, List.getElem_cons_zero] at d0 d1 d2
    clear hbx
    have HS := Lib.hid (expSt_made W w2 V (.slice (some ⟨b, o, none⟩) n c) T x0 x1 x2 y0 y1 y2 kd kk (.slice ua un uc) hk2)
    clear hk2
    go_wp2
    go_meet
    exact HS
  case rest =>
    obtain ⟨hkc, hf, hrw, hnw⟩ := hcut.out
    have hsz : W.heap.size + 1 + 1 < wc.heap.size := hnw.lt
    have e0 := hf.cell (i := 0) (by simp)
    have e1 := hf.cell (i := 1) (by simp)
    have e2 := hf.cell (i := 2) (by simp)
    have d0 := hrw.cell (i := 0) (by simp)
    have d1 := hrw.cell (i := 1) (by simp)
    have d2 := hrw.cell (i := 2) (by simp)
    have m0 := hnw.cell (i := 0) (by simp)
    have m1 := hnw.cell (i := 1) (by simp)
    have m2 := hnw.cell (i := 2) (by simp)
    simp only [List.getElem_cons_succ, List.getElem_cons_zero] at e0 e1 e2 d0 d1 d2 m0 m1 m2
    have HKC := Lib.hid hkc
    have HAD : Hid (∀ z W', RowLt 152 z → Kept wc W' → Calls Tryz.prog 146 #[.pointer (some ⟨gl, 0, none⟩), .agg #[.int .i64 (evW z), .int .u64 (loW z), .int .u64 (hiW z)]] W' fun e w' => e = .returned (.tuple #[]) ∧ ∃ v', ListAt w' gl B v' ((L ++ [z]).take 4097) ∧ Frm gl v v' W w') := Lib.hid fun z W' hz hk => by
      have := add_any gl B z v L W' (HL.out.kept (hkc.trans hk)) hz hl hB
      rw [addK_take hl] at this
      exact this.mono fun _ _ ⟨h1, v', h2, h3⟩ => ⟨h1, v', h2, (Frm.of_kept (hkc.trans hk)).trans h3⟩
    have HEXS := hcut
    clear hcut hkc hf hrw hnw HWO HND
    rcases hkd with hkd | hkd | hkd | hkd
    · subst hkd
      by_cases hk1 : kk = 1
      · have hk1b : (kk == 1) = true := by simpa using hk1
        have hex : ex = [r1] := by rw [HEX.out, if_pos rfl, if_pos hk1]
        have HA := HAD.out r1 wc HR1.out (Kept.refl _)
        rw [← HY.out.1, ← HY.out.2.1, ← HY.out.2.2] at HA
        rw [← hex] at HA
        have HA2 := Lib.hid HA
        clear hk1 hex HA
        go_wp2_with (go_at_call 146; refine HA2.out.mono ?_; rintro e w3 ⟨rfl, v', h3, h4⟩)
        refine bodyPost_end (results_none rfl _ _ _) rfl ?_
        exact ⟨rfl, v', h3, h4⟩
      · have hk1b : (kk == 1) = false := by simpa using hk1
        have hex : ex = [] := by rw [HEX.out, if_pos rfl, if_neg hk1]
        have HF : Hid (ListAt wc gl B v ((L ++ ex).take 4097)) := Lib.hid (by rw [hex, List.append_nil, List.take_of_length_le hl]; exact HL.out.kept HKC.out)
        clear hk1 hex HAD
        go_wp2
        refine bodyPost_end (results_none rfl _ _ _) rfl ?_
        exact ⟨rfl, v, HF.out, Frm.of_kept HKC.out⟩
    · subst hkd
      have hex : ex = [args.foldl (withC V) r1] := by rw [HEX.out, if_neg (by decide), if_pos rfl]
      have HXE := Lib.hid hex
      clear hex HEX
      go_wp2
      clear d0 d1 d2
      go_loopg [44] un (fun kx s44 wr => ∃ (k : Nat) (rk : Nat), s44 = .int .i64 k ∧ k ≤ un ∧ un - k ≤ kx ∧ Hid (rk = (args.take k).foldl (withC V) r1 ∧ RowLt 152 rk) ∧ Hid (ExpSt W wr V (.slice (some ⟨b, o, none⟩) n c) T (evW rk) (loW rk) (hiW rk) 2 kk (.slice ua un uc)))
      case atStart => exact ⟨0, r1, rfl, Nat.zero_le _, by omega, Lib.hid ⟨rfl, HR1.out⟩, by rw [← HY.out.1, ← HY.out.2.1, ← HY.out.2.2]; exact HEXS⟩
      case round =>
        clear e0 e1 e2 m0 m1 m2
        obtain ⟨k, rk, rfl, hk, hkx, HRK, HST⟩ := hrel
        obtain ⟨hkc, hf, hrw, hnw⟩ := HST.out
        have hsz2 : W.heap.size + 1 + 1 < wr.heap.size := hnw.lt
        have e0 := hf.cell (i := 0) (by simp)
        have e1 := hf.cell (i := 1) (by simp)
        have e2 := hf.cell (i := 2) (by simp)
        have d0 := hrw.cell (i := 0) (by simp)
        have d1 := hrw.cell (i := 1) (by simp)
        have d2 := hrw.cell (i := 2) (by simp)
        simp only [List.getElem_cons_succ, List.getElem_cons_zero] at e0 e1 e2 d0 d1 d2
        by_cases hlt : k < un
        · have hka : k < args.length := by have := HUN.out; omega
          obtain ⟨ba, oa, rfl, hca⟩ : ∃ ba oa, ua = some ⟨ba, oa, none⟩ ∧ wr.cell? ⟨ba, oa + k, none⟩ = some (.int .i64 args[k]) := by
            obtain ⟨a', c', h1, _, _, h4⟩ := HIA.out wr (hkc.mono hBW)
            injection h1 with h1 h2 h3
            subst h1
            exact h4 k hka
          have ha := HARG.out args[k] (List.getElem_mem _)
          have HWI : Hid (∀ W', Calls Tryz.prog 142 #[.agg #[.int .i64 (evW rk), .int .u64 (loW rk), .int .u64 (hiW rk)], .agg #[.int .i64 V, .slice (some ⟨b, o, none⟩) n c, .int .i64 T], .int .i64 args[k]] W' fun e w' => e = .returned (rowV (withC V rk args[k])) ∧ Kept W' w') := Lib.hid fun W' => rwith_any HRK.out.2 V _ T ⟨_, _, _, rfl⟩ hV args[k] ha W'
          have HRK2 : Hid (withC V rk args[k] = (args.take (k + 1)).foldl (withC V) r1 ∧ RowLt 152 (withC V rk args[k])) := Lib.hid ⟨by rw [List.take_succ_eq_append_getElem hka, List.foldl_append, ← HRK.out.1]; rfl, rowLt_or HRK.out.2 (rowLt_mono (rowLt_cond (V := V) (m := 128) (by omega) hV) (by omega))⟩
          unfold rowV at HWI
          obtain ⟨rk2, hrk2⟩ : ∃ x, x = withC V rk args[k] := ⟨_, rfl⟩
          rw [← hrk2] at HWI HRK2
          obtain ⟨ak, hak⟩ : ∃ x, x = args[k] := ⟨_, rfl⟩
          rw [← hak] at hca HWI
          have HST2 := Lib.hid (⟨hkc, hf, hrw, hnw⟩ : ExpSt W wr V (.slice (some ⟨b, o, none⟩) n c) T (evW rk) (loW rk) (hiW rk) 2 kk (.slice (some ⟨ba, oa, none⟩) un uc))
          generalize evW rk = z0 at *
          generalize loW rk = z1 at *
          generalize hiW rk = z2 at *
          clear hkc hf hrw hnw ha hak hrk2 HST
          go_wp2_with fail
          refine (HWI.out _).mono ?_
          rintro e w2 ⟨rfl, hk2⟩
          have hrw2 := HST2.out.2.2.1.kept hk2
          have d0' := hrw2.cell (i := 0) (by simp)
          have d1' := hrw2.cell (i := 1) (by simp)
          have d2' := hrw2.cell (i := 2) (by simp)
          have f0 := hrw2.free 0
          have f1 := hrw2.free 1
          have f2 := hrw2.free 2
          simp only [List.getElem_cons_succ, List.getElem_cons_zero] at d0' d1' d2'
          have HS3 : Hid (ExpSt W (((w2.setCell ⟨W.heap.size + 1, 0, none⟩ (.int .i64 (evW rk2))).setCell ⟨W.heap.size + 1, 1, none⟩ (.int .u64 (loW rk2))).setCell ⟨W.heap.size + 1, 2, none⟩ (.int .u64 (hiW rk2))) V (.slice (some ⟨b, o, none⟩) n c) T (evW rk2) (loW rk2) (hiW rk2) 2 kk (.slice (some ⟨ba, oa, none⟩) un uc)) := Lib.hid (by
            obtain ⟨g1, g2, g3, g4⟩ := HST2.out
            refine ⟨((((g1.trans hk2).store (by omega) 0 _).store (by omega) 1 _).store (by omega) 2 _), (((g2.kept hk2).other (by omega) 0 _).other (by omega) 1 _).other (by omega) 2 _, ?_, (((g4.kept hk2).other (by omega) 0 _).other (by omega) 1 _).other (by omega) 2 _⟩
            have := (((g3.kept hk2).store 0 (.int .i64 (evW rk2))).store 1 (.int .u64 (loW rk2))).store 2 (.int .u64 (hiW rk2))
            simpa using this)
          clear hrw2 hk2 e0 e1 e2 d0 d1 d2
          go_wp2
          go_roundg (un - (k + 1))
          case measure => omega
          case rel => exact ⟨k + 1, rk2, by go_num, by omega, Nat.le_refl _, HRK2, HS3⟩
        · have hke : k = un := by omega
          have hrk : rk = args.foldl (withC V) r1 := by rw [HRK.out.1, hke, HUN.out, List.take_length]
          have HA2 : Hid (Calls Tryz.prog 146 #[.pointer (some ⟨gl, 0, none⟩), .agg #[.int .i64 (evW rk), .int .u64 (loW rk), .int .u64 (hiW rk)]] wr fun e w' => e = .returned (.tuple #[]) ∧ ∃ v', ListAt w' gl B v' ((L ++ ex).take 4097) ∧ Frm gl v v' W w') := Lib.hid (by
            have := add_any gl B rk v L wr (HL.out.kept hkc) HRK.out.2 hl hB
            rw [addK_take hl] at this
            rw [HXE.out, ← hrk]
            exact this.mono fun _ _ ⟨h1, v', h2, h3⟩ => ⟨h1, v', h2, (Frm.of_kept hkc).trans h3⟩)
          generalize evW rk = z0 at *
          generalize loW rk = z1 at *
          generalize hiW rk = z2 at *
          clear hke hrk hkc hf hrw hnw HAD
          go_wp2_with (go_at_call 146; refine HA2.out.mono ?_; rintro e w3 ⟨rfl, v', h3, h4⟩)
          refine bodyPost_end (results_none rfl _ _ _) rfl ?_
          exact ⟨rfl, v', h3, h4⟩
    · subst hkd
      have hex : ex = args.map (withC V r1) := by rw [HEX.out, if_neg (by decide), if_neg (by decide), if_pos rfl]
      have HXE := Lib.hid hex
      have HOWN : Hid (∀ g, v.ownBlock = some g → g < W.heap.size) := Lib.hid fun g hg => (HL.out.2.own_ge hg).2
      clear hex HEX HAD
      go_wp2
      go_loopg [61] un (fun kx s61 wr => ∃ (k : Nat) (vk : Value), s61 = .int .i64 k ∧ k ≤ un ∧ un - k ≤ kx ∧ Hid (ListAt wr gl B vk ((L ++ (args.take k).map (withC V r1)).take 4097)) ∧ Hid (Frm gl v vk wc wr))
      case atStart => exact ⟨0, v, rfl, Nat.zero_le _, by omega, Lib.hid (by rw [List.take_zero, List.map_nil, List.append_nil, List.take_of_length_le hl]; exact HL.out.kept HKC.out), Lib.hid (Frm.of_kept (Kept.refl _))⟩
      case round =>
        clear m0 m1 m2
        obtain ⟨k, vk, rfl, hk, hkx, HLK, HFK⟩ := hrel
        have hsz2 := HFK.out.size
        by_cases hlt : k < un
        · have hka : k < args.length := by have := HUN.out; omega
          have hbelow : Below B W wr := (Frm.trans (Frm.of_kept HKC.out) HFK.out).below HL.out.2 hB hBW
          obtain ⟨ba, oa, rfl, hca⟩ : ∃ ba oa, ua = some ⟨ba, oa, none⟩ ∧ wr.cell? ⟨ba, oa + k, none⟩ = some (.int .i64 args[k]) := by
            obtain ⟨a', c', h1, _, _, h4⟩ := HIA.out wr hbelow
            injection h1 with h1 h2 h3
            subst h1
            exact h4 k hka
          have hne : ∀ j, j < 2 → some (W.heap.size + j) ≠ v.ownBlock := fun j hj e => by have := HOWN.out _ e.symm; omega
          have hne1 : some W.heap.size ≠ v.ownBlock := hne 0 (by omega)
          have hne2 : some (W.heap.size + 1) ≠ v.ownBlock := hne 1 (by omega)
          have e0' := HFK.out.cell (by omega) (by omega) hne1 e0
          have e1' := HFK.out.cell (by omega) (by omega) hne1 e1
          have e2' := HFK.out.cell (by omega) (by omega) hne1 e2
          have d0' := HFK.out.cell (by omega) (by omega) hne2 d0
          have d1' := HFK.out.cell (by omega) (by omega) hne2 d1
          have d2' := HFK.out.cell (by omega) (by omega) hne2 d2
          have E0 := Lib.hid e0
          have E1 := Lib.hid e1
          have E2 := Lib.hid e2
          have D0 := Lib.hid d0
          have D1 := Lib.hid d1
          have D2 := Lib.hid d2
          have ha := HARG.out args[k] (List.getElem_mem _)
          obtain ⟨rk2, hrk2⟩ : ∃ x, x = withC V r1 args[k] := ⟨_, rfl⟩
          have HWI : Hid (∀ W', Calls Tryz.prog 142 #[.agg #[.int .i64 y0, .int .u64 y1, .int .u64 y2], .agg #[.int .i64 V, .slice (some ⟨b, o, none⟩) n c, .int .i64 T], .int .i64 args[k]] W' fun e w' => e = .returned (rowV rk2) ∧ Kept W' w') := Lib.hid fun W' => by
            have := rwith_any HR1.out V (.slice (some ⟨b, o, none⟩) n c) T ⟨_, _, _, rfl⟩ hV args[k] ha W'
            rw [← hrk2] at this
            unfold rowV at this
            rw [← HY.out.1, ← HY.out.2.1, ← HY.out.2.2] at this
            exact this
          have hrl : RowLt 152 rk2 := by rw [hrk2]; exact rowLt_or HR1.out (rowLt_mono (rowLt_cond (V := V) (m := 128) (by omega) hV) (by omega))
          have HA2 : Hid (∀ W', Kept wr W' → Calls Tryz.prog 146 #[.pointer (some ⟨gl, 0, none⟩), rowV rk2] W' fun e w' => e = .returned (.tuple #[]) ∧ ∃ v', Hid (ListAt w' gl B v' ((L ++ (args.take (k + 1)).map (withC V r1)).take 4097)) ∧ Hid (Frm gl v v' wc w')) := Lib.hid fun W' hk => by
            have hlen : ((L ++ (args.take k).map (withC V r1)).take 4097).length ≤ 4097 := by rw [List.length_take]; omega
            have := add_any gl B rk2 vk _ W' (HLK.out.kept hk) hrl hlen hB
            rw [addK_take hlen, take_app, List.append_assoc] at this
            rw [List.take_succ_eq_append_getElem hka, List.map_append, List.map_singleton, ← hrk2]
            exact this.mono fun _ _ ⟨h1, v', h2, h3⟩ => ⟨h1, v', Lib.hid h2, Lib.hid ((HFK.out.trans (Frm.of_kept hk)).trans h3)⟩
          obtain ⟨ak, hak⟩ : ∃ x, x = args[k] := ⟨_, rfl⟩
          rw [← hak] at hca HWI
          unfold rowV at HWI HA2
          generalize evW rk2 = z0 at *
          generalize loW rk2 = z1 at *
          generalize hiW rk2 = z2 at *
          clear ha hak hrk2 hrl hne hne1 hne2 e0 e1 e2 d0 d1 d2 hbelow HLK HFK
          go_wp2_with fail
          refine (HWI.out _).mono ?_
          rintro e w2 ⟨rfl, hk2⟩
          go_wp2_with (go_at_call 146; refine (HA2.out _ hk2).mono ?_; rintro e w3 ⟨rfl, v', h3, h4⟩)
          go_roundg (un - (k + 1))
          case measure => omega
          case rel => exact ⟨k + 1, v', by go_num, by omega, Nat.le_refl _, h3, h4⟩
        · have hke : k = un := by omega
          have HF : Hid (ListAt wr gl B vk ((L ++ ex).take 4097)) := Lib.hid (by have h := HLK.out; rw [hke, HUN.out, List.take_length, ← HXE.out] at h; exact h)
          clear hke e0 e1 e2 d0 d1 d2
          go_wp2
          refine bodyPost_end (results_none rfl _ _ _) rfl ?_
          exact ⟨rfl, vk, HF.out, (Frm.of_kept HKC.out).trans HFK.out⟩
    · subst hkd
      obtain ⟨K, rfl⟩ := Int.eq_ofNat_of_zero_le (show 0 ≤ kk by have := HK4.out rfl; omega)
      have hK9 : K ≤ 16 := by have := HK4.out rfl; omega
      have hex : ex = chooseK V args K r1 := by rw [HEX.out, if_neg (by decide), if_neg (by decide), if_neg (by decide)]; rfl
      have HCH : Hid (∀ W', Kept wc W' → Calls Tryz.prog 202 #[.pointer (some ⟨gl, 0, none⟩), .agg #[.int .i64 V, .slice (some ⟨b, o, none⟩) n c, .int .i64 T], .agg #[.int .i64 y0, .int .u64 y1, .int .u64 y2], .slice ua un uc, .int .i64 K] W' fun e w' => e = .returned (.tuple #[]) ∧ ∃ v', ListAt w' gl B v' ((L ++ ex).take 4097) ∧ Frm gl v v' W w') := Lib.hid fun W' hk => by
        have h := choose_any gl B V T (.slice (some ⟨b, o, none⟩) n c) W ⟨_, _, _, rfl⟩ hV hB hBW args (.slice ua un uc) HIA.out HARG.out (by omega) K r1 v L W' ((HKC.out.trans hk).mono hBW) (HL.out.kept (HKC.out.trans hk)) hl HR1.out (by omega)
        rw [hex, HY.out.1, HY.out.2.1, HY.out.2.2]
        exact h.mono fun _ _ ⟨h1, v', h2, h3⟩ => ⟨h1, v', h2, (Frm.of_kept (HKC.out.trans hk)).trans h3⟩
      clear hex HAD
      go_wp2_with (go_at_call 202; refine (HCH.out _ (Kept.refl _)).mono ?_; rintro e w3 ⟨rfl, v', h3, h4⟩)
      refine bodyPost_end (results_none rfl _ _ _) rfl ?_
      exact ⟨rfl, v', h3, h4⟩
end Go.Proofs.YthiemjodcklejaaGreatDoor

/-
  Walks: topdown.least.
-/
namespace Go.Proofs.YthiemjodcklejaaGreatDoor
open Go.RowKit

theorem rcells_one (c : Nat) : ∀ u ∈ rcells c, u.oneCell' = true := fun u hu => by simp [rcells] at hu; rcases hu with rfl | rfl | rfl <;> rfl
theorem flat_one (L : List Nat) : ∀ u ∈ L.flatMap rcells, u.oneCell' = true := fun u hu => by
  obtain ⟨c, _, h⟩ := List.mem_flatMap.1 hu
  exact rcells_one c u h
theorem addr_add (b o j : Nat) : (⟨b, o, none⟩ : Addr).add j = ⟨b, o + j, none⟩ := by unfold Addr.add; split <;> simp_all
/-- append of a whole slice of rows to a row of the call's own. -/
theorem app_rws {ops : Array Oper} {rest : List Oper} {o : Oper} {a : Act} {Q : Exit → Act → World → Prop} {w : World} (hgd : o.guard = none) (s x : Operand)
    (ho : o.op = .call { callee := .builtin .append, args := #[s, x], argTypes := #[115, 115] }) (B : Nat) (v : Value) (L : List Nat) (hs : a.eval s = v) (hown : OwnRws w B v L)
    (ad : Addr) (n c : Nat) (M : List Nat) (hx : a.eval x = .slice (some ad) n c) (hu : RwsAt w (.slice (some ad) n c) M) (hl : L.length + M.length ≤ 10000) (hB : B ≤ w.heap.size)
    (h : ∀ v' w', OwnRws w' B v' (L ++ M) → Below B w w' → wpList Tryz.prog ops Q rest (a.put o.dst v') w') : wpList Tryz.prog ops Q (o :: rest) a w := by
  obtain ⟨i0, hi0, hz0, hz1, hz2⟩ := info_parts info_row
  obtain ⟨a', c', h1, h2, h3, h4, h5⟩ := hu
  cases h1
  refine wpList_append_own _ hgd s x 115 ho B 121 i0 _ 3 24 Tryz.underlying115 hi0 hz0 hz1 hz2 rfl (by decide) v L.length _ hs hown.1 ad M.length c (M.flatMap rcells) hx (len_flat M) ?_ (flat_one M) (by simp [maxLen]; omega) (by omega) hB ?_
  · intro j u hj
    have hj' : j < M.length * 3 := by
      rw [← len_flat]
      exact (List.getElem?_eq_some_iff.1 hj).1
    obtain ⟨b, o, h6, h7⟩ := h5 (j / 3) (by omega)
    cases h6
    have e := flat_get M (j / 3) (by omega) (j % 3) (by omega)
    rw [show j / 3 * 3 + j % 3 = j by omega, hj] at e
    have := h7 (j % 3) u e.symm
    rw [addr_add]
    rw [show o + j = o + j / 3 * 3 + j % 3 by omega]
    exact this
  · intro v' w' h6 h7 _
    refine h v' w' ⟨by rw [List.flatMap_append, List.length_append]; exact h6, by simp; omega, fun c hc => ?_⟩ (grown_below h7 hown.1 hB)
    rcases List.mem_append.1 hc with hc | hc
    · exact hown.2.2 c hc
    · exact h4 c hc
theorem own_emptyR (w : World) (B : Nat) (hB : B ≤ w.heap.size) : OwnRws (w.alloc (.cells #[] 121)) B (.slice (some ⟨w.heap.size, 0, none⟩) 0 0) [] :=
  ⟨⟨by simp, .inr ⟨w.heap.size, 0, #[], rfl, hB, heap_alloc_new w _, Nat.le_refl _, by unfold maxLen; omega, by simp, by simp⟩⟩, by simp, by simp⟩
set_option maxRecDepth 100000 in
theorem cloneR_any (v : Value) (L : List Nat) (w : World) (hv : RwsAt w v L) :
    Calls Tryz.prog 203 #[v] w fun e w' => (∃ v', e = .returned v' ∧ OwnRws w' w.heap.size v' L) ∧ Kept w w' := by
  have HV := Lib.hid hv
  obtain ⟨sa, c, rfl, ⟨_, hn0⟩, hl, _⟩ := hv
  cases sa with
  | none =>
    have hc0 := hn0 rfl
    subst hc0
    have hL0 : L = [] := by
      obtain ⟨_, _, h1, _, _, _, h5⟩ := HV.out
      cases L with
      | nil => rfl
      | cons x l =>
        obtain ⟨b, o, h6, _⟩ := h5 0 (by simp)
        injection h1 with h1
        rw [h6] at h1; cases h1
    subst hL0
    have hnl : ∀ w : World, (binOp .eql 115 (.slice none 0 0) (.slice none 0 0)).run Tryz.prog w = .ok (.bool true) w := fun w => Lib.run_eql_slice_nil w 115 121 none 0 0 0 0 Tryz.underlying115
    clear hn0 hl
    show Calls _ _ #[.slice none 0 0] _ _
    go_enter Tryz.func203, Tryz.ntmps203
    go_wp2
    go_ret
    exact ⟨⟨_, rfl, OwnRws.nil _ _⟩, Kept.refl _⟩
  | some ad =>
    obtain ⟨n, hn⟩ : ∃ n, n = L.length := ⟨_, rfl⟩
    have HV2 : Hid (RwsAt w (.slice (some ad) n c) L) := Lib.hid (by rw [hn]; exact HV.out)
    rw [← hn] at hl ⊢
    have HN := Lib.hid hn
    clear hn hn0 HV
    have hnl : ∀ w : World, (binOp .eql 115 (.slice (some ad) n c) (.slice none 0 0)).run Tryz.prog w = .ok (.bool false) w := fun w => Lib.run_eql_slice_nil w 115 121 (some ad) n c 0 0 Tryz.underlying115
    go_enter Tryz.func203, Tryz.ntmps203
    go_wp2_with (at_builtin; refine app_rws rfl _ _ rfl w.heap.size _ [] rfl (own_emptyR w _ (Nat.le_refl _)) ad n c L rfl (HV2.out.kept ((Kept.refl _).alloc _)) (by simp; have := HN.out; omega) (by simp) ?_; intro v7 w7 hown7 hb7; have O7 := Lib.hid hown7; have HB7 := Lib.hid hb7; clear hown7 hb7)
    go_ret
    exact ⟨⟨_, rfl, O7.out⟩, ((Kept.refl _).alloc _).app HB7.out⟩
def DecidesR (g : Nat) (lb : Array Value) (p : Nat → Bool) (w : World) : Prop :=
  ∀ (W : World) (x : Nat), Kept w W → RowLt 152 x → Calls Tryz.prog g (#[rowV x] ++ lb) W fun e W' => e = .returned (.bool (p x)) ∧ Kept W W'
set_option maxRecDepth 100000 in
theorem indexR_any (g : Nat) (lb : Array Value) (eg : ∀ args w, (callFunc g args).run Tryz.prog w = .ok (.enter g args) w) (p : Nat → Bool) (v : Value) (L : List Nat) (w : World)
    (hp : DecidesR g lb p w) (hv : RwsAt w v L) :
    Calls Tryz.prog 248 #[v, .func (.func g) #[] lb] w fun e w' => (∃ n : Int, e = .returned (.int .i64 n) ∧ (decide (0 ≤ n) = L.any p)) ∧ Kept w w' := by
  obtain ⟨a, c, rfl, ⟨hc, _⟩, hl, hlt, hx⟩ := hv
  obtain ⟨n, hn⟩ : ∃ n, n = L.length := ⟨_, rfl⟩
  have hbig : n ≤ 10000 := by omega
  rw [← hn]
  have HX := Lib.hid hx
  have HN := Lib.hid hn
  have HP := Lib.hid hp
  have HLT := Lib.hid hlt
  clear hx hn hp hl hc hlt
  go_enter Tryz.func248, Tryz.ntmps248
  go_wp2
  go_loopg [8] n (fun kx i wr => ∃ k : Nat, k ≤ n ∧ i = .int .i64 k ∧ n - k ≤ kx ∧ Hid (∀ x ∈ L.take k, p x = false) ∧ Hid (Kept w wr))
  case atStart => exact ⟨0, Nat.zero_le _, rfl, by omega, Lib.hid (by simp), Lib.hid (Kept.refl _)⟩
  case round =>
    obtain ⟨k, hk, rfl, hkx, HF, HK⟩ := hrel
    by_cases hlt : k < n
    · have hkl : k < L.length := by have := HN.out; omega
      obtain ⟨b, o, rfl, hrg⟩ := HX.out k hkl
      have hrg2 := range_kept hrg HK.out
      have hxl := HLT.out L[k] (List.getElem_mem _)
      obtain ⟨x, hxx⟩ : ∃ x, x = L[k] := ⟨_, rfl⟩
      rw [← hxx] at hrg2 hxl
      have HXX := Lib.hid hxx
      have HRG : Hid (wr.rangeAt b (o + k * 3) [.int .i64 (evW x), .int .u64 (loW x), .int .u64 (hiW x)]) := Lib.hid hrg2
      have HC : Hid (∀ W, Kept w W → Calls Tryz.prog g (#[.agg #[.int .i64 (evW x), .int .u64 (loW x), .int .u64 (hiW x)]] ++ lb) W fun e W' => e = .returned (.bool (p x)) ∧ Kept W W') := Lib.hid fun W hk => HP.out W x hk hxl
      have hkn : (k : Int) < (n : Int) := by omega
      obtain ⟨z0, hz0⟩ : ∃ z, z = evW x := ⟨_, rfl⟩
      obtain ⟨z1, hz1⟩ : ∃ z, z = loW x := ⟨_, rfl⟩
      obtain ⟨z2, hz2⟩ : ∃ z, z = hiW x := ⟨_, rfl⟩
      rw [← hz0, ← hz1, ← hz2] at HRG HC
      clear hrg hrg2 hxx hxl hz0 hz1 hz2
      cases hq : p x with
      | true =>
        rw [hq] at HC
        have HQ := Lib.hid hq
        clear hq
        go_wp2_with (first | (with_reducible refine wpList_load_mid rfl 121 _ rfl b (o + k * 3) rfl _ _ HRG.out Tryz.underlying121 rfl (by kernel_rfl) ?_) | (go_at_fn g; refine (HC.out _ HK.out).mono ?_; rintro e w' ⟨rfl, hK2⟩))
        go_ret
        refine ⟨⟨k, rfl, ?_⟩, HK.out.trans hK2⟩
        have : L.any p = true := List.any_eq_true.2 ⟨x, by rw [HXX.out]; exact List.getElem_mem _, HQ.out⟩
        rw [this]; simp
      | false =>
        rw [hq] at HC
        have HQ := Lib.hid hq
        clear hq
        go_wp2_with (first | (with_reducible refine wpList_load_mid rfl 121 _ rfl b (o + k * 3) rfl _ _ HRG.out Tryz.underlying121 rfl (by kernel_rfl) ?_) | (go_at_fn g; refine (HC.out _ HK.out).mono ?_; rintro e w' ⟨rfl, hK2⟩))
        go_roundg (n - (k + 1))
        case measure => omega
        case rel =>
          refine ⟨k + 1, by omega, by go_num, Nat.le_refl _, Lib.hid ?_, Lib.hid (HK.out.trans hK2)⟩
          intro y hy
          rw [List.take_succ_eq_append_getElem hkl] at hy
          rcases List.mem_append.1 hy with hy | hy
          · exact HF.out y hy
          · simp at hy; rw [hy, ← HXX.out]; exact HQ.out
    · go_wp2
      go_ret
      refine ⟨⟨-1, rfl, ?_⟩, HK.out⟩
      have hh := HF.out
      rw [List.take_of_length_le (by have := HN.out; omega)] at hh
      have : L.any p = false := by rw [List.any_eq_false]; intro y hy; simp [hh y hy]
      rw [this]; rfl
set_option maxRecDepth 100000 in
theorem hasR_any (g : Nat) (lb : Array Value) (eg : ∀ args w, (callFunc g args).run Tryz.prog w = .ok (.enter g args) w) (p : Nat → Bool) (v : Value) (L : List Nat) (w : World)
    (hp : DecidesR g lb p w) (hv : RwsAt w v L) :
    Calls Tryz.prog 207 #[v, .func (.func g) #[] lb] w fun e w' => e = .returned (.bool (L.any p)) ∧ Kept w w' := by
  have h := indexR_any g lb eg p v L w hp hv
  have H := Lib.hid h
  clear h hp hv eg
  obtain ⟨r, hr⟩ : ∃ r, r = L.any p := ⟨_, rfl⟩
  rw [← hr] at H ⊢
  clear hr
  go_enter Tryz.func207, Tryz.ntmps207
  go_wp2_with (go_at_call 248; refine H.out.mono ?_; rintro e w' ⟨⟨n, rfl, hn⟩, hK⟩; have HN := Lib.hid hn; clear hn)
  go_ret
  exact ⟨by rw [← HN.out]; rfl, hK⟩
set_option maxRecDepth 100000 in
theorem decides_part (c B : Nat) (w : World) (hc : RowLt 152 c) (h0 : w.cell? ⟨B, 0, none⟩ = some (.int .i64 (evW c))) (h1 : w.cell? ⟨B, 1, none⟩ = some (.int .u64 (loW c))) (h2 : w.cell? ⟨B, 2, none⟩ = some (.int .u64 (hiW c))) :
    DecidesR 208 #[.pointer (some ⟨B, 0, none⟩)] (fun t => subN t c) w := by
  intro W x hK hx
  show Calls Tryz.prog _ _ W fun e W' => e = .returned (.bool (subN x c)) ∧ Kept W W'
  have h0' := hK.cell h0
  have h1' := hK.cell h1
  have h2' := hK.cell h2
  have HP : Hid (∀ W', Calls Tryz.prog 209 #[rowV x, rowV c] W' fun e w' => e = .returned (.bool (subN x c)) ∧ ∃ C O, w' = (W'.alloc C).alloc O) := Lib.hid fun W' => rpart_any hx hc W'
  have hbl : B < W.heap.size := by
    by_cases h : B < W.heap.size
    · exact h
    · simp [World.cell?, Array.getElem?_eq_none (Nat.le_of_not_lt h)] at h0'
  unfold rowV at *
  generalize subN x c = q at *
  generalize evW c = y0 at *
  generalize loW c = y1 at *
  generalize hiW c = y2 at *
  generalize evW x = z0 at *
  generalize loW x = z1 at *
  generalize hiW x = z2 at *
  clear h0 h1 h2 hK hx hc
  show Calls Tryz.prog 208 #[.agg #[.int .i64 z0, .int .u64 z1, .int .u64 z2], .pointer (some ⟨B, 0, none⟩)] W _
  go_enter Tryz.func208, Tryz.ntmps208
  go_wp2_with (go_at_call 209; refine (HP.out _).mono ?_; rintro e w' ⟨rfl, C, O, rfl⟩)
  go_ret
  exact ⟨rfl, (((Kept.refl _).alloc _).alloc _).alloc _⟩
/-- append of one row that lies in a block of its own. -/
theorem app_row {ops : Array Oper} {rest : List Oper} {o : Oper} {a : Act} {Q : Exit → Act → World → Prop} {w : World} (hgd : o.guard = none) (s x : Operand)
    (ho : o.op = .call { callee := .builtin .append, args := #[s, x], argTypes := #[115, 115] }) (B : Nat) (v : Value) (L : List Nat) (hs : a.eval s = v) (hown : OwnRws w B v L)
    (g c : Nat) (hx : a.eval x = .slice (some ⟨g, 0, none⟩) 1 1) (hu : w.rangeAt g 0 (rcells c)) (hc : RowLt 152 c) (hl : L.length < 10000) (hB : B ≤ w.heap.size)
    (h : ∀ v' w', OwnRws w' B v' (L ++ [c]) → Below B w w' → wpList Tryz.prog ops Q rest (a.put o.dst v') w') : wpList Tryz.prog ops Q (o :: rest) a w :=
  app_rws hgd s x ho B v L hs hown ⟨g, 0, none⟩ 1 1 [c] hx ⟨_, 1, rfl, ⟨by simp, fun h => by cases h⟩, by simp, by simpa using hc, fun i hi => ⟨g, 0, rfl, by
    have : i = 0 := by simpa using hi
    subst this; simpa using hu⟩⟩ (by simp; omega) hB h
theorem minN_take (l : List Nat) (k : Nat) (h : k < l.length) : minN (l.take (k + 1)) = keepN (minN (l.take k)) l[k] := by
  unfold minN
  rw [List.take_succ_eq_append_getElem h, List.foldl_append]; rfl
theorem range_row (w : World) (x0 x1 x2 : Value) (e : TypeId) : (w.alloc (.cells #[x0, x1, x2] e)).rangeAt w.heap.size 0 [x0, x1, x2] := by
  intro j v hj
  match j, hj with
  | 0, hj => simp at hj; subst hj; simp
  | 1, hj => simp at hj; subst hj; simp
  | 2, hj => simp at hj; subst hj; simp
set_option maxRecDepth 100000 in
set_option maxHeartbeats 4000000 in
theorem least_perm_any (v : Value) (L : List Nat) (w : World) (hv : RwsAt w v L) (hl : L.length ≤ 4097) :
    Calls Tryz.prog 147 #[v] w fun e w' => (∃ v' M, e = .returned v' ∧ OwnRws w' w.heap.size v' M ∧ M.Perm (minK L)) ∧ Kept w w' := by
  have HCL := Lib.hid (cloneR_any v L w hv)
  have eg2 : ∀ args w, (callFunc 208 args).run Tryz.prog w = .ok (.enter 208 args) w := enters_of Tryz.func208 (by kernel_rfl) rfl
  have EG2 := Lib.hid eg2
  have hsh : ∃ a n c, v = .slice a n c := by obtain ⟨a, c, h⟩ := hv.shape; exact ⟨a, _, c, h⟩
  obtain ⟨a, nn, c, rfl⟩ := hsh
  clear hv eg2
  go_enter Tryz.func147, Tryz.ntmps147
  go_wp2_with fail
  refine HCL.out.mono ?_
  rintro e w1 ⟨⟨v1, rfl, ho1⟩, hk1⟩
  have HS := Lib.hid (sortStable_any w.heap.size v1 L w1 ho1 hk1.size)
  obtain ⟨a1, c1, hv1⟩ := ho1.at.shape
  obtain ⟨n, hn⟩ : ∃ n, n = L.length := ⟨_, rfl⟩
  rw [← hn] at hv1 hl
  subst hv1
  have HN := Lib.hid hn
  have HK1 := Lib.hid hk1
  clear hn ho1 hk1
  go_wp2_with fail
  refine HS.out.mono ?_
  rintro e w2 ⟨rfl, M, hperm, hpair, ho2, hb2⟩
  have hk2 : Kept w w2 := HK1.out.app hb2
  have HK2 := Lib.hid hk2
  have HPM : Hid (M.Perm L ∧ M.Pairwise (fun a b => pc a ≤ pc b)) := ⟨hperm, hpair⟩
  have hml : M.length = n := by rw [hperm.length_eq]; exact HN.out.symm
  have HML := Lib.hid hml
  have HM : Hid (∀ W, Kept w2 W → RwsAt W (.slice a1 n c1) M) := Lib.hid fun W hk => ho2.at.kept hk
  clear hperm hpair ho2 hb2 hk2 hml HS
  go_wp2
  go_loopg [3, 12] n (fun kx s3 s12 wr => ∃ (k : Nat) (vo : Value), s3 = vo ∧ s12 = .int .i64 k ∧ k ≤ n ∧ n - k ≤ kx ∧ Hid (OwnRws wr w2.heap.size vo (minN (M.take k))) ∧ Hid (Kept w2 wr))
  case atStart => exact ⟨0, _, rfl, rfl, Nat.zero_le _, by omega, Lib.hid (OwnRws.nil _ _), Lib.hid (Kept.refl _)⟩
  case round =>
    obtain ⟨k, vo, rfl, rfl, hk, hkx, HO, HK⟩ := hrel
    have hsz := HK.out.size
    obtain ⟨ao, co, hvo⟩ := HO.out.at.shape
    obtain ⟨mo, hmo⟩ : ∃ mo, mo = (minN (M.take k)).length := ⟨_, rfl⟩
    rw [← hmo] at hvo
    subst hvo
    by_cases hlt : k < n
    · have hkl : k < M.length := by have := HML.out; omega
      have hmo9 : mo ≤ k := by rw [hmo]; refine Nat.le_trans (len_minN _ []) ?_; simp; omega
      obtain ⟨b, o, rfl, hrg⟩ : ∃ b o, a1 = some ⟨b, o, none⟩ ∧ wr.rangeAt b (o + k * 3) (rcells M[k]) := by
        obtain ⟨a', c', h1, _, _, _, h5⟩ := HM.out wr HK.out
        injection h1 with h1 h2 h3
        subst h1
        exact h5 k hkl
      have hxl : RowLt 152 M[k] := by obtain ⟨_, _, _, _, _, h4, _⟩ := HM.out wr HK.out; exact h4 _ (List.getElem_mem _)
      have hstep := minN_take M k hkl
      obtain ⟨x, hxx⟩ : ∃ x, x = M[k] := ⟨_, rfl⟩
      rw [← hxx] at hrg hxl hstep
      obtain ⟨out, hout⟩ : ∃ out, out = minN (M.take k) := ⟨_, rfl⟩
      rw [← hout] at hstep HO hmo
      have HST := Lib.hid hstep
      have HXL := Lib.hid hxl
      have HHAS : Hid (∀ W, Kept wr W → W.cell? ⟨wr.heap.size, 0, none⟩ = some (.int .i64 (evW x)) → W.cell? ⟨wr.heap.size, 1, none⟩ = some (.int .u64 (loW x)) → W.cell? ⟨wr.heap.size, 2, none⟩ = some (.int .u64 (hiW x)) →
        Calls Tryz.prog 207 #[.slice ao mo co, .func (.func 208) #[] #[.pointer (some ⟨wr.heap.size, 0, none⟩)]] W fun e w' => e = .returned (.bool (out.any fun t => subN t x)) ∧ Kept W w') := Lib.hid fun W hk h0 h1 h2 =>
          hasR_any 208 #[.pointer (some ⟨wr.heap.size, 0, none⟩)] EG2.out (fun t => subN t x) _ out W (decides_part x wr.heap.size W hxl h0 h1 h2) ((HO.out.kept hk).at)
      have HRC : Hid (rcells x = [.int .i64 (evW x), .int .u64 (loW x), .int .u64 (hiW x)]) := rfl
      unfold rcells at hrg
      generalize evW x = z0 at *
      generalize loW x = z1 at *
      generalize hiW x = z2 at *
      have HRG := Lib.hid hrg
      have HMO := Lib.hid hmo
      have hkn : (k : Int) < (n : Int) := by omega
      clear hrg hxl hstep hxx hout hmo
      cases hq : out.any (fun t => subN t x) with
      | true =>
        have HQ := Lib.hid hq
        rw [hq] at HHAS
        clear hq
        go_wp2_with (first | (with_reducible refine wpList_load_mid rfl 121 _ rfl b (o + k * 3) rfl _ _ HRG.out Tryz.underlying121 rfl (by kernel_rfl) ?_) | (go_at_call 207; refine (HHAS.out _ ((Kept.refl _).alloc _) (by simp) (by simp) (by simp)).mono ?_; rintro e w3 ⟨rfl, hk3⟩))
        go_roundg (n - (k + 1))
        case measure => omega
        case rel => exact ⟨k + 1, _, rfl, by go_num, by omega, Nat.le_refl _, Lib.hid (by rw [HST.out, keepN, HQ.out]; exact HO.out.kept (((Kept.refl _).alloc _).trans hk3)), Lib.hid (HK.out.trans (((Kept.refl _).alloc _).trans hk3))⟩
      | false =>
        have HQ := Lib.hid hq
        rw [hq] at HHAS
        clear hq
        go_wp2_with (first | (with_reducible refine wpList_load_mid rfl 121 _ rfl b (o + k * 3) rfl _ _ HRG.out Tryz.underlying121 rfl (by kernel_rfl) ?_) | (go_at_call 207; refine (HHAS.out _ ((Kept.refl _).alloc _) (by simp) (by simp) (by simp)).mono ?_; rintro e w3 ⟨rfl, hk3⟩; have b0 := hk3.cell (p := ⟨wr.heap.size, 0, none⟩) (v := .int .i64 z0) (by simp); have b1 := hk3.cell (p := ⟨wr.heap.size, 1, none⟩) (v := .int .u64 z1) (by simp); have b2 := hk3.cell (p := ⟨wr.heap.size, 2, none⟩) (v := .int .u64 z2) (by simp); have hs3 := hk3.size; have HO3 := Lib.hid (HO.out.kept (((Kept.refl _).alloc _).trans hk3)); have HK3 := Lib.hid (HK.out.trans (((Kept.refl _).alloc _).trans hk3)); clear hk3) | (at_builtin; refine app_row rfl _ _ rfl w2.heap.size _ out rfl (HO3.out.kept ((Kept.refl _).alloc _)) w3.heap.size x rfl (by rw [HRC.out]; exact range_row w3 _ _ _ _) HXL.out (by have := HMO.out; omega) (by simp at hs3 ⊢; omega) ?_; intro v4 w4 hown4 hb4; have HO4 := Lib.hid hown4; have HB4 := Lib.hid hb4; clear hown4 hb4))
        go_roundg (n - (k + 1))
        case measure => omega
        case rel => exact ⟨k + 1, v4, rfl, by go_num, by omega, Nat.le_refl _, Lib.hid (by rw [HST.out, keepN, HQ.out]; exact HO4.out), Lib.hid ((HK3.out.alloc _).app HB4.out)⟩
    · have hke : k = n := by omega
      have HF : Hid (OwnRws wr w2.heap.size (.slice ao mo co) (minN M)) := Lib.hid (by have h := HO.out; rw [hke, ← HML.out, List.take_length] at h; exact h)
      clear hke hmo
      go_wp2
      go_ret
      exact ⟨⟨_, minN M, rfl, HF.out.mono HK2.out.size, least_perm HPM.out.1 HPM.out.2⟩, HK2.out.trans HK.out⟩
end Go.Proofs.YthiemjodcklejaaGreatDoor

/-
  Plain: one round of the top-down search, whatever the order of the rows.
-/
namespace Go.Proofs.YthiemjodcklejaaGreatDoor

/-- Where the search stands: rows L in some order, steps done, what is still to come. -/
structure Stand (V T : Nat) (f : Fm) (L st : List Nat) (m : Nat) : Prop where
  le : m ≤ f.nodes.length
  lt : ∀ r ∈ L, RowLt (24 + m) r
  mkd : ∀ r ∈ L, Marked V (belowK V T f.nodes) r
  len : L.length ≤ 1024
  run : ∃ R : List Nat, L.Perm R ∧ topK V T f.nodes = (runK V f.nodes m R).map fun p => (p.1, st ++ p.2)
theorem Stand.start {V T : Nat} {f : Fm} (hok : Ok f V T) : Stand V T f [cond V T] [] f.nodes.length := by
  have hT := hok.tlt
  refine ⟨Nat.le_refl _, fun r hr => ?_, fun r hr => ?_, by simp, ⟨[cond V T], .refl _, ?_⟩⟩
  · simp at hr; subst hr; exact rowLt_cond (by omega) hok.v24
  · simp at hr; subst hr
    refine marked_cond (by omega) hok.v24 ?_
    unfold belowK
    refine belowGo_keep V f.nodes _ _ _ ?_
    rw [List.getD_eq_getElem?_getD, Int.toNat_natCast, List.getElem?_set_self (by simp; omega)]; rfl
  · unfold topK
    cases runK V f.nodes f.nodes.length [cond V T] with
    | none => rfl
    | some p => rfl
/-- No row has a node left. -/
theorem Stand.done {V T : Nat} {f : Fm} {L st : List Nat} {m : Nat} (h : Stand V T f L st m) (hn : ∀ c ∈ L, ∀ j, c.testBit (24 + j) = true → False) : ∃ R, topK V T f.nodes = some (R, st) ∧ L.Perm R := by
  obtain ⟨R, hp, hr⟩ := h.run
  refine ⟨R, ?_, hp⟩
  rw [hr, runK_skip V f.nodes 0 R m (Nat.zero_le _) fun j _ _ => ?_]
  · show some (R, st ++ []) = _
    rw [List.append_nil]
  · rw [List.any_eq_false]
    intro r hr hb
    exact hn r (hp.mem_iff.2 hr) j hb
/-- A node is expanded. -/
theorem Stand.at {V T : Nat} {f : Fm} {L st : List Nat} {m i : Nat} (h : Stand V T f L st m) (hi : ∃ c ∈ L, c.testBit (24 + i) = true) (hmax : ∀ c ∈ L, ∀ j, c.testBit (24 + j) = true → j ≤ i) :
    i < m ∧ (belowK V T f.nodes).getD (V + i) false = true ∧ ∃ R : List Nat, L.Perm R ∧ R.any (fun r => r.testBit (24 + i)) = true ∧ topK V T f.nodes = (runK V f.nodes (i + 1) R).map fun p => (p.1, st ++ p.2) := by
  obtain ⟨c, hc, hb⟩ := hi
  have him : i < m := by have := h.lt c hc _ hb; omega
  obtain ⟨R, hp, hr⟩ := h.run
  refine ⟨him, h.mkd c hc i hb, R, hp, List.any_eq_true.2 ⟨c, hp.mem_iff.1 hc, hb⟩, ?_⟩
  rw [hr, runK_skip V f.nodes (i + 1) R m (by omega) fun j h1 _ => ?_]
  rw [List.any_eq_false]
  intro r hr hb
  have := hmax r (hp.mem_iff.2 hr) j hb
  omega
theorem Stand.full {V T : Nat} {f : Fm} {L st : List Nat} {m i : Nat} (h : Stand V T f L st m) (hi : ∃ c ∈ L, c.testBit (24 + i) = true) (hmax : ∀ c ∈ L, ∀ j, c.testBit (24 + j) = true → j ≤ i)
    (hl : 4096 < (expK V (f.nodes.getD i noNd) i L).length) : topK V T f.nodes = none := by
  obtain ⟨_, _, R, hp, ha, hr⟩ := h.at hi hmax
  rw [hr]
  conv => lhs; unfold runK
  rw [if_pos ha, if_neg (by rw [← (expK_perm (V := V) (i := i) (x := f.nodes.getD i noNd) hp).length_eq]; omega)]; rfl
theorem Stand.many {V T : Nat} {f : Fm} {L M st : List Nat} {m i : Nat} (h : Stand V T f L st m) (hi : ∃ c ∈ L, c.testBit (24 + i) = true) (hmax : ∀ c ∈ L, ∀ j, c.testBit (24 + j) = true → j ≤ i)
    (hM : M.Perm (minK (expK V (f.nodes.getD i noNd) i L))) (hl : 1024 < M.length) : topK V T f.nodes = none := by
  obtain ⟨_, _, R, hp, ha, hr⟩ := h.at hi hmax
  have he := minK_perm (expK_perm (V := V) (i := i) (x := f.nodes.getD i noNd) hp)
  rw [hr]
  conv => lhs; unfold runK
  rw [if_pos ha]
  split
  · rw [if_neg (by rw [← he, ← hM.length_eq]; omega)]; rfl
  · rfl
theorem Stand.next {V T : Nat} {f : Fm} (hok : Ok f V T) {L M st : List Nat} {m i : Nat} (h : Stand V T f L st m) (hi : ∃ c ∈ L, c.testBit (24 + i) = true) (hmax : ∀ c ∈ L, ∀ j, c.testBit (24 + j) = true → j ≤ i)
    (hl4 : (expK V (f.nodes.getD i noNd) i L).length ≤ 4096) (hM : M.Perm (minK (expK V (f.nodes.getD i noNd) i L))) (hl : M.length ≤ 1024) : Stand V T f M (st ++ [M.length]) i := by
  obtain ⟨him, hmk, R, hp, ha, hr⟩ := h.at hi hmax
  have hle := h.le
  have hil : i < f.nodes.length := by omega
  have hnd : f.nodes.getD i noNd = f.nodes[i] := by simp [List.getD_eq_getElem?_getD, hil]
  have hmem : ∀ r ∈ M, r ∈ expK V (f.nodes.getD i noNd) i L := fun r hr => mem_minK (hM.mem_iff.1 hr)
  refine ⟨by omega, fun r hr => ?_, fun r hr => ?_, hl, ⟨minK (expK V (f.nodes.getD i noNd) i R), ?_, ?_⟩⟩
  · refine rowLt_expK hok.v24 (by rw [hnd]; exact hok.args i hil) (fun c hc j hj => ?_) r (hmem r hr)
    by_cases h24 : j < 24
    · omega
    · have := hmax c hc (j - 24) (by rw [show 24 + (j - 24) = j by omega]; exact hj)
      omega
  · exact marked_expK hok.v24 h.mkd (fun hk a ha => by rw [hnd] at ha; exact ⟨(hok.args i hil a ha).1, below_closed V T f hok i hil hk a ha⟩) r (hmem r hr)
  · rw [← minK_perm (expK_perm (V := V) (i := i) (x := f.nodes.getD i noNd) hp)]; exact hM
  · rw [hr]
    have he := minK_perm (expK_perm (V := V) (i := i) (x := f.nodes.getD i noNd) hp)
    conv => lhs; unfold runK
    rw [if_pos ha, if_pos (by rw [← (expK_perm (V := V) (i := i) (x := f.nodes.getD i noNd) hp).length_eq]; exact hl4), if_pos (by rw [← he, ← hM.length_eq]; exact hl), ← he, ← hM.length_eq]
    cases runK V f.nodes i (minK (expK V (f.nodes.getD i noNd) i L)) with
    | none => rfl
    | some p => show some _ = some _; simp
theorem expK_take (V : Nat) (x : Nd) (i : Nat) (L : List Nat) (k : Nat) (h : k < L.length) : expK V x i (L.take (k + 1)) = expK V x i (L.take k) ++ expR V x i L[k] := by
  unfold expK
  rw [List.take_succ_eq_append_getElem h, List.flatMap_append]; simp
end Go.Proofs.YthiemjodcklejaaGreatDoor

/-
  Walks: bottomup.Cuts.
-/
namespace Go.Proofs.YthiemjodcklejaaGreatDoor
open Go.RowKit

def cutsK (V T : Nat) (nodes : List Nd) : Option (List Nat) := (famsK V T nodes).map fun l => if T < V then [2 ^ T] else l.getD (T - V) []
end Go.Proofs.YthiemjodcklejaaGreatDoor

/-
  Walks: faultlinebase.Num, Ints, Rows.
-/
namespace Go.Proofs.YthiemjodcklejaaGreatDoor
open Go.RowKit

theorem as_errno (v : Value) (w : World) : (Instr.typeAssert (.iface 45 v) 33 45 true).run Tryz.prog w = .ok (.tuple #[v, .bool true]) w := by kernel_rfl
end Go.Proofs.YthiemjodcklejaaGreatDoor

/-
  Walks: faultlinelaw31.Example.
-/
namespace Go.Proofs.YthiemjodcklejaaGreatDoor
open Go.RowKit

/-- The document's example. -/
def exN : List Nd := [⟨3, 0, [0, 1]⟩, ⟨3, 0, [0, 2]⟩, ⟨2, 0, [3, 4]⟩]
end Go.Proofs.YthiemjodcklejaaGreatDoor

/-
  Plain: the example's families.
-/
namespace Go.Proofs.YthiemjodcklejaaGreatDoor
open Go.RowKit

def exF : Fm := ⟨3, exN, 5⟩
theorem pcs : pc 0 = 0 ∧ pc 1 = 1 ∧ pc 2 = 1 ∧ pc 3 = 2 ∧ pc 4 = 1 ∧ pc 5 = 2 ∧ pc 6 = 2 ∧ pc 7 = 3 := by
  have h0 : pc 0 = 0 := by unfold pc; simp
  have h1 : pc 1 = 1 := by unfold pc; simp [h0]
  have h2 : pc 2 = 1 := by unfold pc; simp [h1]
  have h3 : pc 3 = 2 := by unfold pc; simp [h1]
  have h4 : pc 4 = 1 := by unfold pc; simp [h2]
  have h5 : pc 5 = 2 := by unfold pc; simp [h2]
  have h6 : pc 6 = 2 := by unfold pc; simp [h3]
  have h7 : pc 7 = 3 := by unfold pc; simp [h3]
  exact ⟨h0, h1, h2, h3, h4, h5, h6, h7⟩
end Go.Proofs.YthiemjodcklejaaGreatDoor

/-
  Walks: faultlinebase.Clip, faultlinelaw31.Heavy.
-/
namespace Go.Proofs.YthiemjodcklejaaGreatDoor
open Go.RowKit

theorem clip_any (k : Int) (w : World) : Calls Tryz.prog 54 #[.int .i64 k, .int .i64 1, .int .i64 16] w fun e w' => (∃ z, e = .returned (.int .i64 z)) ∧ Kept w w' := by
  go_enter Tryz.func54, Tryz.ntmps54
  go_wp2
  all_goals (go_ret; exact ⟨⟨_, rfl⟩, Kept.refl _⟩)
set_option maxRecDepth 100000 in
set_option maxHeartbeats 2000000 in
theorem heavy_any (v : Value) (f : Fm) (w : World) (hv : NodesAt w v f.nodes) :
    Calls Tryz.prog 12 #[fmV v f] w fun e w' => (∃ b, e = .returned (.bool b)) ∧ Kept w w' := by
  obtain ⟨a, c, rfl, _, hl, hx⟩ := hv
  obtain ⟨n, hn⟩ : ∃ n, n = f.nodes.length := ⟨_, rfl⟩
  rw [← hn] at hl ⊢
  obtain ⟨vars, nodes, top⟩ := f
  have HX := Lib.hid hx
  have HN := Lib.hid hn
  clear hx hn
  show Calls _ _ #[.agg #[.int .i64 vars, .slice a n c, .int .i64 top]] _ _
  go_enter Tryz.func12, Tryz.ntmps12
  go_wp2
  all_goals first
    | (go_ret; exact ⟨by simp, (Kept.refl _).alloc _⟩)
    | skip
  all_goals
    go_loopw [3, 4, 36] (fun p q i wr => ∃ (k : Nat) (x y : Int), k ≤ n ∧ i = .int .i64 k ∧ p = .int .i64 x ∧ q = .int .i64 y ∧ Kept w wr) (fun _ _ i _ => n - (intOf i).toNat)
    case atStart => exact ⟨0, 0, 0, Nat.zero_le _, rfl, rfl, rfl, (Kept.refl _).alloc _⟩
    case round =>
      obtain ⟨k, x, y, hk, rfl, rfl, rfl, hK⟩ := hrel
      by_cases hlt : k < n
      · obtain ⟨b, o, rfl, u, h1, h2, h3, h4⟩ := HX.out k (by have := HN.out; omega)
        obtain ⟨ax, cx, rfl, _, hlx, hcx⟩ := h4
        have hrange := Lib.hid (node_range (hK.cell h1) (hK.cell h2) (hK.cell h3))
        clear hcx h1 h2 h3
        generalize nodes[k].kind = kd at hrange
        generalize nodes[k].k = kk at hrange
        generalize nodes[k].args.length = na at hrange hlx
        by_cases hv4 : kd = 4
        · subst hv4
          go_wp2_with (with_reducible refine wpList_load_mid rfl 80 _ rfl b (o + k * 3) rfl _ _ hrange.out Tryz.underlying80 rfl (by kernel_rfl) ?_)
          have d1 : (wr.alloc (.cells #[.int .i64 4, .int .i64 kk, .slice ax na cx] 80)).cell? ⟨wr.heap.size, 1, none⟩ = some (.int .i64 kk) := by simp
          have d2 : (wr.alloc (.cells #[.int .i64 4, .int .i64 kk, .slice ax na cx] 80)).cell? ⟨wr.heap.size, 2, none⟩ = some (.slice ax na cx) := by simp
          go_region_held3 (fun w' => w'.cell? ⟨wr.heap.size, 1, none⟩ = some (.int .i64 kk) ∧ w'.cell? ⟨wr.heap.size, 2, none⟩ = some (.slice ax na cx))
            (first | go_keep | exact ⟨hk5.cell d1, hk5.cell d2⟩)
            (first | (go_at_call 54; refine (clip_any kk _).mono ?_; rintro e w5 ⟨⟨z, rfl⟩, hk5⟩))
          go_wp2
          go_roundw
          case rel => exact ⟨k + 1, _, _, by omega, by simp, rfl, rfl, (hK.alloc _).trans ((Kept.refl _).drew.trans hk5)⟩
          case measure => simp [intOf]; omega
        · have e4 : (kd == 4) = false := by simpa using hv4
          go_wp2_with (with_reducible refine wpList_load_mid rfl 80 _ rfl b (o + k * 3) rfl _ _ hrange.out Tryz.underlying80 rfl (by kernel_rfl) ?_)
          go_roundw
          case rel => exact ⟨k + 1, _, _, by omega, by simp, rfl, rfl, hK.alloc _⟩
          case measure => simp [intOf]; omega
      · go_wp2
        all_goals (try go_quiet (fail))
        all_goals (try go_wp2)
        all_goals (go_ret; first | exact ⟨⟨_, rfl⟩, hK⟩ | exact ⟨.inl rfl, hK⟩ | exact ⟨.inr rfl, hK⟩)
end Go.Proofs.YthiemjodcklejaaGreatDoor

/-
  The frame of the laws over a formula: an argument read as data is a formula in memory; the law's answer makes its row.
-/
namespace Go.Proofs.YthiemjodcklejaaGreatDoor
open Go.RowKit Go.ChangeShapes Go.WideShapes Go.ChangeAt Go.Joins Go.Deep

theorem ownK : ownKnob Tryz.prog.godebug = none := by kernel_rfl
theorem laidOutK : laidOutB Tryz.prog = true := by kernel_rfl
theorem cells_fm : Tryz.prog.cellsOf 24 = 3 := by kernel_rfl
theorem cells_node : Tryz.prog.cellsOf 80 = 3 := by kernel_rfl
theorem cells_int : Tryz.prog.cellsOf 3 = 1 := by kernel_rfl
theorem cells_ints : Tryz.prog.cellsOf 52 = 1 := by kernel_rfl
theorem bytes_node : Tryz.prog.bytesOf 80 = 40 := by kernel_rfl
theorem bytes_int : Tryz.prog.bytesOf 3 = 8 := by kernel_rfl

theorem weightsAll_mem {H : Type} {P : Program} {e : TypeId} : ∀ {l : List (DataW H)} {d : DataW H}, d ∈ l → ∀ n ∈ d.weights P e, n ∈ DataW.weightsAll P e l
  | d' :: r, d, hd, n, hn => by
    simp only [DataW.weightsAll, List.mem_append]
    rcases List.mem_cons.1 hd with rfl | h
    · exact .inl hn
    · exact .inr (weightsAll_mem h n hn)

theorem addP (b o j : Nat) : (⟨b, o, none⟩ : Addr).add j = ⟨b, o + j, none⟩ := by unfold Addr.add; split <;> simp_all
section
variable {H : Type} {enc : TypeId × Value → H} {W : World} {base : Nat}
/-- Ints of a slice, read. -/
theorem ints_open {fuel : Nat} {cs : List Value} {x : DataW H × List MemPlace} (hb : ∀ n ∈ x.1.weights Tryz.prog 52, n ≤ reachBytes)
    (h : DataW.trod enc Tryz.prog W base (fun _ => true) true fuel 52 cs = some x) : ∃ u xs, cs = [u] ∧ IntsAt W u xs ∧ ∀ z ∈ xs, -9223372036854775808 ≤ z ∧ z ≤ 9223372036854775807 := by
  rcases open_ints Tryz.underlying52 Tryz.underlying3 cells_int h with ⟨rfl, rfl⟩ | ⟨a, len, cap, zs, rfl, _, hl, hm, hz, rfl, hcell, hwz⟩
  · exact ⟨_, [], rfl, IntsAt.nil _, by simp⟩
  · simp only [if_true] at hz
    have hbb := hb ((zs.take len).length * 8 + (zs.drop len).length * 8) (by
      simp only [DataW.weights, Tryz.underlying52, bytes_int, List.mem_cons]
      exact .inl (by simp [lits]; omega))
    simp [reachBytes] at hbb
    refine ⟨_, zs.take len, rfl, ⟨some a, cap, by simp; omega, ⟨by simp; omega, fun h => by cases h⟩, by simp; omega, fun i hi => ?_⟩, fun z hz => bounds_i64 (hwz z (List.mem_of_mem_take hz))⟩
    simp only [List.length_take] at hi
    have hc := hcell i (by omega)
    obtain ⟨b, o, spot⟩ := a
    have hspot : spot = none := World.cell?_spot (hcell 0 (by omega))
    subst hspot
    refine ⟨b, o, rfl, ?_⟩
    have e : (zs.take len)[i]'(by simp; omega) = zs.getD i 0 := by simp [List.getD_eq_getElem?_getD, show i < zs.length by omega]
    rw [e, ← hc]
    congr 1
    by_cases h0 : i = 0
    · subst h0; rfl
    · simp [Addr.add, h0]
instance : Inhabited Nd := ⟨⟨0, 0, []⟩⟩
/-- All numbers of a node are ints of 64 bits. -/
def NdOk (x : Nd) : Prop := (-9223372036854775808 ≤ x.kind ∧ x.kind ≤ 9223372036854775807) ∧ (-9223372036854775808 ≤ x.k ∧ x.k ≤ 9223372036854775807) ∧ ∀ z ∈ x.args, -9223372036854775808 ≤ z ∧ z ≤ 9223372036854775807
def FmOk (f : Fm) : Prop := (-9223372036854775808 ≤ f.vars ∧ f.vars ≤ 9223372036854775807) ∧ (-9223372036854775808 ≤ f.top ∧ f.top ≤ 9223372036854775807) ∧ ∀ x ∈ f.nodes, NdOk x
set_option maxRecDepth 100000 in
theorem nodes_open {fuel : Nat} {cs : List Value} {x : DataW H × List MemPlace} (hb : ∀ n ∈ x.1.weights Tryz.prog 22, n ≤ reachBytes)
    (h : DataW.trod enc Tryz.prog W base (fun _ => true) true fuel 22 cs = some x) : ∃ u xs, cs = [u] ∧ NodesAt W u xs ∧ ∀ y ∈ xs, NdOk y := by
  rcases open_slice Tryz.underlying22 h with ⟨rfl, rfl⟩ | ⟨a, len, cap, m, n, D, Pl, rfl, _, hl, hm, hmm, rfl, hx⟩
  · exact ⟨_, [], rfl, ⟨none, 0, rfl, ⟨by simp, fun _ => rfl⟩, by simp, fun i h => by simp at h⟩, by simp⟩
  · simp only [if_true] at hmm
    have hmc := hmm.symm
    subst hmc
    have hbb := hb (cap * 40) (by
      simp only [DataW.weights, Tryz.underlying22, bytes_node, List.mem_cons]
      refine .inl ?_
      simp; omega)
    simp [reachBytes] at hbb
    have each : ∀ i, i < len → ∃ y : Nd, NdOk y ∧ ∃ b o, a = ⟨b, o, none⟩ ∧ NodeAt W b (o + i * 3) y := by
      intro i hi
      obtain ⟨cs', hc, ht⟩ := hx i (by omega)
      rw [cells_node] at hc
      obtain ⟨_, hcl, hat⟩ := World.cells?_some hc
      obtain ⟨y0, y1, y2, n', hy, hlen, g0, g1, g2⟩ := trod_struct3 Tryz.underlying80 ht
      match cs', hcl with
      | [c0, c1, c2], _ =>
        have q0 := hat 0 (by omega)
        have q1 := hat 1 (by omega)
        have q2 := hat 2 (by omega)
        simp only [List.getElem?_cons_zero, List.getElem?_cons_succ] at q0 q1 q2
        have k0 : Tryz.prog.cellsOf 3 = 1 := cells_int
        have k2 : Tryz.prog.cellsOf 52 = 1 := cells_ints
        simp only [k0, k2, List.drop_zero, List.drop_succ_cons, List.take_succ_cons, List.take_zero] at g0 g1 g2
        obtain ⟨kd, e0, hy0, w0⟩ := DataW.trod_int Tryz.underlying3 g0
        obtain ⟨kk, e1, hy1, w1⟩ := DataW.trod_int Tryz.underlying3 g1
        simp at e0 e1
        subst e0 e1
        have hdi : D i = .agg [y0.1, y1.1, y2.1] := by simpa using congrArg Prod.fst hy
        obtain ⟨u, xs, e2, hu, hwu⟩ := ints_open (fun n hn => hb n (by
          simp only [DataW.weights, Tryz.underlying22, List.mem_cons, List.mem_append]
          refine .inr (.inl (weightsAll_mem (d := D i) (List.mem_map.2 ⟨i, by simpa using hi, rfl⟩) n ?_))
          rw [hdi]
          simp only [DataW.weights, Tryz.underlying80]
          simp only [List.map_cons, DataW.weightsEach, List.mem_append]
          exact .inr (.inr (.inl hn)))) g2
        simp at e2
        subst e2
        obtain ⟨b, o, spot⟩ := a
        have hspot : spot = none := by
          obtain ⟨cs0, hc0, _⟩ := hx 0 (by omega)
          rw [cells_node] at hc0
          obtain ⟨_, hcl0, hat0⟩ := World.cells?_some hc0
          have h1 := hat0 0 (by omega)
          rw [List.getElem?_eq_getElem (by omega)] at h1
          exact World.cell?_spot (a := ⟨b, o, spot⟩) (by simpa [Addr.add] using h1)
        subst hspot
        refine ⟨⟨kd, kk, xs⟩, ⟨bounds_i64 w0, bounds_i64 w1, hwu⟩, b, o, rfl, c2, ?_, ?_, ?_, hu⟩
        · rw [← q0, addP, addP]; rfl
        · rw [← q1, addP, addP]
        · rw [← q2, addP, addP]
    obtain ⟨g, hg⟩ := choose_lt each
    refine ⟨_, (List.range len).map g, rfl, ⟨some a, cap, by simp, ⟨by simp; omega, fun h => by cases h⟩, by simp; omega, fun i hi => ?_⟩, fun y hy => ?_⟩
    · simp only [List.length_map, List.length_range] at hi
      obtain ⟨_, b, o, rfl, h1⟩ := hg i hi
      exact ⟨b, o, rfl, by simpa using h1⟩
    · obtain ⟨i, hi, rfl⟩ := List.mem_map.1 hy
      exact (hg i (by simpa using hi)).1
set_option maxRecDepth 100000 in
/-- A formula that came in. -/
theorem fm_open {v : Value} {d : DataW H} {p : List MemPlace} (hv : Value.okWide Tryz.prog W .any base 24 v) (hb : ∀ n ∈ d.weights Tryz.prog 24, n ≤ reachBytes)
    (h : DataW.Trod enc Tryz.prog W 0 (fun _ => true) true 24 v d p) : ∃ u f, v = fmV u f ∧ NodesAt W u f.nodes ∧ FmOk f := by
  obtain ⟨v0, v1, v2, y0, y1, y2, n, rfl, hd, _, t0, t1, t2⟩ := open_agg3 Tryz.underlying24 (by kernel_rfl) cells_fm hv h
  obtain ⟨vars, e0, _, w0⟩ := DataW.trod_int Tryz.underlying3 t0
  obtain ⟨top, e2, _, w2⟩ := DataW.trod_int Tryz.underlying3 t2
  simp at e0 e2
  subst e0 e2
  obtain ⟨u, xs, e1, hu, hwu⟩ := nodes_open (fun n hn => hb n (by
    rw [hd]
    simp only [DataW.weights, Tryz.underlying24]
    simp only [List.map_cons, DataW.weightsEach, List.mem_append]
    exact .inr (.inl hn))) t1
  simp at e1
  subst e1
  exact ⟨v1, ⟨vars, xs, top⟩, rfl, hu, bounds_i64 w0, bounds_i64 w2, hwu⟩
end
end Go.Proofs.YthiemjodcklejaaGreatDoor

/-
  Walks: topdown.run.
-/
namespace Go.Proofs.YthiemjodcklejaaGreatDoor
open Go.RowKit

theorem node_read {w : World} {v : Value} {nodes : List Nd} (h : NodesAt w v nodes) (i : Nat) (hi : i < nodes.length) :
    ∃ b o n c ua un uc, v = .slice (some ⟨b, o, none⟩) n c ∧ n = nodes.length ∧ ∀ W, Kept w W → W.rangeAt b (o + i * 3) [.int .i64 nodes[i].kind, .int .i64 nodes[i].k, .slice ua un uc] ∧ IntsAt W (.slice ua un uc) nodes[i].args := by
  obtain ⟨a, c, h1, _, _, h4⟩ := h
  obtain ⟨b, o, h5, u, e0, e1, e2, e3⟩ := h4 i hi
  obtain ⟨ua, un, uc, rfl⟩ := e3.shape
  exact ⟨b, o, _, c, ua, un, uc, by rw [h1, h5], rfl, fun W hk => ⟨node_range (hk.cell e0) (hk.cell e1) (hk.cell e2), e3.kept hk⟩⟩
/-- What run answers. -/
def RunRes (w' : World) (e : Ending) (r : Option (List Nat × List Nat)) : Prop :=
  match r with
  | some p => ∃ v1 v2 L, e = .returned (.tuple #[v1, v2, .nilIface]) ∧ OwnRws w' 0 v1 L ∧ L.Perm p.1 ∧ OwnInts w' 0 v2 (ofN p.2)
  | none => e = .returned (.tuple #[.slice none 0 0, .slice none 0 0, errV 4])
set_option maxRecDepth 100000 in
theorem run_typed (v : Value) (V : Nat) (T : Int) (w : World) (hs : ∃ a n c, v = .slice a n c) (hsy : ∀ W, Kept w W → Calls Tryz.prog 141 #[.agg #[.int .i64 V, v, .int .i64 T]] W fun e w' => e = .returned (.tuple #[.bool false, .nilIface]) ∧ Kept W w') :
    Calls Tryz.prog 98 #[.agg #[.int .i64 V, v, .int .i64 T]] w fun e w' => e = .returned (.tuple #[.slice none 0 0, .slice none 0 0, errV 7]) ∧ Kept w w' := by
  obtain ⟨a, n, c, rfl⟩ := hs
  have H := Lib.hid hsy
  clear hsy
  rw [errV_pos (show (7 : Nat) ≠ 0 by decide)]
  go_enter Tryz.func98, Tryz.ntmps98
  go_wp2_with (go_at_call 141; refine (H.out _ ((Kept.refl _).alloc _)).mono ?_; rintro e w1 ⟨rfl, hk1⟩)
  go_ret3
  exact ⟨rfl, ((Kept.refl _).alloc _).trans hk1⟩
end Go.Proofs.YthiemjodcklejaaGreatDoor
