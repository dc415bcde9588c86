import Derived.Test.YtapniojbnochiaaR3m
/-
  Walks: faultlineref06.Plus, Product.
-/
namespace Go.Proofs.Ytapniojbnochiaa
open Go.RowKit

/-- What a reference returns: a list and 0, or no list and ErrLarge. -/
def RRes (w' : World) (e : Ending) (r : Option (List Nat)) : Prop :=
  match r with
  | some l => ∃ v, e = .returned (.tuple #[v, .int .i64 0]) ∧ OwnSets w' 0 v l
  | none => e = .returned (.tuple #[.slice none 0 0, .int .i64 4])
set_option maxRecDepth 100000 in
set_option maxHeartbeats 4000000 in
theorem rplus_any (a b : List Nat) (va vb : Value) (w : World) (ha : SetsAt w va a) (hb : SetsAt w vb b) :
    Calls Try.prog 90 #[va, vb] w fun e w' => RRes w' e (plusK a b) ∧ Kept w w' := by
  by_cases hl : a.length ≤ 1024 ∧ b.length ≤ 1024
  · have HA := Lib.hid ha
    have HB := Lib.hid hb
    have H0 := Lib.hid (both_ok a b va vb w ha hb hl.1 hl.2)
    have hla := hl.1
    have hlb := hl.2
    obtain ⟨aa, ca, rfl, hca, _⟩ := ha.shape
    obtain ⟨ab, cb, rfl, hcb, _⟩ := hb.shape
    obtain ⟨r, hr⟩ : ∃ r, r = plusK a b := ⟨_, rfl⟩
    rw [← hr]
    unfold plusK at hr
    rw [if_pos hl] at hr
    have hmk : ∀ n ∈ a ++ b, Mk n := fun n hn => by
      rcases List.mem_append.1 hn with h | h
      · exact ha.2 n h
      · exact hb.2 n h
    have HM := Lib.hid hmk
    have hle : (a ++ b).length ≤ 2048 := by simp; omega
    have HRR := Lib.hid hr
    clear ha hb hl hr hmk
    go_enter Try.func90, Try.ntmps90
    go_wp2_with fail
    refine H0.out.mono ?_
    rintro e w0 ⟨rfl, rfl⟩
    go_wp2_with (first
      | (at_builtin; refine app_ints rfl _ _ rfl w.heap.size _ [] rfl (own_empty w _ (Nat.le_refl _)) _ (ofN a) rfl (HA.out.1.kept ((Kept.refl _).alloc _)) (by simp; omega) (by simp) ?_; intro v7 w7 hown7 _ hb7; have O7 := Lib.hid hown7; have HB7 := Lib.hid (((Kept.refl w).alloc _).app hb7); clear hown7 hb7)
      | (at_builtin; refine app_ints rfl _ _ rfl w.heap.size _ ([] ++ ofN a) rfl O7.out _ (ofN b) rfl (HB.out.1.kept HB7.out) (by simp; omega) (by have := HB7.out.size; omega) ?_; intro v8 w8 hown8 _ hb8; have O8 := Lib.hid hown8; have HB8 := Lib.hid (HB7.out.app hb8); clear hown8 hb8))
    have hs8 : SetsAt w8 v8 (a ++ b) := ⟨by have := O8.out.ints; simpa [ofN] using this, HM.out⟩
    refine (least_any (a ++ b) v8 w8 hs8 (by omega)).mono ?_
    rintro e w9 ⟨⟨v9, rfl, ho9⟩, hk9⟩
    have HS9 := Lib.hid ho9.sets
    have HO9 := Lib.hid ho9
    have HK9 := Lib.hid (HB8.out.trans hk9)
    obtain ⟨a9, c9, rfl, _, _⟩ := ho9.sets.shape
    clear ho9 hk9 hs8
    by_cases hmm : (minK (a ++ b)).length ≤ 1024
    · have HL := Lib.hid (limited_ok _ _ w9 HS9.out hmm)
      have hrr : r = some (minK (a ++ b)) := by rw [HRR.out, if_pos hmm]
      have HRF := Lib.hid hrr
      clear hmm hrr
      go_wp2_with (go_at_call 120; refine HL.out.mono ?_; rintro e w' ⟨rfl, rfl⟩)
      go_ret2
      exact ⟨by rw [HRF.out]; exact ⟨_, rfl, HO9.out⟩, HK9.out⟩
    · have HL := Lib.hid (limited_large _ _ w9 HS9.out hmm)
      have hrr : r = none := by rw [HRR.out, if_neg hmm]
      have HRF := Lib.hid hrr
      clear hmm hrr
      go_wp2_with (go_at_call 120; refine HL.out.mono ?_; rintro e w' ⟨rfl, rfl⟩)
      go_ret2
      exact ⟨by rw [HRF.out]; rfl, HK9.out⟩
  · have H0 := Lib.hid (both_large a b va vb w ha hb hl)
    obtain ⟨aa, ca, rfl, hca, _⟩ := ha.shape
    obtain ⟨ab, cb, rfl, hcb, _⟩ := hb.shape
    have hr : plusK a b = none := by unfold plusK; rw [if_neg hl]
    rw [hr]
    clear ha hb hl hr
    go_enter Try.func90, Try.ntmps90
    go_wp2_with fail
    refine H0.out.mono ?_
    rintro e w0 ⟨rfl, rfl⟩
    go_wp2
    go_ret2
    exact ⟨rfl, Kept.refl _⟩
theorem minK_prods (a b acc : List Nat) (h : ∀ z, z ∈ acc ↔ ∃ x ∈ a, ∃ y ∈ b, z = x ||| y) : minK acc = minK (allU (minK a) (minK b)) := by
  refine minK_of_up fun s => ?_
  have h1 : up acc s ↔ up (allU a b) s := by
    unfold up
    constructor
    · rintro ⟨t, ht, h2⟩; exact ⟨t, (mem_allU a b t).2 ((h t).1 ht), h2⟩
    · rintro ⟨t, ht, h2⟩; exact ⟨t, (h t).2 ((mem_allU a b t).1 ht), h2⟩
  rw [h1, up_allU, up_allU, up_minK, up_minK]
set_option maxRecDepth 100000 in
set_option maxHeartbeats 4000000 in
theorem rproduct_any (a b : List Nat) (va vb : Value) (w : World) (ha : SetsAt w va a) (hb : SetsAt w vb b) :
    Calls Try.prog 89 #[va, vb] w fun e w' => RRes w' e (productK a b) ∧ Kept w w' := by
  by_cases hl : a.length ≤ 1024 ∧ b.length ≤ 1024
  · have HA := Lib.hid ha
    have HB := Lib.hid hb
    have H0 := Lib.hid (both_ok a b va vb w ha hb hl.1 hl.2)
    have hla := hl.1
    have hlb := hl.2
    obtain ⟨aa, ca, rfl, hca, _⟩ := ha.shape
    obtain ⟨ab, cb, rfl, hcb, _⟩ := hb.shape
    obtain ⟨r, hr⟩ : ∃ r, r = productK a b := ⟨_, rfl⟩
    rw [← hr]
    unfold productK at hr
    rw [if_pos hl] at hr
    have HRR := Lib.hid hr
    obtain ⟨n, hn⟩ : ∃ n, n = a.length := ⟨_, rfl⟩
    obtain ⟨m, hm⟩ : ∃ n, n = b.length := ⟨_, rfl⟩
    rw [← hn] at hla hca H0 HA ⊢
    rw [← hm] at hlb hcb H0 HB ⊢
    have HN := Lib.hid hn
    have HMm := Lib.hid hm
    clear ha hb hl hr hn hm
    go_enter Try.func89, Try.ntmps89
    go_wp2_with fail
    refine H0.out.mono ?_
    rintro e w0 ⟨rfl, rfl⟩
    go_wp2_with fail
    go_loopw [7, 9, 11, 20, 24, 25, 26] (fun vo _ _ i _ _ _ wr => ∃ (k : Nat) (acc : List Nat), k ≤ n ∧ i = .int .i64 k ∧ OwnInts wr w.heap.size vo (ofN acc) ∧ Kept w wr ∧ Hid (∀ z, z ∈ acc ↔ ∃ x ∈ a.take k, ∃ y ∈ b, z = x ||| y) ∧ acc.length ≤ k * 1024) (fun _ _ _ i _ _ _ _ => n - (intOf i).toNat)
    case atStart => exact ⟨0, [], Nat.zero_le _, rfl, OwnInts.nil _ _, Kept.refl _, Lib.hid (by simp), by simp⟩
    case round =>
      obtain ⟨k, acc, hk, rfl, hO, hKr, HI, hal⟩ := hrel
      have HO := Lib.hid hO
      have HKr := Lib.hid hKr
      have hsz := hKr.size
      clear hO hKr
      by_cases hlt : k < n
      · have hkx : k < a.length := by have := HN.out; omega
        obtain ⟨b1, o1, rfl, hcell0⟩ := HA.out.cell k hkx
        have hcell := HKr.out.cell hcell0
        have hmx := HA.out.2 _ (List.getElem_mem hkx)
        have htk : a.take (k + 1) = a.take k ++ [a[k]] := List.take_succ_eq_append_getElem hkx
        obtain ⟨x, hx⟩ : ∃ x, x = a[k] := ⟨_, rfl⟩
        rw [← hx] at hcell hmx htk
        have HTK := Lib.hid htk
        have HMX := Lib.hid hmx
        clear hx hcell0 htk hmx
        go_wp2_with fail
        obtain ⟨wo, rfl⟩ : ∃ wo : World, wo = wr := ⟨_, rfl⟩
        go_loopw [7, 11, 26] (fun vo _ j wr => ∃ (q : Nat) (ac2 : List Nat), q ≤ m ∧ j = .int .i64 q ∧ OwnInts wr w.heap.size vo (ofN ac2) ∧ Kept w wr ∧ Hid (∀ z, z ∈ ac2 ↔ z ∈ acc ∨ ∃ y ∈ b.take q, z = x ||| y) ∧ ac2.length ≤ k * 1024 + q) (fun _ _ j _ => m - (intOf j).toNat)
        case atStart => exact ⟨0, acc, Nat.zero_le _, rfl, HO.out, HKr.out, Lib.hid (by simp), by omega⟩
        case round =>
          obtain ⟨q, ac2, hq, rfl, hO2, hKr2, HI2, hal2⟩ := hrel
          have HO2 := Lib.hid hO2
          have HKr2 := Lib.hid hKr2
          have hsz2 := hKr2.size
          clear hO2 hKr2
          by_cases hqm : q < m
          · have hqx : q < b.length := by have := HMm.out; omega
            obtain ⟨b2, o2, rfl, hcell0⟩ := HB.out.cell q hqx
            have hcell2 := HKr2.out.cell hcell0
            have hmy := HB.out.2 _ (List.getElem_mem hqx)
            have htk : b.take (q + 1) = b.take q ++ [b[q]] := List.take_succ_eq_append_getElem hqx
            obtain ⟨y, hy⟩ : ∃ y, y = b[q] := ⟨_, rfl⟩
            rw [← hy] at hcell2 hmy htk
            have hor : bits .or .i64 (x : Int) (y : Int) = ((x ||| y : Nat) : Int) := or_int HMX.out hmy
            obtain ⟨u, hu⟩ : ∃ u, u = x ||| y := ⟨_, rfl⟩
            rw [← hu] at hor
            have HU := Lib.hid hu
            have HTK2 := Lib.hid htk
            clear hy hcell0 htk hmy hu
            go_wp2_with (at_builtin; refine app_int rfl _ _ rfl w.heap.size _ (ofN ac2) rfl (HO2.out.kept ((Kept.refl _).alloc _)) _ (u : Int) rfl (by simp) (by simp; omega) (by simp; omega) ?_; intro v7 w7 hown7 _ hb7; have O7 := Lib.hid hown7; have HB7 := Lib.hid hb7; clear hown7 hb7)
            go_roundw
            case rel =>
              refine ⟨q + 1, ac2 ++ [u], by omega, by go_num, by simpa [ofN] using O7.out, (HKr2.out.alloc _).app HB7.out, Lib.hid fun z => ?_, by simp; omega⟩
              rw [HTK2.out, List.mem_append, HI2.out z, HU.out]
              simp only [List.mem_append, List.mem_singleton]
              grind
            case measure => simp [intOf]; omega
          · have hfull : b.take q = b := List.take_of_length_le (by have := HMm.out; omega)
            have HF := Lib.hid hfull
            clear hfull
            go_wp2
            go_roundw
            case rel =>
              refine ⟨k + 1, ac2, by omega, by go_num, HO2.out, HKr2.out, Lib.hid fun z => ?_, by omega⟩
              rw [HTK.out, HI2.out z, HF.out, HI.out z]
              simp only [List.mem_append, List.mem_singleton]
              grind
            case measure => simp [intOf]; omega
      · have hfull : a.take k = a := List.take_of_length_le (by have := HN.out; omega)
        have hmem := HI.out
        rw [hfull] at hmem
        have hmin := minK_prods a b acc hmem
        have hmk : ∀ z ∈ acc, Mk z := fun z hz => by
          obtain ⟨x, hx, y, hy, rfl⟩ := (hmem z).1 hz
          exact or_mk (HA.out.2 x hx) (HB.out.2 y hy)
        have hs8 : SetsAt wr _ acc := ⟨HO.out.ints, hmk⟩
        have HL8 := Lib.hid (least_any acc _ wr hs8 (by omega))
        have HMIN := Lib.hid hmin
        clear hfull hmem hmin hmk hs8 HI
        obtain ⟨va, vn, vc, rfl⟩ := HO.out.ints.shape
        go_wp2_with fail
        refine HL8.out.mono ?_
        rintro e w9 ⟨⟨v9, rfl, ho9⟩, hk9⟩
        have HS9 := Lib.hid ho9.sets
        have HO9 := Lib.hid ho9
        have HK9 := Lib.hid (HKr.out.trans hk9)
        obtain ⟨a9, c9, rfl, _, _⟩ := ho9.sets.shape
        clear ho9 hk9
        by_cases hmm : (minK acc).length ≤ 1024
        · have HL := Lib.hid (limited_ok _ _ w9 HS9.out hmm)
          have hrr : r = some (minK acc) := by rw [HRR.out, ← HMIN.out, if_pos hmm]
          have HRF := Lib.hid hrr
          clear hmm hrr
          go_wp2_with (go_at_call 120; refine HL.out.mono ?_; rintro e w' ⟨rfl, rfl⟩)
          go_ret2
          exact ⟨by rw [HRF.out]; exact ⟨_, rfl, HO9.out⟩, HK9.out⟩
        · have HL := Lib.hid (limited_large _ _ w9 HS9.out hmm)
          have hrr : r = none := by rw [HRR.out, ← HMIN.out, if_neg hmm]
          have HRF := Lib.hid hrr
          clear hmm hrr
          go_wp2_with (go_at_call 120; refine HL.out.mono ?_; rintro e w' ⟨rfl, rfl⟩)
          go_ret2
          exact ⟨by rw [HRF.out]; rfl, HK9.out⟩
  · have H0 := Lib.hid (both_large a b va vb w ha hb hl)
    obtain ⟨aa, ca, rfl, hca, _⟩ := ha.shape
    obtain ⟨ab, cb, rfl, hcb, _⟩ := hb.shape
    have hr : productK a b = none := by unfold productK; rw [if_neg hl]
    rw [hr]
    clear ha hb hl hr
    go_enter Try.func89, Try.ntmps89
    go_wp2_with fail
    refine H0.out.mono ?_
    rintro e w0 ⟨rfl, rfl⟩
    go_wp2
    go_ret2
    exact ⟨rfl, Kept.refl _⟩
end Go.Proofs.Ytapniojbnochiaa
