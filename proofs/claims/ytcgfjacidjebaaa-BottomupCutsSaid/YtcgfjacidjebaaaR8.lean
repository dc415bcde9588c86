/-
  Walks: faultlineref32.row; append of a whole slice of families.
-/
import Derived.Test.YtcgfjacidjebaaaR7
namespace Go.Proofs.Ytcgfjacidjebaaa
open Go.RowKit

/-- append of families. -/
theorem app_fams {ops : Array Oper} {rest : List Oper} {o : Oper} {a : Act} {Q : Exit → Act → World → Prop} {w : World} (hgd : o.guard = none) (s x : Operand)
    (ho : o.op = .call { callee := .builtin .append, args := #[s, x], argTypes := #[37, 37] }) (B : Nat) (v : Value) (xss : List (List Nat)) (hs : a.eval s = v) (hown : OwnFams w B v xss)
    (B' g cap : Nat) (yss : List (List Nat)) (hx : a.eval x = .slice (some ⟨g, 0, none⟩) yss.length cap) (hu : OwnFams w B' (.slice (some ⟨g, 0, none⟩) yss.length cap) yss) (hl : xss.length + yss.length < 1000000) (hB : B ≤ w.heap.size)
    (h : ∀ v' w', OwnFams w' B v' (xss ++ yss) → Below B w w' → wpList Try.prog ops Q rest (a.put o.dst v') w') : wpList Try.prog ops Q (o :: rest) a w := by
  obtain ⟨us, h1, h2, h3, h4⟩ := hown
  obtain ⟨us2, k1, k2, k3, k4⟩ := hu
  obtain ⟨i0, hi0, hz0, hz1, hz2⟩ := info_parts info_ints
  refine wpList_append_own _ hgd s x 37 ho B 27 i0 _ 1 24 Try.underlying37 hi0 hz0 hz1 hz2 rfl (by decide) v xss.length us hs h2 ⟨g, 0, none⟩ yss.length cap us2 hx (by rw [k1]; simp) ?_ ?_ (by simp [maxLen]; omega) (by omega) hB ?_
  · intro j u hj
    exact k2.cells rfl j u hj
  · intro u hu
    obtain ⟨j, hj, rfl⟩ := List.getElem_of_mem hu
    obtain ⟨ua, un, uc, e⟩ := (k4 j hj (by omega)).1.ints.shape
    rw [e]; rfl
  · intro v' w' h5 h6 _
    have hg : ∀ k, k < w.heap.size → some k ≠ v.ownBlock → w'.heap[k]? = w.heap[k]? := fun k hk hne => h6.block k hk hne
    refine h v' w' ⟨us ++ us2, by simp [h1, k1], by simpa using h5, by simp; omega, ?_⟩ (grown_below h6 h2 hB)
    intro i hi hi'
    by_cases hik : i < us.length
    · rw [List.getElem_append_left hik, List.getElem_append_left (by omega)]
      exact (h4 i hik (by omega)).tag h2 (by decide) hg
    · rw [List.getElem_append_right (by omega), List.getElem_append_right (by omega)]
      have := k4 (i - us.length) (by simp at hi; omega) (by simp at hi; omega)
      simp only [h1] at this ⊢
      exact this.tag h2 (by decide) hg
set_option maxRecDepth 100000 in
set_option maxHeartbeats 4000000 in
theorem row_and (va : Value) (f0 : List Nat) (fs : List (List Nat)) (w : World) (hv : OwnFams w 0 va (f0 :: fs)) (hl : fs.length ≤ 1000) :
    Calls Try.prog 56 #[va, .bool true] w fun e w' => RRes w' e (foldK productK f0 fs) ∧ Kept w w' := by
  obtain ⟨g, cap, rfl, _, hgw, hcap⟩ := hv.shape (by simp)
  obtain ⟨n, hn⟩ : ∃ n, n = fs.length := ⟨_, rfl⟩
  obtain ⟨u0, hc0, hu0⟩ := hv.cell 0 (by simp)
  simp only [List.length_cons, ← hn] at hcap ⊢
  have hcells : ∀ k (hk : k < fs.length), ∃ u, w.cell? ⟨g, 1 + k, none⟩ = some u ∧ OwnSets w 0 u fs[k] := fun k hk => by
    have := hv.cell (k + 1) (by simp; omega)
    rw [Nat.add_comm 1 k]
    simpa using this
  obtain ⟨r, hr⟩ : ∃ r, r = foldK productK f0 fs := ⟨_, rfl⟩
  rw [← hr]
  have HR := Lib.hid hr
  have HN := Lib.hid hn
  have HCL := Lib.hid hcells
  have HU0 := Lib.hid hu0
  have hPr := @rproduct_any
  have HPr := Lib.hid hPr
  have hp1 : (1 : Int) ≤ ((n + 1 : Nat) : Int) := by omega
  have hp2 : (1 : Int) ≤ (cap : Int) := by omega
  have hp0 : (0 : Int) < ((n + 1 : Nat) : Int) := by omega
  clear hr hn hcells hu0 hPr hv
  by_cases hc1 : cap = 1
  · subst hc1
    obtain rfl : n = 0 := by omega
    have hrr : r = some f0 := by
      rw [HR.out]
      have : fs = [] := List.eq_nil_of_length_eq_zero HN.out.symm
      rw [this]; rfl
    have HRR := Lib.hid hrr
    clear hrr hcap hp1 hp2 hp0 hl
    go_enter Try.func56, Try.ntmps56
    go_wp2_with fail
    go_loopw [6, 8, 9, 16] (fun vo _ _ i wr => i = .int .i64 0 ∧ vo = u0 ∧ wr = w) (fun _ _ _ i _ => 0)
    case atStart => exact ⟨rfl, rfl, rfl⟩
    case round =>
      obtain ⟨rfl, rfl, rfl⟩ := hrel
      go_wp2
      go_ret2
      exact ⟨by rw [HRR.out]; exact ⟨_, rfl, HU0.out⟩, Kept.refl _⟩
  · go_enter Try.func56, Try.ntmps56
    go_wp2_with fail
    go_loopw [6, 8, 9, 16] (fun vo _ _ i wr => ∃ (k : Nat) (acc : List Nat), k ≤ n ∧ i = .int .i64 k ∧ Hid (foldK productK f0 (fs.take k) = some acc ∧ OwnSets wr 0 vo acc) ∧ Kept w wr) (fun _ _ _ i _ => n - (intOf i).toNat)
    case atStart => exact ⟨0, f0, Nat.zero_le _, rfl, Lib.hid ⟨rfl, HU0.out⟩, Kept.refl _⟩
    case round =>
      obtain ⟨k, acc, hk, rfl, HI, hK⟩ := hrel
      have HK := Lib.hid hK
      by_cases hlt : k < n
      · have hkx : k < fs.length := by have := HN.out; omega
        obtain ⟨u, hcu0, hu⟩ := HCL.out k hkx
        have hcu := HK.out.cell hcu0
        have hst := foldK_snoc productK f0 fs k hkx
        rw [HI.out.1] at hst
        have HU := Lib.hid (hu.kept HK.out)
        obtain ⟨f1, hf1⟩ : ∃ x, x = fs[k] := ⟨_, rfl⟩
        rw [← hf1] at HU hst
        have HST := Lib.hid hst
        obtain ⟨xa, xn, xc, rfl⟩ := HI.out.2.1.ints.shape
        obtain ⟨ya, yn, yc, rfl⟩ := HU.out.1.ints.shape
        clear hK hcu0 hu hst hf1
        cases hp : productK acc f1 with
        | none =>
          have HP := Lib.hid hp
          clear hp
          go_wp2_with (go_at_call 81; refine (HPr.out acc f1 _ _ _ HI.out.2.sets HU.out.sets).mono ?_; rintro e w5 ⟨he, hk5⟩; rw [HP.out] at he; unfold RRes at he; subst he)
          go_ret2
          have hrn : r = none := by rw [HR.out]; exact foldK_none _ f0 fs (k + 1) (by rw [HST.out]; exact HP.out)
          exact ⟨by rw [hrn]; rfl, HK.out.trans hk5⟩
        | some x =>
          have HP := Lib.hid hp
          clear hp
          go_wp2_with (go_at_call 81; refine (HPr.out acc f1 _ _ _ HI.out.2.sets HU.out.sets).mono ?_; rintro e w5 ⟨he, hk5⟩; rw [HP.out] at he; unfold RRes at he; obtain ⟨v5, rfl, ho5⟩ := he; have O5 := Lib.hid ho5; clear ho5)
          go_roundw
          case rel => exact ⟨k + 1, x, by omega, by go_num, Lib.hid ⟨by rw [HST.out]; exact HP.out, O5.out⟩, HK.out.trans hk5⟩
          case measure => simp [intOf]; omega
      · have e : fs.take k = fs := List.take_of_length_le (by have := HN.out; omega)
        have hrr : r = some acc := by rw [HR.out, ← HI.out.1, e]
        have HRR := Lib.hid hrr
        clear e hrr hK
        go_wp2
        go_ret2
        exact ⟨by rw [HRR.out]; exact ⟨_, rfl, HI.out.2⟩, HK.out⟩
set_option maxRecDepth 100000 in
set_option maxHeartbeats 4000000 in
theorem row_or (va : Value) (f0 : List Nat) (fs : List (List Nat)) (w : World) (hv : OwnFams w 0 va (f0 :: fs)) (hl : fs.length ≤ 1000) :
    Calls Try.prog 56 #[va, .bool false] w fun e w' => RRes w' e (foldK plusK f0 fs) ∧ Kept w w' := by
  obtain ⟨g, cap, rfl, _, hgw, hcap⟩ := hv.shape (by simp)
  obtain ⟨n, hn⟩ : ∃ n, n = fs.length := ⟨_, rfl⟩
  obtain ⟨u0, hc0, hu0⟩ := hv.cell 0 (by simp)
  simp only [List.length_cons, ← hn] at hcap ⊢
  have hcells : ∀ k (hk : k < fs.length), ∃ u, w.cell? ⟨g, 1 + k, none⟩ = some u ∧ OwnSets w 0 u fs[k] := fun k hk => by
    have := hv.cell (k + 1) (by simp; omega)
    rw [Nat.add_comm 1 k]
    simpa using this
  obtain ⟨r, hr⟩ : ∃ r, r = foldK plusK f0 fs := ⟨_, rfl⟩
  rw [← hr]
  have HR := Lib.hid hr
  have HN := Lib.hid hn
  have HCL := Lib.hid hcells
  have HU0 := Lib.hid hu0
  have hPr := @rplus_any
  have HPr := Lib.hid hPr
  have hp1 : (1 : Int) ≤ ((n + 1 : Nat) : Int) := by omega
  have hp2 : (1 : Int) ≤ (cap : Int) := by omega
  have hp0 : (0 : Int) < ((n + 1 : Nat) : Int) := by omega
  clear hr hn hcells hu0 hPr hv
  by_cases hc1 : cap = 1
  · subst hc1
    obtain rfl : n = 0 := by omega
    have hrr : r = some f0 := by
      rw [HR.out]
      have : fs = [] := List.eq_nil_of_length_eq_zero HN.out.symm
      rw [this]; rfl
    have HRR := Lib.hid hrr
    clear hrr hcap hp1 hp2 hp0 hl
    go_enter Try.func56, Try.ntmps56
    go_wp2_with fail
    go_loopw [6, 8, 9, 16] (fun vo _ _ i wr => i = .int .i64 0 ∧ vo = u0 ∧ wr = w) (fun _ _ _ i _ => 0)
    case atStart => exact ⟨rfl, rfl, rfl⟩
    case round =>
      obtain ⟨rfl, rfl, rfl⟩ := hrel
      go_wp2
      go_ret2
      exact ⟨by rw [HRR.out]; exact ⟨_, rfl, HU0.out⟩, Kept.refl _⟩
  · go_enter Try.func56, Try.ntmps56
    go_wp2_with fail
    go_loopw [6, 8, 9, 16] (fun vo _ _ i wr => ∃ (k : Nat) (acc : List Nat), k ≤ n ∧ i = .int .i64 k ∧ Hid (foldK plusK f0 (fs.take k) = some acc ∧ OwnSets wr 0 vo acc) ∧ Kept w wr) (fun _ _ _ i _ => n - (intOf i).toNat)
    case atStart => exact ⟨0, f0, Nat.zero_le _, rfl, Lib.hid ⟨rfl, HU0.out⟩, Kept.refl _⟩
    case round =>
      obtain ⟨k, acc, hk, rfl, HI, hK⟩ := hrel
      have HK := Lib.hid hK
      by_cases hlt : k < n
      · have hkx : k < fs.length := by have := HN.out; omega
        obtain ⟨u, hcu0, hu⟩ := HCL.out k hkx
        have hcu := HK.out.cell hcu0
        have hst := foldK_snoc plusK f0 fs k hkx
        rw [HI.out.1] at hst
        have HU := Lib.hid (hu.kept HK.out)
        obtain ⟨f1, hf1⟩ : ∃ x, x = fs[k] := ⟨_, rfl⟩
        rw [← hf1] at HU hst
        have HST := Lib.hid hst
        obtain ⟨xa, xn, xc, rfl⟩ := HI.out.2.1.ints.shape
        obtain ⟨ya, yn, yc, rfl⟩ := HU.out.1.ints.shape
        clear hK hcu0 hu hst hf1
        cases hp : plusK acc f1 with
        | none =>
          have HP := Lib.hid hp
          clear hp
          go_wp2_with (go_at_call 82; refine (HPr.out acc f1 _ _ _ HI.out.2.sets HU.out.sets).mono ?_; rintro e w5 ⟨he, hk5⟩; rw [HP.out] at he; unfold RRes at he; subst he)
          go_ret2
          have hrn : r = none := by rw [HR.out]; exact foldK_none _ f0 fs (k + 1) (by rw [HST.out]; exact HP.out)
          exact ⟨by rw [hrn]; rfl, HK.out.trans hk5⟩
        | some x =>
          have HP := Lib.hid hp
          clear hp
          go_wp2_with (go_at_call 82; refine (HPr.out acc f1 _ _ _ HI.out.2.sets HU.out.sets).mono ?_; rintro e w5 ⟨he, hk5⟩; rw [HP.out] at he; unfold RRes at he; obtain ⟨v5, rfl, ho5⟩ := he; have O5 := Lib.hid ho5; clear ho5)
          go_roundw
          case rel => exact ⟨k + 1, x, by omega, by go_num, Lib.hid ⟨by rw [HST.out]; exact HP.out, O5.out⟩, HK.out.trans hk5⟩
          case measure => simp [intOf]; omega
      · have e : fs.take k = fs := List.take_of_length_le (by have := HN.out; omega)
        have hrr : r = some acc := by rw [HR.out, ← HI.out.1, e]
        have HRR := Lib.hid hrr
        clear e hrr hK
        go_wp2
        go_ret2
        exact ⟨by rw [HRR.out]; exact ⟨_, rfl, HI.out.2⟩, HK.out⟩
end Go.Proofs.Ytcgfjacidjebaaa
