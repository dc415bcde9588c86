import Derived.Test.YtngbjdaaogbjmaaGreatTN7m
import Derived.Test.YtngbjdaaogbjmaaGreatTV3m
import Derived.Test.YtngbjdaaogbjmaaGreatK1
/-
  slices.SortStableFunc at the rows of truncate, in the words of V3.
-/
namespace Go.Proofs.YtngbjdaaogbjmaaGreat.Tr
open Go.Shelf Go.RowKit Go.Lib Go.Sort

set_option maxRecDepth 100000 in
theorem stable_none (p : Option Addr) (cap : Nat) (fv : Value) (w : World) : Calls Tryz.prog 184 #[.slice p 0 cap, .int .i64 0, fv] w fun e w' => e = .returned (.tuple #[]) ∧ w = w' := by
  have HI : Hid (∀ W, Calls Tryz.prog 203 #[.slice p 0 cap, .int .i64 0, .int .i64 0, fv] W fun e w' => e = .returned (.tuple #[]) ∧ W = w') := Lib.hid fun W => (AnyF.insertionSortCmpFunc_none rowLays p cap fv W).mono fun _ _ h => ⟨h.1, h.2.symm⟩
  go_enter Tryz.func184, Tryz.ntmps184
  go_wp2
  refine wp_loop_rounds 1 ?_
  rw [rounds_succ]
  go_wp2_with (go_at_call 203; refine (HI.out _).mono ?_; rintro e w2 ⟨rfl, rfl⟩)
  refine wp_loop_rounds 1 ?_
  rw [rounds_succ]
  go_wp2
  go_end0
  exact ⟨rfl, rfl⟩
theorem flat_getE (L : List Nat) : ∀ i (h : i < L.length) j, j < 3 → (L.flatMap encR)[i * 3 + j]? = (encR L[i])[j]? := by
  induction L with
  | nil => intro i h; simp at h
  | cons c L ih =>
    intro i h j hj
    rw [List.flatMap_cons]
    cases i with
    | zero => rw [List.getElem?_append_left (by simp [encR, rcells]; omega)]; simp
    | succ i =>
      rw [List.getElem?_append_right (by simp [encR, rcells]; omega), show (encR c).length = 3 from rfl, show (i + 1) * 3 + j - 3 = i * 3 + j by omega]
      exact ih i (by simpa using h) j hj
theorem len_flatE (L : List Nat) : (L.flatMap encR).length = L.length * 3 := by
  induction L with
  | nil => rfl
  | cons c L ih => simp [encR, rcells, ih]; omega
theorem flatK_list (L : List Nat) : (flatK encR 3 L.toArray).toList = L.flatMap encR := by
  apply List.ext_getElem?
  intro t
  by_cases h : t < L.length * 3
  · have hi : t / 3 < L.length := by omega
    have e := flat_getE L (t / 3) hi (t % 3) (by omega)
    rw [show t / 3 * 3 + t % 3 = t by omega] at e
    rw [e]
    have e2 : (flatK encR 3 L.toArray)[t]! = (encR L.toArray[t / 3]!)[t % 3]! := get_flatK encR 3 L.toArray t (by simpa using h)
    have e3 : (flatK encR 3 L.toArray).toList[t]? = some (flatK encR 3 L.toArray)[t]! := by
      have hs : t < (flatK encR 3 L.toArray).size := by rw [size_flatK]; simpa using h
      rw [Array.getElem?_toList, Array.getElem?_eq_getElem hs, getElem!_pos _ t hs]
    rw [e3, e2]
    have e4 : L.toArray[t / 3]! = L[t / 3] := by rw [getElem!_pos _ _ (by simpa using hi)]; simp
    rw [e4]
    have h3 : t % 3 < (encR L[t / 3]).length := by show t % 3 < 3; omega
    rw [List.getElem?_eq_getElem h3, getElem!_pos (encR L[t / 3]) (t % 3) h3]
  · rw [List.getElem?_eq_none (by rw [Array.length_toList, size_flatK]; simp; omega), List.getElem?_eq_none (by rw [len_flatE]; omega)]
theorem flat_same {L : List Nat} (h : ∀ c ∈ L, RowLt 152 c) : L.flatMap encR = L.flatMap rcells := by
  induction L with
  | nil => rfl
  | cons c L ih =>
    rw [List.flatMap_cons, List.flatMap_cons, ih fun x hx => h x (List.mem_cons_of_mem _ hx)]
    unfold encR
    rw [lowR_of (h c (List.mem_cons_self ..))]
theorem sortRows_any (B : Nat) (v : Value) (L : List Nat) (w : World) (hv : OwnRws w B v L) (hB : B ≤ w.heap.size) :
    Calls Tryz.prog 184 #[v, .int .i64 L.length, .func (.func 135) #[] #[]] w fun e w' => e = .returned (.tuple #[]) ∧ ∃ M : List Nat, M.Perm L ∧ M.Pairwise (fun a b => pc a ≤ pc b) ∧ OwnRws w' B v M ∧ (Below B w w' ∧ ∀ k, k < w.heap.size → some k ≠ v.ownBlock → w'.heap[k]? = w.heap[k]?) := by
  obtain ⟨hv1, hv2, hv3⟩ := hv
  by_cases h0 : L = []
  · subst h0
    have hv4 := hv1
    obtain ⟨_, h2⟩ := hv1
    have : ∃ p c, v = .slice p 0 c := by
      rcases h2 with ⟨h2, _⟩ | ⟨g, cap, cur, h2, _⟩
      · exact ⟨_, _, h2⟩
      · exact ⟨_, cap, by simpa using h2⟩
    obtain ⟨p, c, rfl⟩ := this
    exact (stable_none p c _ w).mono fun e w' ⟨h3, h4⟩ => ⟨h3, [], .refl _, by simp, by subst h4; exact ⟨hv4, by simp, by simp⟩, by subst h4; exact ⟨Below.refl _ _, fun _ _ _ => rfl⟩⟩
  · obtain ⟨h1, h2⟩ := hv1
    rcases h2 with ⟨_, h2⟩ | ⟨g, cap, cur, rfl, hg, hh, hn, hcap, hsz, htk⟩
    · exact absurd (List.eq_nil_of_length_eq_zero h2) h0
    · have hH : HoldsK encR 3 w g 0 L.toArray := by
        intro j hj
        have hj' : j < L.length * 3 := by rw [size_flatK] at hj; simpa using hj
        refine ⟨?_, by simp [World.frozen?, hh]⟩
        have e1 : (cur.toList.take (L.length * 3))[j]? = (L.flatMap rcells)[j]? := by rw [htk]
        rw [List.getElem?_take_of_lt (by omega), ← flat_same hv3, ← flatK_list] at e1
        simp only [World.cell?, hh, Nat.zero_add]
        rw [show cur[j]? = cur.toList[j]? from by simp]
        simp only [Option.isSome_none, Bool.false_eq_true, if_false]
        rw [e1, Array.getElem?_toList, Array.getElem?_eq_getElem hj, getElem!_pos _ j hj]
        rfl
      have hS := stable_any g 0 cap L.toArray w hH (heap_lt hh) (by simp; omega)
      simp only [List.size_toArray] at hS
      refine hS.mono fun e w' ⟨h3, dn, hm, n, os, h4⟩ => ⟨h3, dn.toList, ?_⟩
      clear hS h3
      obtain ⟨⟨hp1, hp2, hp3⟩, hs⟩ := hm
      have hdn : dn.size = L.length := by simpa using hp1
      have hperm : dn.toList.Perm L := by
        have e1 : dn.extract 0 L.length = dn := by rw [← hdn]; simp
        have e2 : L.toArray.extract 0 L.length = L.toArray := by simp
        rw [e1, e2] at hp3
        simpa using hp3
      have hlt : ∀ c ∈ dn.toList, RowLt 152 c := fun c hc => hv3 c (hperm.mem_iff.1 hc)
      refine ⟨hperm, ?_, ?_, ?_⟩
      · rw [List.pairwise_iff_getElem]
        intro i j hi hj hij
        have hi' : i < dn.size := by simpa using hi
        have hj' : j < dn.size := by simpa using hj
        have h := hs i j (Nat.zero_le _) hij (by omega)
        rw [ltR] at h
        simp at h
        rw [getElem!_pos dn i hi', getElem!_pos dn j hj', lowR_of (hlt _ (by simp)), lowR_of (hlt _ (by simp))] at h
        simpa using h
      · subst h4
        have hg1 := heap_putRow (id : Value → Value) w n g 0 (flatK encR 3 dn) hh
        have hps := putCells_take (id : Value → Value) (flatK encR 3 dn) cur (L.length * 3) (by rw [size_flatK, hdn]) (by rw [hsz]; exact Nat.mul_le_mul_right 3 hn)
        refine ⟨⟨by rw [len_flat], .inr ⟨g, cap, putCells id 0 (flatK encR 3 dn) cur, by simp [hdn], hg, ?_, by simp [hdn]; exact hn, hcap, by rw [hps.1]; exact hsz, ?_⟩⟩, by simp; omega, hlt⟩
        · show (grow (putRow id (Sort.ahead w n) g 0 (flatK encR 3 dn)) os).heap[g]? = _
          rw [heap_grow_old _ _ (heap_lt hg1)]; exact hg1
        · have := hps.2
          rw [show dn.toList.length * 3 = L.length * 3 by simp [hdn], this, ← flat_same hlt]
          have e := flatK_list dn.toList
          simp only [Array.toArray_toList] at e
          rw [e]; simp
      · subst h4
        have hne : ∀ k, k < w.heap.size → k ≠ g → (grow (putRow id (Sort.ahead w n) g 0 (flatK encR 3 dn)) os).heap[k]? = w.heap[k]? := fun k hk hkg => by
          rw [heap_grow_old _ _ (by show k < (w.heap.modify g _).size; simp; omega)]
          exact heap_putRow_ne (id : Value → Value) w n g 0 k _ hkg
        refine ⟨⟨rfl, rfl, rfl, ?_, fun k hk => hne k (by omega) (by omega)⟩, fun k hk hkn => hne k hk fun e => hkn (by rw [e]; rfl)⟩
        show w.heap.size ≤ ((w.heap.modify g _) ++ os).size
        simp
set_option maxRecDepth 100000 in
theorem sortStable_any (B : Nat) (v : Value) (L : List Nat) (w : World) (hv : OwnRws w B v L) (hB : B ≤ w.heap.size) :
    Calls Tryz.prog 134 #[v, .func (.func 135) #[] #[]] w fun e w' => e = .returned (.tuple #[]) ∧ ∃ M : List Nat, M.Perm L ∧ M.Pairwise (fun a b => pc a ≤ pc b) ∧ OwnRws w' B v M ∧ (Below B w w' ∧ ∀ k, k < w.heap.size → some k ≠ v.ownBlock → w'.heap[k]? = w.heap[k]?) := by
  have HC := Lib.hid (sortRows_any B v L w hv hB)
  obtain ⟨a, c, rfl⟩ := hv.at.shape
  have hl := hv.2.1
  obtain ⟨n, hn⟩ : ∃ n, n = L.length := ⟨_, rfl⟩
  rw [← hn] at hl HC ⊢
  clear hv hn
  go_enter Tryz.func134, Tryz.ntmps134
  go_wp2_with (go_at_call 184; refine HC.out.mono ?_; rintro e w2 ⟨rfl, M, h1, h2, h3, h4⟩)
  go_end0
  exact ⟨rfl, M, h1, h2, h3, h4⟩
end Go.Proofs.YtngbjdaaogbjmaaGreat.Tr
