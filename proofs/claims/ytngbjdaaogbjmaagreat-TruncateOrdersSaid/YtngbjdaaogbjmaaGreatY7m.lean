import Derived.Test.YtngbjdaaogbjmaaGreatY6m
/-
  Walks: the cutter of truncate: votes. (Turned by conv7.py.)
-/
namespace Go.Proofs.YtngbjdaaogbjmaaGreat.Tr
open Go.RowKit
variable {y0 y1 y2 y3 y4 y6 : Value}

set_option maxRecDepth 100000 in
set_option maxHeartbeats 16000000 in
theorem votes_any (gl B V : Nat) (W0 : World) (hV : V ≤ 24) (hB : B ≤ gl) (_hBW : B ≤ W0.heap.size) :
    ∀ (args : List Int) (va : Value), (∀ w', Below B W0 w' → IntsAt w' va args) → (∀ a ∈ args, 0 ≤ a ∧ a < (V : Int) + 128) → args.length ≤ 100 → ∀ (k r : Nat) (v : Value) (L : List Nat) (W : World), Below B W0 W → W.cell? ⟨gl, 0, none⟩ = some (.int .i64 V) → CutAt y0 y1 y2 y3 y4 y6 W gl B v L → L.length ≤ 4097 → RowLt 152 r → k ≤ 1000 →
      Calls Tryz.prog 141 #[.pointer (some ⟨gl, 0, none⟩), rowV r, va, .int .i64 k] W fun e w' => e = .returned (.tuple #[]) ∧ ∃ v', CutAt y0 y1 y2 y3 y4 y6 w' gl B v' ((L ++ chooseK V args k r).take 4097) ∧ Frm gl v v' W w' := by
  intro args
  induction args with
  | nil =>
    intro va hva _ _ k r v L W hW hcV hL hl hr hk
    obtain ⟨aa, an, ac, rfl⟩ := (hva W hW).shape
    have han : an = 0 := by
      obtain ⟨_, _, h, _⟩ := hva W hW
      injection h
    subst han
    have := votes_base gl B 0 k r aa ac v L W hB hL hl hr hk (by omega) (by omega)
    refine this.mono fun e w' ⟨he, v', h1, h2⟩ => ⟨he, v', ?_, h2⟩
    unfold chooseK
    by_cases hk0 : k = 0
    · rw [if_pos hk0]
      by_cases h9 : L.length = 4097
      · rw [if_pos (.inl h9)] at h1
        rw [List.take_append, h9, List.take_of_length_le (by omega)]; simpa using h1
      · rw [if_neg (by omega)] at h1
        rw [List.take_of_length_le (by simp; omega)]; exact h1
    · rw [if_neg hk0, List.append_nil, List.take_of_length_le hl]
      rw [if_pos (.inr (by omega))] at h1; exact h1
  | cons a l ih =>
    intro va hva hargs hal k r v L W hW hcV hL hl hr hk
    obtain ⟨aa, an, ac, rfl⟩ := (hva W hW).shape
    have han : an = l.length + 1 := by
      obtain ⟨_, _, h, _⟩ := hva W hW
      injection h
    subst han
    by_cases hbase : L.length = 4097 ∨ l.length + 1 < k ∨ k = 0
    · have := votes_base gl B (l.length + 1) k r aa ac v L W hB hL hl hr hk (by simp at hal; omega) hbase
      refine this.mono fun e w' ⟨he, v', h1, h2⟩ => ⟨he, v', ?_, h2⟩
      by_cases h9 : L.length = 4097
      · rw [if_pos (.inl h9)] at h1
        rw [List.take_append, h9, List.take_of_length_le (by omega)]; simpa using h1
      · by_cases h8 : l.length + 1 < k
        · rw [if_pos (.inr h8)] at h1
          rw [chooseK_many V (a :: l) k r (by simpa using h8), List.append_nil, List.take_of_length_le hl]; exact h1
        · rw [if_neg (by omega)] at h1
          unfold chooseK
          rw [if_pos (by omega), List.take_of_length_le (by simp; omega)]; exact h1
    · have hl4 : L.length ≤ 4096 := by omega
      have hk1 : 1 ≤ k := by omega
      have hkl : k ≤ l.length + 1 := by omega
      obtain ⟨k1, hk1e⟩ : ∃ k1, k1 = k - 1 := ⟨_, rfl⟩
      have hlt : ∀ x ∈ l, 0 ≤ x ∧ x < (V : Int) + 128 := fun x hx => hargs x (List.mem_cons_of_mem _ hx)
      have ha := hargs a (List.mem_cons_self ..)
      have hr1 : RowLt 152 (withC V r a) := rowLt_or hr (rowLt_mono (rowLt_cond (V := V) (m := 128) (by omega) hV) (by omega))
      -- the tail
      obtain ⟨b, o, rfl, hca⟩ : ∃ b o, aa = some ⟨b, o, none⟩ ∧ ∀ w', Below B W0 w' → w'.cell? ⟨b, o, none⟩ = some (.int .i64 a) := by
        obtain ⟨a', c', h1, _, _, h4⟩ := hva W hW
        injection h1 with h1 h2 h3
        obtain ⟨b, o, h5, _⟩ := h4 0 (by simp)
        refine ⟨b, o, by rw [h1, h5], fun w' hw' => ?_⟩
        obtain ⟨a2, c2, g1, _, _, g4⟩ := hva w' hw'
        injection g1 with g1 g2 g3
        obtain ⟨b2, o2, g5, g6⟩ := g4 0 (by simp)
        rw [← g1, h1, h5] at g5
        injection g5 with g5
        injection g5 with g7 g8
        subst g7 g8
        simpa using g6
      have hac : l.length + 1 ≤ ac := by
        obtain ⟨_, _, h1, h2, _⟩ := hva W hW
        injection h1 with _ _ h3
        rw [h3]; simpa using h2.1
      have hcut : chooseK V (a :: l) k r = chooseK V l k1 (withC V r a) ++ chooseK V l k r := by
        rw [hk1e]
        conv => lhs; unfold chooseK
        rw [if_neg (by omega)]
      rw [hcut]
      obtain ⟨hro, hv⟩ := hL
      have hLA : CutAt y0 y1 y2 y3 y4 y6 W gl B v L := ⟨hro, hv⟩
      have hgl := hro.lt
      have c0 := hro.cell (i := 5) (by simp)
      simp only [List.getElem_cons_succ, List.getElem_cons_zero] at c0
      have e0 := hro.cell (i := 0) (by simp)
      simp only [List.getElem_cons_zero] at e0
      have hy0 : y0 = .int .i64 V := by rw [e0] at hcV; exact Option.some.inj hcV
      obtain ⟨la, lc, rfl⟩ := hv.at.shape
      have hBW' : B ≤ W.heap.size := by omega
      obtain ⟨tv, htv, hti⟩ : ∃ tv, ((2 ≤ ac ∧ tv = .slice (some ⟨b, o + 1, none⟩) (l.length + 1 - 1) (ac - 1)) ∨ (ac = 1 ∧ tv = .slice (some ⟨b, o, none⟩) 0 0)) ∧ ∀ w', Below B W0 w' → IntsAt w' tv l := by
        by_cases h2 : 2 ≤ ac
        · exact ⟨_, .inl ⟨h2, rfl⟩, fun w' hw' => ints_tail (hva w' hw') h2⟩
        · have hl0 : l = [] := List.eq_nil_of_length_eq_zero (by omega)
          subst hl0
          exact ⟨_, .inr ⟨by omega, rfl⟩, fun w' _ => ⟨some ⟨b, o, none⟩, 0, rfl, ⟨by simp, fun h => by cases h⟩, by simp, fun i h => by simp at h⟩⟩
      have hbo : b < W.heap.size := by
        have := hca W hW
        by_cases h : b < W.heap.size
        · exact h
        · simp [World.cell?, Array.getElem?_eq_none (Nat.le_of_not_lt h)] at this
      have hX1 : (L ++ chooseK V l k1 (withC V r a)).take 4097 = (L ++ chooseK V l k1 (withC V r a)).take 4097 := rfl
      refine votes_step gl B L.length (l.length + 1) k k1 b o ac _ _ _ (evW (withC V r a)) (loW (withC V r a)) (hiW (withC V r a)) a la lc tv ((L ++ chooseK V l k1 (withC V r a)).take 4097) _ W hgl c0 (fun g hg => (hv.own_ge hg).2) hl4 hk1 hkl (by simp at hal; omega) hac hk1e htv (fun v1 w' hf => hca w' (hW.trans (frm_below hf hv hB hBW'))) hbo (fun W' hk => cadd_any gl r V a W' (hk.cell hcV) hr hV (by omega)) (fun W' hk => ?_) (fun v1 W' h1 h2 => ?_)
      · exact ih tv hti hlt (by simp at hal; omega) k1 (withC V r a) _ L W' (hW.trans (hk.mono hBW')) (hk.cell hcV) (hLA.kept hk) hl hr1 (by omega)
      · have h3 := ih tv hti hlt (by simp at hal; omega) k r v1 _ W' (hW.trans (frm_below h2 hv hB hBW')) (by have := h1.1.cell (i := 0) (by simp); simp only [List.getElem_cons_zero] at this; rw [this, hy0]) h1 (by rw [List.length_take]; omega) hr hk
        rw [take_app, List.append_assoc] at h3
        exact h3
end Go.Proofs.YtngbjdaaogbjmaaGreat.Tr
