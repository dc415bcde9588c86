import Derived.Test.YtngbjdaaogbjmaaGreatY5m
import Derived.Test.YtngbjdaaogbjmaaGreatK4
import Derived.Deep.RegionHeld3
import Derived.Deep.DeepCutAuto
/-
  Walks: the cutter of truncate: votes.
-/
namespace Go.Proofs.YtngbjdaaogbjmaaGreat.Tr
open Go.RowKit
variable {y0 y1 y2 y3 y4 y6 : Value}

theorem CutAt.kept {w w' : World} {gl B : Nat} {v : Value} {L : List Nat} (h : CutAt y0 y1 y2 y3 y4 y6 w gl B v L) (hk : Kept w w') : CutAt y0 y1 y2 y3 y4 y6 w' gl B v L := ⟨h.1.kept hk, h.2.kept hk⟩
set_option maxRecDepth 100000 in
set_option maxHeartbeats 4000000 in
theorem votes_base (gl B m k r : Nat) (aa : Option Addr) (ac : Nat) (v : Value) (L : List Nat) (W : World) (hB : B ≤ gl) (hL : CutAt y0 y1 y2 y3 y4 y6 W gl B v L) (hl : L.length ≤ 4097) (hr : RowLt 152 r) (hk : k ≤ 1000) (hm : m ≤ 1000) (hc : L.length = 4097 ∨ m < k ∨ k = 0) :
    Calls Tryz.prog 141 #[.pointer (some ⟨gl, 0, none⟩), rowV r, .slice aa m ac, .int .i64 k] W fun e w' => e = .returned (.tuple #[]) ∧ ∃ v', CutAt y0 y1 y2 y3 y4 y6 w' gl B v' (if L.length = 4097 ∨ m < k then L else L ++ [r]) ∧ Frm gl v v' W w' := by
  have HEM : Hid (∀ W', Kept W W' → Calls Tryz.prog 81 #[.pointer (some ⟨gl, 0, none⟩), rowV r] W' fun e w' => e = .returned (.tuple #[]) ∧ ∃ v', CutAt y0 y1 y2 y3 y4 y6 w' gl B v' (addK L r) ∧ Frm gl v v' W' w') := Lib.hid fun W' hk => emit_any gl B r v L W' (hL.kept hk) hr hl hB
  have HL := Lib.hid hL
  obtain ⟨hro, hv⟩ := hL
  have c0 := hro.cell (i := 5) (by simp)
  simp only [List.getElem_cons_succ, List.getElem_cons_zero] at c0
  obtain ⟨la, lc, hv2⟩ := hv.at.shape
  obtain ⟨n, hn⟩ : ∃ n, n = L.length := ⟨_, rfl⟩
  have HN := Lib.hid hn
  rw [← hn] at hv2 hl hc ⊢
  subst hv2
  have hgl := hro.lt
  unfold rowV at *
  generalize evW r = x0 at *
  generalize loW r = x1 at *
  generalize hiW r = x2 at *
  clear hro hv hr hn
  by_cases h0 : k = 0
  · subst h0
    have HF : Hid (addK L r = if n = 4097 ∨ m < 0 then L else L ++ [r]) := Lib.hid (by
      unfold addK
      rw [← HN.out]
      by_cases h : n ≤ 4096
      · rw [if_pos h, if_neg (by omega)]
      · rw [if_neg h, if_pos (.inl (by omega))])
    rw [← HF.out]
    clear hc
    show Calls _ _ #[_, _, _, .int .i64 0] _ _
    go_enter Tryz.func141, Tryz.ntmps141
    go_wp2_with (go_at_call 81; refine (HEM.out _ ((Kept.refl _).alloc _)).mono ?_; rintro e w2 ⟨rfl, v', h3, h4⟩)
    refine bodyPost_end (results_none rfl _ _ _) rfl ?_
    exact ⟨rfl, v', h3, (Frm.of_kept ((Kept.refl W).alloc _)).trans h4⟩
  · have hk0 : ((k : Int) == 0) = false := by simp; omega
    rw [if_pos (by omega)]
    by_cases h1 : n = 4097
    · have h1' : ¬ (n : Int) ≤ 4096 := by omega
      clear h1 hc h0
      go_enter Tryz.func141, Tryz.ntmps141
      go_wp2
      refine bodyPost_end (results_none rfl _ _ _) rfl ?_
      exact ⟨rfl, _, HL.out.kept ((Kept.refl _).alloc _), Frm.of_kept ((Kept.refl _).alloc _)⟩
    · have h1' : (n : Int) ≤ 4096 := by omega
      have h2 : ¬ (k : Int) ≤ (m : Int) := by omega
      clear h1 hc h0
      go_enter Tryz.func141, Tryz.ntmps141
      go_wp2
      refine bodyPost_end (results_none rfl _ _ _) rfl ?_
      exact ⟨rfl, _, HL.out.kept ((Kept.refl _).alloc _), Frm.of_kept ((Kept.refl _).alloc _)⟩
set_option maxRecDepth 100000 in
set_option maxHeartbeats 16000000 in
theorem votes_step (gl B n m k k1 b o ac x0 x1 x2 z0 z1 z2 : Nat) (a : Int) (la : Option Addr) (lc : Nat) (tv : Value) (L1 L2 : List Nat) (W : World) (hgl : gl < W.heap.size) (c0 : W.cell? ⟨gl, 5, none⟩ = some (.slice la n lc)) (hown : ∀ g, (Value.slice la n lc).ownBlock = some g → g < W.heap.size)
    (hn : n ≤ 4096) (hk : 1 ≤ k) (hkm : k ≤ m) (hm : m ≤ 200) (hmc : m ≤ ac) (hk1 : k1 = k - 1) (htv : (2 ≤ ac ∧ tv = .slice (some ⟨b, o + 1, none⟩) (m - 1) (ac - 1)) ∨ (ac = 1 ∧ tv = .slice (some ⟨b, o, none⟩) 0 0))
    (harg : ∀ v1 w', Frm gl (.slice la n lc) v1 W w' → w'.cell? ⟨b, o, none⟩ = some (.int .i64 a)) (_hbo : b < W.heap.size)
    (hwith : ∀ W', Kept W W' → Calls Tryz.prog 76 #[.pointer (some ⟨gl, 0, none⟩), .agg #[.int .i64 x0, .int .u64 x1, .int .u64 x2], .int .i64 a] W' fun e w' => e = .returned (.agg #[.int .i64 z0, .int .u64 z1, .int .u64 z2]) ∧ Kept W' w')
    (hc1 : ∀ W', Kept W W' → Calls Tryz.prog 141 #[.pointer (some ⟨gl, 0, none⟩), .agg #[.int .i64 z0, .int .u64 z1, .int .u64 z2], tv, .int .i64 k1] W' fun e w' => e = .returned (.tuple #[]) ∧ ∃ v1, CutAt y0 y1 y2 y3 y4 y6 w' gl B v1 L1 ∧ Frm gl (.slice la n lc) v1 W' w')
    (hc2 : ∀ v1 W', CutAt y0 y1 y2 y3 y4 y6 W' gl B v1 L1 → Frm gl (.slice la n lc) v1 W W' → Calls Tryz.prog 141 #[.pointer (some ⟨gl, 0, none⟩), .agg #[.int .i64 x0, .int .u64 x1, .int .u64 x2], tv, .int .i64 k] W' fun e w' => e = .returned (.tuple #[]) ∧ ∃ v2, CutAt y0 y1 y2 y3 y4 y6 w' gl B v2 L2 ∧ Frm gl v1 v2 W' w') :
    Calls Tryz.prog 141 #[.pointer (some ⟨gl, 0, none⟩), .agg #[.int .i64 x0, .int .u64 x1, .int .u64 x2], .slice (some ⟨b, o, none⟩) m ac, .int .i64 k] W fun e w' => e = .returned (.tuple #[]) ∧ ∃ v2, CutAt y0 y1 y2 y3 y4 y6 w' gl B v2 L2 ∧ Frm gl (.slice la n lc) v2 W w' := by
  obtain ⟨w1, hw1⟩ : ∃ w1, w1 = W.alloc (.cells #[.int .i64 x0, .int .u64 x1, .int .u64 x2] 109) := ⟨_, rfl⟩
  have hkw : Kept W w1 := by rw [hw1]; exact (Kept.refl _).alloc _
  have hsz : w1.heap.size = W.heap.size + 1 := by rw [hw1]; simp
  have q3 : w1.cell? ⟨W.heap.size, 0, none⟩ = some (.int .i64 x0) := by rw [hw1]; simp
  have q4 : w1.cell? ⟨W.heap.size, 1, none⟩ = some (.int .u64 x1) := by rw [hw1]; simp
  have q5 : w1.cell? ⟨W.heap.size, 2, none⟩ = some (.int .u64 x2) := by rw [hw1]; simp
  have qa := harg _ w1 (Frm.of_kept hkw)
  have HC1 : Hid (∀ W', Kept w1 W' → Calls Tryz.prog 141 #[.pointer (some ⟨gl, 0, none⟩), .agg #[.int .i64 z0, .int .u64 z1, .int .u64 z2], tv, .int .i64 k1] W' fun e w' => e = .returned (.tuple #[]) ∧ (∃ v1, CutAt y0 y1 y2 y3 y4 y6 w' gl B v1 L1 ∧ Frm gl (.slice la n lc) v1 w1 w') ∧
      (w'.cell? ⟨W.heap.size, 0, none⟩ = some (.int .i64 x0) ∧ w'.cell? ⟨W.heap.size, 1, none⟩ = some (.int .u64 x1) ∧ w'.cell? ⟨W.heap.size, 2, none⟩ = some (.int .u64 x2) ∧ w'.cell? ⟨b, o, none⟩ = some (.int .i64 a))) := Lib.hid fun W' hk => by
    refine (hc1 W' (hkw.trans hk)).mono fun e w' ⟨he, v1, h1, h2⟩ => ⟨he, ⟨v1, h1, (Frm.of_kept hk).trans h2⟩, ?_⟩
    have hs := hk.size
    have hne1 : some W.heap.size ≠ (Value.slice la n lc).ownBlock := fun e => by have := hown _ e.symm; omega
    exact ⟨h2.cell (by omega) (by omega) hne1 (hk.cell q3), h2.cell (by omega) (by omega) hne1 (hk.cell q4), h2.cell (by omega) (by omega) hne1 (hk.cell q5), harg _ _ ((Frm.of_kept (hkw.trans hk)).trans h2)⟩
  have HC2 := Lib.hid hc2
  have HOWN := Lib.hid hown
  have HWI := Lib.hid (fun W' (hk : Kept w1 W') => hwith W' (hkw.trans hk))
  have HKW := Lib.hid hkw
  have HSZ := Lib.hid hsz
  have HW1 : Hid (w1 = W.alloc (.cells #[.int .i64 x0, .int .u64 x1, .int .u64 x2] 109)) := Lib.hid hw1
  have hn' : (n : Int) ≤ 4096 := by omega
  have hkm' : (k : Int) ≤ (m : Int) := by omega
  have hk0 : ((k : Int) == 0) = false := by simp; omega
  have hm1 : (0 : Int) < (m : Int) := by omega
  have hm2 : 1 ≤ (m : Int) := by omega
  have hm3 : 0 < m := by omega
  have hk9 : (k : Int) ≤ 200 := by omega
  have hk91 : 1 ≤ (k : Int) := by omega
  have hmac : 1 ≤ (ac : Int) := by omega
  have hkk : (k : Int) - 1 = (k1 : Int) := by omega
  have hkw1 : IntKind.i64.wrap (k1 : Int) = (k1 : Int) := by rw [IntKind.wrap_i64]; omega
  rcases htv with ⟨hac, rfl⟩ | ⟨hac, rfl⟩
  · have hac1 : ¬ ac = 1 := (by omega)
    have hac2 : ¬ (ac : Int) = 1 := (by omega)
    clear hc1 hc2 hwith hkw hown harg hk1 hn hk hkm hw1 hsz
    go_enter Tryz.func141, Tryz.ntmps141
    go_upto_region 4 with fail
    rw [← HW1.out]
    go_cut [] (fun wx => (∃ v1, Hid (CutAt y0 y1 y2 y3 y4 y6 wx gl B v1 L1) ∧ Hid (Frm gl (.slice la n lc) v1 w1 wx)) ∧ (wx.cell? ⟨W.heap.size, 0, none⟩ = some (.int .i64 x0) ∧ wx.cell? ⟨W.heap.size, 1, none⟩ = some (.int .u64 x1) ∧ wx.cell? ⟨W.heap.size, 2, none⟩ = some (.int .u64 x2)))
    case first =>
      go_region_held3 (fun w' => w'.cell? ⟨W.heap.size, 0, none⟩ = some (.int .i64 x0) ∧ w'.cell? ⟨W.heap.size, 1, none⟩ = some (.int .u64 x1) ∧ w'.cell? ⟨W.heap.size, 2, none⟩ = some (.int .u64 x2) ∧ w'.cell? ⟨b, o, none⟩ = some (.int .i64 a))
        (first | go_keep | exact ⟨hk3.cell q3, hk3.cell q4, hk3.cell q5, hk3.cell qa⟩ | exact hS4)
        (first | (go_at_call 76; refine (HWI.out _ (Kept.refl _).drew).mono ?_; rintro e w3 ⟨rfl, hk3⟩) | (go_at_call 141; refine (HC1.out _ ((Kept.refl _).drew.trans hk3)).mono ?_; rintro e w4 ⟨rfl, h4, hS4⟩))
      all_goals
        obtain ⟨v1, h5, h6⟩ := h4
        have HL5 := Lib.hid h5
        have HF6 := Lib.hid h6
        obtain ⟨g3, g4, g5, _⟩ := hS4
        clear h5 h6
        go_wp2_with fail
        go_meet
        exact ⟨⟨v1, HL5, HF6⟩, g3, g4, g5⟩
    case rest =>
      obtain ⟨⟨v1, h5, h6⟩, g3, g4, g5⟩ := hcut
      clear q3 q4 q5 qa HC1 HWI hkw1
      have HC3 : Hid (∀ W', Kept wc W' → Calls Tryz.prog 141 #[.pointer (some ⟨gl, 0, none⟩), .agg #[.int .i64 x0, .int .u64 x1, .int .u64 x2], .slice (some ⟨b, o + 1, none⟩) (m - 1) (ac - 1), .int .i64 k] W' fun e w' => e = .returned (.tuple #[]) ∧ (∃ v2, Hid (CutAt y0 y1 y2 y3 y4 y6 w' gl B v2 L2) ∧ Hid (Frm gl (.slice la n lc) v2 W w')) ∧ (w'.cell? ⟨W.heap.size, 0, none⟩ = some (.int .i64 x0) ∧ w'.cell? ⟨W.heap.size, 1, none⟩ = some (.int .u64 x1) ∧ w'.cell? ⟨W.heap.size, 2, none⟩ = some (.int .u64 x2))) := Lib.hid fun W' hk => by
        have hf := (Frm.of_kept HKW.out).trans (h6.out.trans (Frm.of_kept hk))
        refine (HC2.out v1 W' (h5.out.kept hk) hf).mono fun _ _ ⟨he, v2, e1, e2⟩ => ⟨he, ⟨v2, Lib.hid e1, Lib.hid (hf.trans e2)⟩, ?_⟩
        have hs := hk.size
        have hs2 := h6.out.size
        have hsz := HSZ.out
        have hne1 : some W.heap.size ≠ v1.ownBlock := fun e => by
          rcases h6.out.own with h | h
          · rw [h] at e; have := HOWN.out _ e.symm; omega
          · have := h _ e.symm; omega
        exact ⟨e2.cell (by omega) (by omega) hne1 (hk.cell g3), e2.cell (by omega) (by omega) hne1 (hk.cell g4), e2.cell (by omega) (by omega) hne1 (hk.cell g5)⟩
      clear HC2 h5 h6
      go_upto_region 5 with fail
      go_region_held3 (fun w' => w'.cell? ⟨W.heap.size, 0, none⟩ = some (.int .i64 x0) ∧ w'.cell? ⟨W.heap.size, 1, none⟩ = some (.int .u64 x1) ∧ w'.cell? ⟨W.heap.size, 2, none⟩ = some (.int .u64 x2))
        (first | go_keep | exact hS4)
        (first | (go_at_call 141; refine (HC3.out _ ((Kept.refl _).drew)).mono ?_; rintro e w4 ⟨rfl, ⟨v2, h7, h8⟩, hS4⟩))
      all_goals
        go_wp2
        refine bodyPost_end (results_none rfl _ _ _) rfl ?_
        exact ⟨rfl, v2, h7.out, h8.out⟩
  · subst hac
    skip
    clear hc1 hc2 hwith hkw hown harg hk1 hn hk hkm hw1 hsz
    go_enter Tryz.func141, Tryz.ntmps141
    go_upto_region 4 with fail
    rw [← HW1.out]
    go_cut [] (fun wx => (∃ v1, Hid (CutAt y0 y1 y2 y3 y4 y6 wx gl B v1 L1) ∧ Hid (Frm gl (.slice la n lc) v1 w1 wx)) ∧ (wx.cell? ⟨W.heap.size, 0, none⟩ = some (.int .i64 x0) ∧ wx.cell? ⟨W.heap.size, 1, none⟩ = some (.int .u64 x1) ∧ wx.cell? ⟨W.heap.size, 2, none⟩ = some (.int .u64 x2)))
    case first =>
      go_region_held3 (fun w' => w'.cell? ⟨W.heap.size, 0, none⟩ = some (.int .i64 x0) ∧ w'.cell? ⟨W.heap.size, 1, none⟩ = some (.int .u64 x1) ∧ w'.cell? ⟨W.heap.size, 2, none⟩ = some (.int .u64 x2) ∧ w'.cell? ⟨b, o, none⟩ = some (.int .i64 a))
        (first | go_keep | exact ⟨hk3.cell q3, hk3.cell q4, hk3.cell q5, hk3.cell qa⟩ | exact hS4)
        (first | (go_at_call 76; refine (HWI.out _ (Kept.refl _).drew).mono ?_; rintro e w3 ⟨rfl, hk3⟩) | (go_at_call 141; refine (HC1.out _ ((Kept.refl _).drew.trans hk3)).mono ?_; rintro e w4 ⟨rfl, h4, hS4⟩))
      all_goals
        obtain ⟨v1, h5, h6⟩ := h4
        have HL5 := Lib.hid h5
        have HF6 := Lib.hid h6
        obtain ⟨g3, g4, g5, _⟩ := hS4
        clear h5 h6
        go_wp2_with fail
        go_meet
        exact ⟨⟨v1, HL5, HF6⟩, g3, g4, g5⟩
    case rest =>
      obtain ⟨⟨v1, h5, h6⟩, g3, g4, g5⟩ := hcut
      clear q3 q4 q5 qa HC1 HWI hkw1
      have HC3 : Hid (∀ W', Kept wc W' → Calls Tryz.prog 141 #[.pointer (some ⟨gl, 0, none⟩), .agg #[.int .i64 x0, .int .u64 x1, .int .u64 x2], .slice (some ⟨b, o, none⟩) 0 0, .int .i64 k] W' fun e w' => e = .returned (.tuple #[]) ∧ (∃ v2, Hid (CutAt y0 y1 y2 y3 y4 y6 w' gl B v2 L2) ∧ Hid (Frm gl (.slice la n lc) v2 W w')) ∧ (w'.cell? ⟨W.heap.size, 0, none⟩ = some (.int .i64 x0) ∧ w'.cell? ⟨W.heap.size, 1, none⟩ = some (.int .u64 x1) ∧ w'.cell? ⟨W.heap.size, 2, none⟩ = some (.int .u64 x2))) := Lib.hid fun W' hk => by
        have hf := (Frm.of_kept HKW.out).trans (h6.out.trans (Frm.of_kept hk))
        refine (HC2.out v1 W' (h5.out.kept hk) hf).mono fun _ _ ⟨he, v2, e1, e2⟩ => ⟨he, ⟨v2, Lib.hid e1, Lib.hid (hf.trans e2)⟩, ?_⟩
        have hs := hk.size
        have hs2 := h6.out.size
        have hsz := HSZ.out
        have hne1 : some W.heap.size ≠ v1.ownBlock := fun e => by
          rcases h6.out.own with h | h
          · rw [h] at e; have := HOWN.out _ e.symm; omega
          · have := h _ e.symm; omega
        exact ⟨e2.cell (by omega) (by omega) hne1 (hk.cell g3), e2.cell (by omega) (by omega) hne1 (hk.cell g4), e2.cell (by omega) (by omega) hne1 (hk.cell g5)⟩
      clear HC2 h5 h6
      go_upto_region 5 with fail
      go_region_held3 (fun w' => w'.cell? ⟨W.heap.size, 0, none⟩ = some (.int .i64 x0) ∧ w'.cell? ⟨W.heap.size, 1, none⟩ = some (.int .u64 x1) ∧ w'.cell? ⟨W.heap.size, 2, none⟩ = some (.int .u64 x2))
        (first | go_keep | exact hS4)
        (first | (go_at_call 141; refine (HC3.out _ ((Kept.refl _).drew)).mono ?_; rintro e w4 ⟨rfl, ⟨v2, h7, h8⟩, hS4⟩))
      all_goals
        go_wp2
        refine bodyPost_end (results_none rfl _ _ _) rfl ?_
        exact ⟨rfl, v2, h7.out, h8.out⟩
end Go.Proofs.YtngbjdaaogbjmaaGreat.Tr
