import Derived.Test.YtiplibgnfcdlkaaQ24
/-
  Walks: zero.Count, zero.Minimal.
-/
namespace Go.Proofs.Ytiplibgnfcdlkaa
open Go.RowKit

theorem zn_errV (c : Nat) (h : c ≠ 0) : errV c = .iface 56 (.int .i64 (c : Nat)) := errV_pos h
theorem zCount_at (t : ZT) (N : List ZNode) (r : Nat) (F : Nat → Bool) (W : World) (h : TblAt W t N) (hr : r ≤ 1 + N.length) (hF : zm N r = F) (h0 : ZFrom 0 F) :
    Calls Try.prog 55 #[t.val, .int .i64 r] W fun e w' => e = .returned (.int .i64 (zcard F : Nat)) ∧ TblAt w' t N ∧ TFrm t W w' := by
  refine (zcount_any 24 t N r W h hr (by omega)).mono ?_
  rintro e w' ⟨x, N', rfl, ⟨rfl, rfl⟩, h1, h2⟩
  exact ⟨by rw [zct_card h.good hr h0 (fun s => by rw [hF])], h1, h2⟩
set_option maxRecDepth 100000 in
set_option maxHeartbeats 4000000 in
theorem zCount_any (v : Value) (c : Nat) (F : Nat → Bool) (W : World) (h : ZIn W v c F) :
    Calls Try.prog 32 #[v] W fun e w' => e = .returned (.tuple #[.int .i64 ((if c = 0 then zcard F else 0 : Nat) : Int), errV c]) ∧ Kept W w' := by
  obtain ⟨a, n, cp, r, rfl⟩ := h.shape
  obtain ⟨w1, hw1⟩ : ∃ w1, w1 = W.alloc (.cells #[.slice a n cp, .int .i64 r] 24) := ⟨_, rfl⟩
  have hk1 : Kept W w1 := by rw [hw1]; exact (Kept.refl _).alloc _
  have HK1 := Lib.hid hk1
  have HW1 := Lib.hid hw1
  have hx : RowAt w1 W.heap.size 24 [.slice a n cp, .int .i64 r] := by rw [hw1]; exact RowAt.made W #[.slice a n cp, .int .i64 r] 24
  have x0 := hx.cell (i := 0) (by simp)
  have x1 := hx.cell (i := 1) (by simp)
  simp only [List.getElem_cons_succ, List.getElem_cons_zero] at x0 x1
  by_cases hc : c = 0
  · subst hc
    have HOP : Hid (Calls Try.prog 53 #[.slice (some ⟨w1.heap.size, 0, none⟩) 1 1] (w1.alloc (.cells #[.slice a n cp, .int .i64 r] 24)) _) := Lib.hid (open1_ok h w1 _ hk1 rfl)
    have HF := Lib.hid (h.from rfl)
    clear h hw1 hk1 hx
    rw [if_pos rfl, errV_zero]
    go_enter Try.func32, Try.ntmps32
    go_upto_region 1 with fail
    rw [← HW1.out]
    go_wp2_with fail
    refine HOP.out.mono ?_
    rintro e w3 ⟨t, N, gr, cr, x, rfl, hcr, h3⟩
    have y0 := h3.cell
    have HCN := Lib.hid (zCount_at t N x F w3 h3.tbl h3.ref h3.fam HF.out)
    have HK3 := Lib.hid (HK1.out.trans (((Kept.refl _).alloc _).trans h3.kept))
    have HOW : Hid (∀ k, t.own w3 k → W.heap.size ≤ k) := Lib.hid fun k hk => by have h1 := h3.own k hk; simp only [World.size_alloc] at h1; have := HK1.out.size; omega
    clear h3 x0 x1
    go_wp2_with fail
    refine HCN.out.mono ?_
    rintro e w4 ⟨rfl, _, hf⟩
    have HK4 := Lib.hid (hf.toKept HK3.out HOW.out)
    clear hf
    go_wp2_with fail
    refine bodyPost_ret (v := .tuple #[.int .i64 (zcard F : Nat), .nilIface]) (by simp [results, Try.results32, go_sem]) rfl ?_
    exact ⟨rfl, HK4.out⟩
  · have HOP : Hid (Calls Try.prog 53 #[.slice (some ⟨w1.heap.size, 0, none⟩) 1 1] (w1.alloc (.cells #[.slice a n cp, .int .i64 r] 24)) _) := Lib.hid (open1_err h hc w1 _ hk1 rfl)
    rw [if_neg hc, errV_pos hc]
    clear h hw1 hk1 hx hc
    go_enter Try.func32, Try.ntmps32
    go_upto_region 1 with fail
    rw [← HW1.out]
    go_wp2_with fail
    refine HOP.out.mono ?_
    rintro e w3 ⟨rfl, hk3⟩
    have HK3 := Lib.hid (HK1.out.trans (((Kept.refl _).alloc _).trans hk3))
    clear hk3
    go_wp2_with fail
    refine bodyPost_ret (v := .tuple #[.int .i64 0, .iface 56 (.int .i64 (c : Nat))]) (by simp [results, Try.results32, go_sem]) rfl ?_
    exact ⟨rfl, HK3.out⟩
/-- What lies in the cell of a result. -/
structure ResCell (w : World) (g : Nat) : Prop where
  row : RowAt w g 24 [.slice none 0 0, .int .i64 0]
  raw : w.heap[g]? = some (.cells #[.slice none 0 0, .int .i64 0] 24 (0, 0))
theorem ResCell.kept {w w' : World} {g : Nat} (h : ResCell w g) (hk : Kept w w') : ResCell w' g := ⟨h.row.kept hk, (hk.block _ h.row.lt).trans h.raw⟩
theorem ResCell.made (w : World) : ResCell (w.alloc (.cells #[.slice none 0 0, .int .i64 0] 24)) w.heap.size := ⟨RowAt.made w #[.slice none 0 0, .int .i64 0] 24, heap_alloc_new w _⟩
theorem ResCell.cells {w : World} {g : Nat} (h : ResCell w g) : w.cell? ⟨g, 0, none⟩ = some (.slice none 0 0) ∧ w.cell? ⟨g, 1, none⟩ = some (.int .i64 0) ∧ w.frozen? ⟨g, 0, none⟩ = false ∧ w.frozen? ⟨g, 1, none⟩ = false := by
  have c0 := h.row.cell (i := 0) (by simp)
  have c1 := h.row.cell (i := 1) (by simp)
  exact ⟨by simpa using c0, by simpa using c1, h.row.free 0, h.row.free 1⟩
theorem ResCell.after {w : World} {g : Nat} (h : ResCell w g) (u v : Value) : ((w.setCell ⟨g, 0, none⟩ u).setCell ⟨g, 1, none⟩ v).cell? ⟨g, 0, none⟩ = some u ∧ ((w.setCell ⟨g, 0, none⟩ u).setCell ⟨g, 1, none⟩ v).cell? ⟨g, 1, none⟩ = some v := by
  have hF := (h.row.store 0 u).store 1 v
  have y0 := hF.cell (i := 0) (by simp)
  have y1 := hF.cell (i := 1) (by simp)
  exact ⟨by simpa using y0, by simpa using y1⟩
theorem res_two {W w : World} {g : Nat} (hk : Kept W w) (hg : W.heap.size ≤ g) (u v : Value) : Kept W ((w.setCell ⟨g, 0, none⟩ u).setCell ⟨g, 1, none⟩ v) := (hk.store hg _ _).store hg _ _
/-- The blocks of a call: an argument's box, the result's cell. -/
theorem box1 {W w1 : World} {a : Option Addr} {n cp : Nat} {r : Int} (h : w1 = (W.alloc (.cells #[.slice a n cp, .int .i64 r] 24)).alloc (.cells #[.slice none 0 0, .int .i64 0] 24)) :
    Kept W w1 ∧ w1.cell? ⟨W.heap.size, 0, none⟩ = some (.slice a n cp) ∧ w1.cell? ⟨W.heap.size, 1, none⟩ = some (.int .i64 r) ∧ ResCell w1 (W.heap.size + 1) := by
  have hx := RowAt.made W #[.slice a n cp, .int .i64 r] 24
  have hk : Kept (W.alloc (.cells #[.slice a n cp, .int .i64 r] 24)) w1 := by rw [h]; exact (Kept.refl _).alloc _
  have c0 := (hx.kept hk).cell (i := 0) (by simp)
  have c1 := (hx.kept hk).cell (i := 1) (by simp)
  refine ⟨((Kept.refl _).alloc _).trans hk, by simpa using c0, by simpa using c1, ?_⟩
  have := ResCell.made (W.alloc (.cells #[.slice a n cp, .int .i64 r] 24))
  rw [← h, World.size_alloc] at this
  exact this
/-- A result from a table: the reference's family. -/
theorem zresG_any {t : ZT} {N N' : List ZNode} {w : World} {u r : Nat} {F : Nat → Bool} (h : TblAt w t N') (hp : ZPut N u F N' r) (hm : (zcan F).1.length ≤ 4096) :
    Calls Try.prog 46 #[t.val, .int .i64 (r : Nat)] w fun e w' => (∃ a n c x, e = .returned (.tuple #[.agg #[.slice a n c, .int .i64 x], .nilIface]) ∧ ZDia w' (.agg #[.slice a n c, .int .i64 x]) F) ∧ Kept w w' := zresD_any t N' r F w h hp.ref hp.mem hm
set_option maxRecDepth 100000 in
set_option maxHeartbeats 4000000 in
theorem zMinimal_any (v : Value) (c : Nat) (F : Nat → Bool) (W : World) (h : ZIn W v c F) (hm : c = 0 → (zcan (zmin F)).1.length ≤ 4096) :
    Calls Try.prog 20 #[v] W fun e w' => ZOut w' e (c) (zmin F) ∧ Kept W w' := by
  obtain ⟨a, n, cp, r, rfl⟩ := h.shape
  obtain ⟨w1, hw1⟩ : ∃ w1, w1 = (W.alloc (.cells #[.slice a n cp, .int .i64 r] 24)).alloc (.cells #[.slice none 0 0, .int .i64 0] 24) := ⟨_, rfl⟩
  obtain ⟨hk1, x0, x1, hr1⟩ := box1 hw1
  have HK1 := Lib.hid hk1
  have HW1 := Lib.hid hw1
  have HR1 := Lib.hid hr1
  by_cases hc : c = 0
  · subst hc
    have HOP : Hid (Calls Try.prog 53 #[.slice (some ⟨w1.heap.size, 0, none⟩) 1 1] (w1.alloc (.cells #[.slice a n cp, .int .i64 r] 24)) _) := Lib.hid (open1_ok h w1 _ hk1 rfl)
    have HF := Lib.hid (h.from rfl)
    clear h hw1 hk1 hr1
    have HM := Lib.hid (hm rfl)
    clear hm
    unfold ZOut
    rw [errV_zero, if_pos rfl]
    go_enter Try.func20, Try.ntmps20
    go_upto_region 1 with fail
    rw [← HW1.out]
    go_wp2_with fail
    refine HOP.out.mono ?_
    rintro e w3 ⟨t, N, gr, cr, x, rfl, hcr, h3⟩
    have y0 := h3.cell
    have hk13 := ((Kept.refl w1).alloc (.cells #[.slice a n cp, .int .i64 r] 24)).trans h3.kept
    have HK3 := Lib.hid (HK1.out.trans hk13)
    have HR3 := Lib.hid (HR1.out.kept hk13)
    have HOW : Hid (∀ k, t.own w3 k → w1.heap.size ≤ k) := Lib.hid fun k hk => by have h1 := h3.own k hk; simp only [World.size_alloc] at h1; omega
    have HH3 := Lib.hid h3
    have HCN : Hid (Calls Try.prog 54 #[t.val, .int .i64 (x : Nat)] w3 (GenPost t w3 fun N' y => ∃ u, ZPut N u (zmin F) N' y)) := Lib.hid (by
      refine (zminimal_any 24 t N x w3 h3.tbl h3.ref (by omega) (by have := h3.len; omega)).mono ?_
      rintro e w' ⟨y, N', rfl, ⟨hp, _⟩, h4, h5⟩
      rw [h3.fam] at hp
      exact ⟨y, N', rfl, ⟨_, hp⟩, h4, h5⟩)
    have HK13 := Lib.hid hk13
    clear h3 x0 x1 hk13
    go_wp2_with fail
    refine HCN.out.mono ?_
    rintro e w4 ⟨y, N', rfl, ⟨u, hp⟩, h4, hf⟩
    have HK4 := Lib.hid (hf.toKept HK3.out (fun k hk => by have := HOW.out k hk; have := HK1.out.size; omega))
    have HR4 := Lib.hid (HR1.out.kept (hf.toKept HK13.out HOW.out))
    have HRS := Lib.hid (zresG_any h4 hp HM.out)
    clear hp h4 hf y0
    go_wp2_with fail
    refine HRS.out.mono ?_
    rintro e w5 ⟨⟨ra, rn, rc, rx, rfl, hd⟩, hk5⟩
    have HK5 := Lib.hid (HK4.out.trans hk5)
    have HR5 := Lib.hid (HR4.out.kept hk5)
    have HD5 := Lib.hid hd
    obtain ⟨c0, c1, f0, f1⟩ := HR5.out.cells
    clear hk5 hd
    go_wp2_with fail
    obtain ⟨y0, y1⟩ := HR5.out.after (.slice ra rn rc) (.int .i64 rx)
    refine bodyPost_ret (v := .tuple #[.agg #[.slice ra rn rc, .int .i64 rx], .nilIface]) (by simp [results, Try.results20, go_sem, y0, y1]) rfl ⟨⟨_, rfl, HD5.out.past HR5.out.raw⟩, ?_⟩
    exact res_two HK5.out (by omega) _ _
  · have HOP : Hid (Calls Try.prog 53 #[.slice (some ⟨w1.heap.size, 0, none⟩) 1 1] (w1.alloc (.cells #[.slice a n cp, .int .i64 r] 24)) _) := Lib.hid (open1_err h hc w1 _ hk1 rfl)
    unfold ZOut
    rw [errV_pos hc, if_neg hc]
    clear h hw1 hk1 hr1 hc hm
    go_enter Try.func20, Try.ntmps20
    go_upto_region 1 with fail
    rw [← HW1.out]
    go_wp2_with fail
    refine HOP.out.mono ?_
    rintro e w3 ⟨rfl, hk3⟩
    have hk13 := ((Kept.refl w1).alloc (.cells #[.slice a n cp, .int .i64 r] 24)).trans hk3
    have HK3 := Lib.hid (HK1.out.trans hk13)
    have HR3 := Lib.hid (HR1.out.kept hk13)
    obtain ⟨c0, c1, f0, f1⟩ := HR3.out.cells
    clear hk3 hk13
    go_wp2_with fail
    obtain ⟨y0, y1⟩ := HR3.out.after (.slice none 0 0) (.int .i64 0)
    refine bodyPost_ret (v := .tuple #[.agg #[.slice none 0 0, .int .i64 0], .iface 56 (.int .i64 (c : Nat))]) (by simp [results, Try.results20, go_sem, y0, y1]) rfl ⟨⟨_, rfl, zdia_no _⟩, ?_⟩
    exact res_two HK3.out (by omega) _ _
end Go.Proofs.Ytiplibgnfcdlkaa

/-
  Walks: zero.UpTo, zero.With. Printed by gen_ZC5.py.
-/
namespace Go.Proofs.Ytiplibgnfcdlkaa
open Go.RowKit

set_option maxRecDepth 100000 in
set_option maxHeartbeats 4000000 in
theorem zUpTo_any (v : Value) (c : Nat) (F : Nat → Bool) (k : Int) (W : World) (h : ZIn W v c F) (hm : c = 0 → 0 ≤ k → k ≤ 24 → (zcan (zupto F k)).1.length ≤ 4096) :
    Calls Try.prog 35 #[v, .int .i64 k] W fun e w' => ZOut w' e (if c = 0 then (if k < 0 ∨ 24 < k then 3 else 0) else c) (zupto F k) ∧ Kept W w' := by
  obtain ⟨a, n, cp, r, rfl⟩ := h.shape
  obtain ⟨w1, hw1⟩ : ∃ w1, w1 = (W.alloc (.cells #[.slice a n cp, .int .i64 r] 24)).alloc (.cells #[.slice none 0 0, .int .i64 0] 24) := ⟨_, rfl⟩
  obtain ⟨hk1, x0, x1, hr1⟩ := box1 hw1
  have HK1 := Lib.hid hk1
  have HW1 := Lib.hid hw1
  have HR1 := Lib.hid hr1
  by_cases hc : c = 0
  · subst hc
    have HOP : Hid (Calls Try.prog 53 #[.slice (some ⟨w1.heap.size, 0, none⟩) 1 1] (w1.alloc (.cells #[.slice a n cp, .int .i64 r] 24)) _) := Lib.hid (open1_ok h w1 _ hk1 rfl)
    have HF := Lib.hid (h.from rfl)
    clear h hw1 hk1 hr1
    by_cases g1 : k < 0
    · have HE : Hid ((if k < 0 ∨ 24 < k then 3 else 0) = 3) := Lib.hid (by rw [if_pos (.inl g1)])
      unfold ZOut
      rw [if_pos rfl, HE.out, if_neg (by decide)]
      clear hm
      go_enter Try.func35, Try.ntmps35
      go_upto_region 1 with fail
      rw [← HW1.out]
      go_wp2_with fail
      refine HOP.out.mono ?_
      rintro e w3 ⟨t, N, gr, cr, x, rfl, hcr, h3⟩
      have hk13 := ((Kept.refl w1).alloc (.cells #[.slice a n cp, .int .i64 r] 24)).trans h3.kept
      have HK3 := Lib.hid (HK1.out.trans hk13)
      have HR3 := Lib.hid (HR1.out.kept hk13)
      obtain ⟨c0, c1, f0, f1⟩ := HR3.out.cells
      clear h3 hk13
      go_wp2_with fail
      obtain ⟨y0, y1⟩ := HR3.out.after (.slice none 0 0) (.int .i64 0)
      refine bodyPost_ret (v := .tuple #[.agg #[.slice none 0 0, .int .i64 0], .iface 56 (.int .i64 3)]) (by simp [results, Try.results35, go_sem, y0, y1]) rfl ⟨⟨_, rfl, zdia_no _⟩, ?_⟩
      exact res_two HK3.out (by omega) _ _
    · by_cases g2 : 24 < k
      · have HE : Hid ((if k < 0 ∨ 24 < k then 3 else 0) = 3) := Lib.hid (by rw [if_pos (.inr g2)])
        unfold ZOut
        rw [if_pos rfl, HE.out, if_neg (by decide)]
        clear hm
        go_enter Try.func35, Try.ntmps35
        go_upto_region 1 with fail
        rw [← HW1.out]
        go_wp2_with fail
        refine HOP.out.mono ?_
        rintro e w3 ⟨t, N, gr, cr, x, rfl, hcr, h3⟩
        have hk13 := ((Kept.refl w1).alloc (.cells #[.slice a n cp, .int .i64 r] 24)).trans h3.kept
        have HK3 := Lib.hid (HK1.out.trans hk13)
        have HR3 := Lib.hid (HR1.out.kept hk13)
        obtain ⟨c0, c1, f0, f1⟩ := HR3.out.cells
        clear h3 hk13
        go_wp2_with fail
        obtain ⟨y0, y1⟩ := HR3.out.after (.slice none 0 0) (.int .i64 0)
        refine bodyPost_ret (v := .tuple #[.agg #[.slice none 0 0, .int .i64 0], .iface 56 (.int .i64 3)]) (by simp [results, Try.results35, go_sem, y0, y1]) rfl ⟨⟨_, rfl, zdia_no _⟩, ?_⟩
        exact res_two HK3.out (by omega) _ _
      · have HM := Lib.hid (hm rfl (by omega) (by omega))
        clear hm
        rw [if_pos rfl, if_neg (by omega)]
        unfold ZOut
        rw [errV_zero, if_pos rfl]
        go_enter Try.func35, Try.ntmps35
        go_upto_region 1 with fail
        rw [← HW1.out]
        go_wp2_with fail
        refine HOP.out.mono ?_
        rintro e w3 ⟨t, N, gr, cr, x, rfl, hcr, h3⟩
        have y0 := h3.cell
        have hk13 := ((Kept.refl w1).alloc (.cells #[.slice a n cp, .int .i64 r] 24)).trans h3.kept
        have HK3 := Lib.hid (HK1.out.trans hk13)
        have HOW : Hid (∀ k, t.own w3 k → w1.heap.size ≤ k) := Lib.hid fun k hk => by have h1 := h3.own k hk; simp only [World.size_alloc] at h1; omega
        have HCN : Hid (Calls Try.prog 70 #[t.val, .int .i64 (x : Nat), .int .i64 k] w3 (GenPost t w3 fun N' y => ∃ u, ZPut N u (zupto F k) N' y)) := Lib.hid (by
          refine (zupto_any 24 t N x k w3 h3.tbl h3.ref (by omega) (by omega) (by omega) (by have := h3.len; omega)).mono ?_
          rintro e w' ⟨y, N', rfl, ⟨hp, _⟩, h4, h5⟩
          rw [h3.fam] at hp
          exact ⟨y, N', rfl, ⟨_, hp⟩, h4, h5⟩)
        have HK13 := Lib.hid hk13
        clear h3 x0 x1 hk13
        go_wp2_with fail
        refine HCN.out.mono ?_
        rintro e w4 ⟨y, N', rfl, ⟨u, hp⟩, h4, hf⟩
        have HK4 := Lib.hid (hf.toKept HK3.out (fun k hk => by have := HOW.out k hk; have := HK1.out.size; omega))
        have HR4 := Lib.hid (HR1.out.kept (hf.toKept HK13.out HOW.out))
        have HRS := Lib.hid (zresG_any h4 hp HM.out)
        clear hp h4 hf y0
        go_wp2_with fail
        refine HRS.out.mono ?_
        rintro e w5 ⟨⟨ra, rn, rc, rx, rfl, hd⟩, hk5⟩
        have HK5 := Lib.hid (HK4.out.trans hk5)
        have HR5 := Lib.hid (HR4.out.kept hk5)
        have HD5 := Lib.hid hd
        obtain ⟨c0, c1, f0, f1⟩ := HR5.out.cells
        clear hk5 hd
        go_wp2_with fail
        obtain ⟨y0, y1⟩ := HR5.out.after (.slice ra rn rc) (.int .i64 rx)
        refine bodyPost_ret (v := .tuple #[.agg #[.slice ra rn rc, .int .i64 rx], .nilIface]) (by simp [results, Try.results35, go_sem, y0, y1]) rfl ⟨⟨_, rfl, HD5.out.past HR5.out.raw⟩, ?_⟩
        exact res_two HK5.out (by omega) _ _
  · have HOP : Hid (Calls Try.prog 53 #[.slice (some ⟨w1.heap.size, 0, none⟩) 1 1] (w1.alloc (.cells #[.slice a n cp, .int .i64 r] 24)) _) := Lib.hid (open1_err h hc w1 _ hk1 rfl)
    rw [if_neg hc]
    unfold ZOut
    rw [errV_pos hc, if_neg hc]
    clear h hw1 hk1 hr1 hc hm
    go_enter Try.func35, Try.ntmps35
    go_upto_region 1 with fail
    rw [← HW1.out]
    go_wp2_with fail
    refine HOP.out.mono ?_
    rintro e w3 ⟨rfl, hk3⟩
    have hk13 := ((Kept.refl w1).alloc (.cells #[.slice a n cp, .int .i64 r] 24)).trans hk3
    have HK3 := Lib.hid (HK1.out.trans hk13)
    have HR3 := Lib.hid (HR1.out.kept hk13)
    obtain ⟨c0, c1, f0, f1⟩ := HR3.out.cells
    clear hk3 hk13
    go_wp2_with fail
    obtain ⟨y0, y1⟩ := HR3.out.after (.slice none 0 0) (.int .i64 0)
    refine bodyPost_ret (v := .tuple #[.agg #[.slice none 0 0, .int .i64 0], .iface 56 (.int .i64 (c : Nat))]) (by simp [results, Try.results35, go_sem, y0, y1]) rfl ⟨⟨_, rfl, zdia_no _⟩, ?_⟩
    exact res_two HK3.out (by omega) _ _
set_option maxRecDepth 100000 in
set_option maxHeartbeats 4000000 in
theorem zWith_any (v : Value) (c : Nat) (F : Nat → Bool) (k : Int) (W : World) (h : ZIn W v c F) (hm : c = 0 → 0 ≤ k → k ≤ 24 → (zcan (zwith F k.toNat)).1.length ≤ 4096) :
    Calls Try.prog 36 #[v, .int .i64 k] W fun e w' => ZOut w' e (if c = 0 then (if k < 0 ∨ 24 ≤ k then 10 else 0) else c) (zwith F k.toNat) ∧ Kept W w' := by
  obtain ⟨a, n, cp, r, rfl⟩ := h.shape
  obtain ⟨w1, hw1⟩ : ∃ w1, w1 = (W.alloc (.cells #[.slice a n cp, .int .i64 r] 24)).alloc (.cells #[.slice none 0 0, .int .i64 0] 24) := ⟨_, rfl⟩
  obtain ⟨hk1, x0, x1, hr1⟩ := box1 hw1
  have HK1 := Lib.hid hk1
  have HW1 := Lib.hid hw1
  have HR1 := Lib.hid hr1
  by_cases hc : c = 0
  · subst hc
    have HOP : Hid (Calls Try.prog 53 #[.slice (some ⟨w1.heap.size, 0, none⟩) 1 1] (w1.alloc (.cells #[.slice a n cp, .int .i64 r] 24)) _) := Lib.hid (open1_ok h w1 _ hk1 rfl)
    have HF := Lib.hid (h.from rfl)
    clear h hw1 hk1 hr1
    by_cases g1 : k < 0
    · have HE : Hid ((if k < 0 ∨ 24 ≤ k then 10 else 0) = 10) := Lib.hid (by rw [if_pos (.inl g1)])
      unfold ZOut
      rw [if_pos rfl, HE.out, if_neg (by decide)]
      clear hm
      go_enter Try.func36, Try.ntmps36
      go_upto_region 1 with fail
      rw [← HW1.out]
      go_wp2_with fail
      refine HOP.out.mono ?_
      rintro e w3 ⟨t, N, gr, cr, x, rfl, hcr, h3⟩
      have hk13 := ((Kept.refl w1).alloc (.cells #[.slice a n cp, .int .i64 r] 24)).trans h3.kept
      have HK3 := Lib.hid (HK1.out.trans hk13)
      have HR3 := Lib.hid (HR1.out.kept hk13)
      obtain ⟨c0, c1, f0, f1⟩ := HR3.out.cells
      clear h3 hk13
      go_wp2_with fail
      obtain ⟨y0, y1⟩ := HR3.out.after (.slice none 0 0) (.int .i64 0)
      refine bodyPost_ret (v := .tuple #[.agg #[.slice none 0 0, .int .i64 0], .iface 56 (.int .i64 10)]) (by simp [results, Try.results36, go_sem, y0, y1]) rfl ⟨⟨_, rfl, zdia_no _⟩, ?_⟩
      exact res_two HK3.out (by omega) _ _
    · by_cases g2 : 24 ≤ k
      · have HE : Hid ((if k < 0 ∨ 24 ≤ k then 10 else 0) = 10) := Lib.hid (by rw [if_pos (.inr g2)])
        unfold ZOut
        rw [if_pos rfl, HE.out, if_neg (by decide)]
        clear hm
        go_enter Try.func36, Try.ntmps36
        go_upto_region 1 with fail
        rw [← HW1.out]
        go_wp2_with fail
        refine HOP.out.mono ?_
        rintro e w3 ⟨t, N, gr, cr, x, rfl, hcr, h3⟩
        have hk13 := ((Kept.refl w1).alloc (.cells #[.slice a n cp, .int .i64 r] 24)).trans h3.kept
        have HK3 := Lib.hid (HK1.out.trans hk13)
        have HR3 := Lib.hid (HR1.out.kept hk13)
        obtain ⟨c0, c1, f0, f1⟩ := HR3.out.cells
        clear h3 hk13
        go_wp2_with fail
        obtain ⟨y0, y1⟩ := HR3.out.after (.slice none 0 0) (.int .i64 0)
        refine bodyPost_ret (v := .tuple #[.agg #[.slice none 0 0, .int .i64 0], .iface 56 (.int .i64 10)]) (by simp [results, Try.results36, go_sem, y0, y1]) rfl ⟨⟨_, rfl, zdia_no _⟩, ?_⟩
        exact res_two HK3.out (by omega) _ _
      · have HM := Lib.hid (hm rfl (by omega) (by omega))
        clear hm
        rw [if_pos rfl, if_neg (by omega)]
        unfold ZOut
        rw [errV_zero, if_pos rfl]
        obtain ⟨j, rfl⟩ : ∃ j : Nat, k = (j : Int) := ⟨k.toNat, by omega⟩
        rw [Int.toNat_natCast] at HM ⊢
        go_enter Try.func36, Try.ntmps36
        go_upto_region 1 with fail
        rw [← HW1.out]
        go_wp2_with fail
        refine HOP.out.mono ?_
        rintro e w3 ⟨t, N, gr, cr, x, rfl, hcr, h3⟩
        have y0 := h3.cell
        have hk13 := ((Kept.refl w1).alloc (.cells #[.slice a n cp, .int .i64 r] 24)).trans h3.kept
        have HK3 := Lib.hid (HK1.out.trans hk13)
        have HOW : Hid (∀ k, t.own w3 k → w1.heap.size ≤ k) := Lib.hid fun k hk => by have h1 := h3.own k hk; simp only [World.size_alloc] at h1; omega
        have HCN : Hid (Calls Try.prog 71 #[t.val, .int .i64 (x : Nat), .int .i64 (j : Nat)] w3 (GenPost t w3 fun N' y => ∃ u, ZPut N u (zwith F j) N' y)) := Lib.hid (by
          refine (zwith_any 24 t N x j w3 h3.tbl h3.ref (by omega) (by omega) (by have := h3.len; omega)).mono ?_
          rintro e w' ⟨y, N', rfl, ⟨hp, _⟩, h4, h5⟩
          rw [h3.fam] at hp
          exact ⟨y, N', rfl, ⟨_, hp⟩, h4, h5⟩)
        have HK13 := Lib.hid hk13
        clear h3 x0 x1 hk13
        go_wp2_with fail
        refine HCN.out.mono ?_
        rintro e w4 ⟨y, N', rfl, ⟨u, hp⟩, h4, hf⟩
        have HK4 := Lib.hid (hf.toKept HK3.out (fun k hk => by have := HOW.out k hk; have := HK1.out.size; omega))
        have HR4 := Lib.hid (HR1.out.kept (hf.toKept HK13.out HOW.out))
        have HRS := Lib.hid (zresG_any h4 hp HM.out)
        clear hp h4 hf y0
        go_wp2_with fail
        refine HRS.out.mono ?_
        rintro e w5 ⟨⟨ra, rn, rc, rx, rfl, hd⟩, hk5⟩
        have HK5 := Lib.hid (HK4.out.trans hk5)
        have HR5 := Lib.hid (HR4.out.kept hk5)
        have HD5 := Lib.hid hd
        obtain ⟨c0, c1, f0, f1⟩ := HR5.out.cells
        clear hk5 hd
        go_wp2_with fail
        obtain ⟨y0, y1⟩ := HR5.out.after (.slice ra rn rc) (.int .i64 rx)
        refine bodyPost_ret (v := .tuple #[.agg #[.slice ra rn rc, .int .i64 rx], .nilIface]) (by simp [results, Try.results36, go_sem, y0, y1]) rfl ⟨⟨_, rfl, HD5.out.past HR5.out.raw⟩, ?_⟩
        exact res_two HK5.out (by omega) _ _
  · have HOP : Hid (Calls Try.prog 53 #[.slice (some ⟨w1.heap.size, 0, none⟩) 1 1] (w1.alloc (.cells #[.slice a n cp, .int .i64 r] 24)) _) := Lib.hid (open1_err h hc w1 _ hk1 rfl)
    rw [if_neg hc]
    unfold ZOut
    rw [errV_pos hc, if_neg hc]
    clear h hw1 hk1 hr1 hc hm
    go_enter Try.func36, Try.ntmps36
    go_upto_region 1 with fail
    rw [← HW1.out]
    go_wp2_with fail
    refine HOP.out.mono ?_
    rintro e w3 ⟨rfl, hk3⟩
    have hk13 := ((Kept.refl w1).alloc (.cells #[.slice a n cp, .int .i64 r] 24)).trans hk3
    have HK3 := Lib.hid (HK1.out.trans hk13)
    have HR3 := Lib.hid (HR1.out.kept hk13)
    obtain ⟨c0, c1, f0, f1⟩ := HR3.out.cells
    clear hk3 hk13
    go_wp2_with fail
    obtain ⟨y0, y1⟩ := HR3.out.after (.slice none 0 0) (.int .i64 0)
    refine bodyPost_ret (v := .tuple #[.agg #[.slice none 0 0, .int .i64 0], .iface 56 (.int .i64 (c : Nat))]) (by simp [results, Try.results36, go_sem, y0, y1]) rfl ⟨⟨_, rfl, zdia_no _⟩, ?_⟩
    exact res_two HK3.out (by omega) _ _
end Go.Proofs.Ytiplibgnfcdlkaa
