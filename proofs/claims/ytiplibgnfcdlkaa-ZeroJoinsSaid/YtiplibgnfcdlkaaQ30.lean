import Derived.Test.YtiplibgnfcdlkaaQ29
/-
  Walks: zero.both.
-/
namespace Go.Proofs.Ytiplibgnfcdlkaa
open Go.RowKit

/-- The blocks of a call of two arguments. -/
theorem box2 {W w1 : World} {a b : Option Addr} {n cp m cq : Nat} {r s : Int} (h : w1 = ((W.alloc (.cells #[.slice a n cp, .int .i64 r] 24)).alloc (.cells #[.slice b m cq, .int .i64 s] 24)).alloc (.cells #[.slice none 0 0, .int .i64 0] 24)) :
    Kept W w1 ∧ w1.cell? ⟨W.heap.size, 0, none⟩ = some (.slice a n cp) ∧ w1.cell? ⟨W.heap.size, 1, none⟩ = some (.int .i64 r) ∧ w1.cell? ⟨W.heap.size + 1, 0, none⟩ = some (.slice b m cq) ∧ w1.cell? ⟨W.heap.size + 1, 1, none⟩ = some (.int .i64 s) ∧ ResCell w1 (W.heap.size + 1 + 1) := by
  obtain ⟨wa, hwa⟩ : ∃ x, x = W.alloc (.cells #[.slice a n cp, .int .i64 r] 24) := ⟨_, rfl⟩
  rw [← hwa] at h
  have hka : Kept W wa := by rw [hwa]; exact (Kept.refl _).alloc _
  have hsa : wa.heap.size = W.heap.size + 1 := by rw [hwa]; simp
  have hx : RowAt wa W.heap.size 24 [.slice a n cp, .int .i64 r] := by rw [hwa]; exact RowAt.made W #[.slice a n cp, .int .i64 r] 24
  obtain ⟨hk, d0, d1, hr⟩ := box1 h
  have c0 := (hx.kept hk).cell (i := 0) (by simp)
  have c1 := (hx.kept hk).cell (i := 1) (by simp)
  rw [hsa] at d0 d1 hr
  exact ⟨hka.trans hk, by simpa using c0, by simpa using c1, d0, d1, hr⟩
/-- What an operation on a table does. -/
def OpOk (f : Nat) (F G H : Nat → Bool) : Prop := (∀ args w, (callFunc f args).run Try.prog w = .ok (.enter f args) w) ∧ ∀ (t : ZT) (N : List ZNode) (a b : Nat) (W : World), TblAt W t N → a ≤ 1 + N.length → b ≤ 1 + N.length → N.length ≤ 8192 → zm N a = F → zm N b = G →
  Calls Try.prog f #[t.val, .int .i64 a, .int .i64 b] W (GenPost t W fun N' y => ∃ u, ZPut N u H N' y)
set_option maxRecDepth 100000 in
set_option maxHeartbeats 4000000 in
theorem zboth_any (f : Nat) (v v' : Value) (c d : Nat) (F G H : Nat → Bool) (W : World) (hop : c = 0 → d = 0 → OpOk f F G H) (h : ZIn W v c F) (h' : ZIn W v' d G) (hm : c = 0 → d = 0 → (zcan H).1.length ≤ 4096) :
    Calls Try.prog 63 #[v, v', .func (.func f) #[] #[]] W fun e w' => ZOut w' e (if c = 0 then d else c) H ∧ Kept W w' := by
  obtain ⟨a, n, cp, r, rfl⟩ := h.shape
  obtain ⟨b, m, cq, s, rfl⟩ := h'.shape
  obtain ⟨w1, hw1⟩ : ∃ w1, w1 = ((W.alloc (.cells #[.slice a n cp, .int .i64 r] 24)).alloc (.cells #[.slice b m cq, .int .i64 s] 24)).alloc (.cells #[.slice none 0 0, .int .i64 0] 24) := ⟨_, rfl⟩
  obtain ⟨hk1, x0, x1, x2, x3, hr1⟩ := box2 hw1
  have HK1 := Lib.hid hk1
  have HW1 := Lib.hid hw1
  have HR1 := Lib.hid hr1
  by_cases hc : (if c = 0 then d else c) = 0
  · obtain rfl : c = 0 := by
      by_cases e : c = 0
      · exact e
      · rw [if_neg e] at hc; exact hc
    rw [if_pos rfl] at hc
    subst hc
    have HOP : Hid (Calls Try.prog 53 #[.slice (some ⟨w1.heap.size, 0, none⟩) 2 2] (w1.alloc (.cells #[.slice a n cp, .int .i64 r, .slice b m cq, .int .i64 s] 24)) _) := Lib.hid (open2_ok h h' w1 _ hk1 rfl)
    have HM := Lib.hid (hm rfl rfl)
    obtain ⟨eg, hop⟩ := hop rfl rfl
    have HOK := Lib.hid hop
    clear h h' hw1 hk1 hr1 hm hop
    rw [if_pos rfl]
    unfold ZOut
    rw [errV_zero, if_pos rfl]
    go_enter Try.func63, Try.ntmps63
    go_upto_region 1 with fail
    rw [← HW1.out]
    go_wp2_with fail
    refine HOP.out.mono ?_
    rintro e w3 ⟨t, N, gr, cr, x, y, rfl, hcr, h3⟩
    have y0 := h3.cell0
    have y1 := h3.cell1
    have hk13 := ((Kept.refl w1).alloc (.cells #[.slice a n cp, .int .i64 r, .slice b m cq, .int .i64 s] 24)).trans h3.kept
    have HK3 := Lib.hid (HK1.out.trans hk13)
    have HOW : Hid (∀ k, t.own w3 k → w1.heap.size ≤ k) := Lib.hid fun k hk => by have h1 := h3.own k hk; simp only [World.size_alloc] at h1; omega
    have HK13 := Lib.hid hk13
    have HCN : Hid (Calls Try.prog f #[t.val, .int .i64 (x : Nat), .int .i64 (y : Nat)] w3.drew (GenPost t w3.drew fun N' y => ∃ u, ZPut N u H N' y)) := Lib.hid (HOK.out t N x y w3.drew (h3.tbl.kept (Kept.refl _).drew) h3.ref0 h3.ref1 h3.len h3.fam0 h3.fam1)
    have HTB := Lib.hid h3.tbl.lt
    clear h3 x0 x1 x2 x3 hk13
    go_upto_region 4 with fail
    go_region_with (first
      | ((with_reducible refine HCN.out.mono ?_); rintro e w4 ⟨z, N', rfl, ⟨u, hp⟩, h4, hf⟩; have HOD : Hid (∀ k, t.own w3.drew k → w1.heap.size ≤ k) := Lib.hid fun k hk => HOW.out k (ZT.own_same (show w3.drew.heap[t.tb]? = w3.heap[t.tb]? from rfl) hk); have HK4 := Lib.hid (hf.toKept HK3.out.drew (fun k hk => by have := HOD.out k hk; have := HK1.out.size; omega)); have HR4 := Lib.hid (HR1.out.kept (hf.toKept HK13.out.drew HOD.out)); have HRS := Lib.hid (zresG_any h4 hp HM.out); clear hp h4 hf)
      | (go_at_call 46; (with_reducible refine HRS.out.mono ?_); rintro e w5 ⟨⟨ra, rn, rc, rx, rfl, hd⟩, hk5⟩; have HK5 := Lib.hid (HK4.out.trans hk5); have HR5 := Lib.hid (HR4.out.kept hk5); have HD5 := Lib.hid hd; obtain ⟨c0, c1, f0, f1⟩ := HR5.out.cells; clear hk5 hd))
    all_goals
      go_wp2_with fail
      obtain ⟨z0, z1⟩ := HR5.out.after (.slice ra rn rc) (.int .i64 rx)
      refine bodyPost_ret (v := .tuple #[.agg #[.slice ra rn rc, .int .i64 rx], .nilIface]) (by simp [results, Try.results63, go_sem, z0, z1]) rfl ⟨⟨_, rfl, HD5.out.past HR5.out.raw⟩, ?_⟩
      exact res_two HK5.out (by omega) _ _
  · obtain ⟨k, hk⟩ : ∃ k, k = if c = 0 then d else c := ⟨_, rfl⟩
    rw [← hk] at hc ⊢
    have HOP : Hid (Calls Try.prog 53 #[.slice (some ⟨w1.heap.size, 0, none⟩) 2 2] (w1.alloc (.cells #[.slice a n cp, .int .i64 r, .slice b m cq, .int .i64 s] 24)) _) := Lib.hid (open2_err h h' hk hc w1 _ hk1 rfl)
    unfold ZOut
    rw [errV_pos hc, if_neg hc]
    clear h h' hw1 hk1 hr1 hc hm hk hop
    go_enter Try.func63, Try.ntmps63
    go_upto_region 1 with fail
    rw [← HW1.out]
    go_wp2_with fail
    refine HOP.out.mono ?_
    rintro e w3 ⟨rfl, hk3⟩
    have hk13 := ((Kept.refl w1).alloc (.cells #[.slice a n cp, .int .i64 r, .slice b m cq, .int .i64 s] 24)).trans hk3
    have HK3 := Lib.hid (HK1.out.trans hk13)
    have HR3 := Lib.hid (HR1.out.kept hk13)
    obtain ⟨c0, c1, f0, f1⟩ := HR3.out.cells
    clear hk3 hk13
    go_wp2_with fail
    obtain ⟨y0, y1⟩ := HR3.out.after (.slice none 0 0) (.int .i64 0)
    refine bodyPost_ret (v := .tuple #[.agg #[.slice none 0 0, .int .i64 0], .iface 56 (.int .i64 (k : Nat))]) (by simp [results, Try.results63, go_sem, y0, y1]) rfl ⟨⟨_, rfl, zdia_no _⟩, ?_⟩
    exact res_two HK3.out (by omega) _ _
end Go.Proofs.Ytiplibgnfcdlkaa

/-
  Walks: zero.Union, Meet, Minus, Join, Without. Printed by gen_ZC7.py.
-/
namespace Go.Proofs.Ytiplibgnfcdlkaa
open Go.RowKit

theorem okUnion (F G : Nat → Bool) : OpOk 44 F G (fun s => or (F s) (G s)) := by
  refine ⟨enters_of Try.func44 (by kernel_rfl) rfl, fun t N a b W h ha hb hl ea eb => ?_⟩
  refine (zunion_any 24 t N a b W h ha hb (by omega) (by omega)).mono ?_
  rintro e w' ⟨y, N', rfl, ⟨hp, _⟩, h4, h5⟩
  rw [ea, eb] at hp
  exact ⟨y, N', rfl, ⟨_, hp⟩, h4, h5⟩
set_option maxRecDepth 100000 in
set_option maxHeartbeats 4000000 in
theorem zUnion_any (v v' : Value) (c d : Nat) (F G : Nat → Bool) (W : World) (h : ZIn W v c F) (h' : ZIn W v' d G) (hm : c = 0 → d = 0 → (zcan (fun s => or (F s) (G s))).1.length ≤ 4096) :
    Calls Try.prog 31 #[v, v'] W fun e w' => ZOut w' e (if c = 0 then d else c) (fun s => or (F s) (G s)) ∧ Kept W w' := by
  have hb : ∀ w1, Kept W w1 → Calls Try.prog 63 #[v, v', .func (.func 44) #[] #[]] w1 _ := fun w1 hk => zboth_any _ v v' c d F G (fun s => or (F s) (G s)) w1 (fun e1 e2 => okUnion F G) (h.kept hk) (h'.kept hk) (fun e1 e2 => hm e1 e2)
  obtain ⟨a, n, cp, r, rfl⟩ := h.shape
  obtain ⟨b, m, cq, s, rfl⟩ := h'.shape
  obtain ⟨H, hH⟩ : ∃ H, H = (fun s => or (F s) (G s)) := ⟨_, rfl⟩
  rw [← hH] at hb ⊢
  obtain ⟨w1, hw1⟩ : ∃ w1, w1 = ((W.alloc (.cells #[.slice a n cp, .int .i64 r] 24)).alloc (.cells #[.slice b m cq, .int .i64 s] 24)).alloc (.cells #[.slice none 0 0, .int .i64 0] 24) := ⟨_, rfl⟩
  obtain ⟨hk1, x0, x1, x2, x3, hr1⟩ := box2 hw1
  unfold ZOut at hb ⊢
  obtain ⟨u, hu⟩ : ∃ u, u = errV (if c = 0 then d else c) := ⟨_, rfl⟩
  obtain ⟨K, hK⟩ : ∃ K, K = (if (if c = 0 then d else c) = 0 then H else zno) := ⟨_, rfl⟩
  rw [← hu, ← hK] at hb ⊢
  have HB := Lib.hid (hb w1 hk1)
  have HK1 := Lib.hid hk1
  have HW1 := Lib.hid hw1
  have HR1 := Lib.hid hr1
  clear h h' hm hb hH hw1 hk1 hr1 hu hK
  go_enter Try.func31, Try.ntmps31
  go_upto_region 1 with fail
  rw [← HW1.out]
  go_wp2_with fail
  refine HB.out.mono ?_
  rintro e w5 ⟨⟨v, rfl, hd⟩, hk5⟩
  obtain ⟨s5, rfl, hd5⟩ := hd
  obtain ⟨ra, rc, rfl⟩ := hd5.shape
  obtain ⟨rn, hrn⟩ : ∃ x, x = ((zcan K).1.map zi).length := ⟨_, rfl⟩
  obtain ⟨rx, hrx⟩ : ∃ x : Int, x = (zcan K).2 := ⟨_, rfl⟩
  have HD5 : Hid (ZDia w5 (.agg #[.slice ra rn rc, .int .i64 rx]) K) := Lib.hid (by rw [hrn, hrx]; exact ⟨_, rfl, hd5⟩)
  rw [← hrn, ← hrx]
  have HK5 := Lib.hid (HK1.out.trans hk5)
  have HR5 := Lib.hid (HR1.out.kept hk5)
  obtain ⟨c0, c1, f0, f1⟩ := HR5.out.cells
  clear hk5 hd5 hrn hrx
  go_wp2_with fail
  obtain ⟨z0, z1⟩ := HR5.out.after (.slice ra rn rc) (.int .i64 rx)
  refine bodyPost_ret (v := .tuple #[.agg #[.slice ra rn rc, .int .i64 rx], u]) (by simp [results, Try.results31, go_sem, z0, z1]) rfl ⟨⟨_, rfl, HD5.out.past HR5.out.raw⟩, ?_⟩
  exact res_two HK5.out (by omega) _ _
theorem okMeet (F G : Nat → Bool) : OpOk 66 F G (fun s => and (F s) (G s)) := by
  refine ⟨enters_of Try.func66 (by kernel_rfl) rfl, fun t N a b W h ha hb hl ea eb => ?_⟩
  refine (zmeet_any 24 t N a b W h ha hb (by omega) (by omega)).mono ?_
  rintro e w' ⟨y, N', rfl, ⟨hp, _⟩, h4, h5⟩
  rw [ea, eb] at hp
  exact ⟨y, N', rfl, ⟨_, hp⟩, h4, h5⟩
set_option maxRecDepth 100000 in
set_option maxHeartbeats 4000000 in
theorem zMeet_any (v v' : Value) (c d : Nat) (F G : Nat → Bool) (W : World) (h : ZIn W v c F) (h' : ZIn W v' d G) (hm : c = 0 → d = 0 → (zcan (fun s => and (F s) (G s))).1.length ≤ 4096) :
    Calls Try.prog 40 #[v, v'] W fun e w' => ZOut w' e (if c = 0 then d else c) (fun s => and (F s) (G s)) ∧ Kept W w' := by
  have hb : ∀ w1, Kept W w1 → Calls Try.prog 63 #[v, v', .func (.func 66) #[] #[]] w1 _ := fun w1 hk => zboth_any _ v v' c d F G (fun s => and (F s) (G s)) w1 (fun e1 e2 => okMeet F G) (h.kept hk) (h'.kept hk) (fun e1 e2 => hm e1 e2)
  obtain ⟨a, n, cp, r, rfl⟩ := h.shape
  obtain ⟨b, m, cq, s, rfl⟩ := h'.shape
  obtain ⟨H, hH⟩ : ∃ H, H = (fun s => and (F s) (G s)) := ⟨_, rfl⟩
  rw [← hH] at hb ⊢
  obtain ⟨w1, hw1⟩ : ∃ w1, w1 = ((W.alloc (.cells #[.slice a n cp, .int .i64 r] 24)).alloc (.cells #[.slice b m cq, .int .i64 s] 24)).alloc (.cells #[.slice none 0 0, .int .i64 0] 24) := ⟨_, rfl⟩
  obtain ⟨hk1, x0, x1, x2, x3, hr1⟩ := box2 hw1
  unfold ZOut at hb ⊢
  obtain ⟨u, hu⟩ : ∃ u, u = errV (if c = 0 then d else c) := ⟨_, rfl⟩
  obtain ⟨K, hK⟩ : ∃ K, K = (if (if c = 0 then d else c) = 0 then H else zno) := ⟨_, rfl⟩
  rw [← hu, ← hK] at hb ⊢
  have HB := Lib.hid (hb w1 hk1)
  have HK1 := Lib.hid hk1
  have HW1 := Lib.hid hw1
  have HR1 := Lib.hid hr1
  clear h h' hm hb hH hw1 hk1 hr1 hu hK
  go_enter Try.func40, Try.ntmps40
  go_upto_region 1 with fail
  rw [← HW1.out]
  go_wp2_with fail
  refine HB.out.mono ?_
  rintro e w5 ⟨⟨v, rfl, hd⟩, hk5⟩
  obtain ⟨s5, rfl, hd5⟩ := hd
  obtain ⟨ra, rc, rfl⟩ := hd5.shape
  obtain ⟨rn, hrn⟩ : ∃ x, x = ((zcan K).1.map zi).length := ⟨_, rfl⟩
  obtain ⟨rx, hrx⟩ : ∃ x : Int, x = (zcan K).2 := ⟨_, rfl⟩
  have HD5 : Hid (ZDia w5 (.agg #[.slice ra rn rc, .int .i64 rx]) K) := Lib.hid (by rw [hrn, hrx]; exact ⟨_, rfl, hd5⟩)
  rw [← hrn, ← hrx]
  have HK5 := Lib.hid (HK1.out.trans hk5)
  have HR5 := Lib.hid (HR1.out.kept hk5)
  obtain ⟨c0, c1, f0, f1⟩ := HR5.out.cells
  clear hk5 hd5 hrn hrx
  go_wp2_with fail
  obtain ⟨z0, z1⟩ := HR5.out.after (.slice ra rn rc) (.int .i64 rx)
  refine bodyPost_ret (v := .tuple #[.agg #[.slice ra rn rc, .int .i64 rx], u]) (by simp [results, Try.results40, go_sem, z0, z1]) rfl ⟨⟨_, rfl, HD5.out.past HR5.out.raw⟩, ?_⟩
  exact res_two HK5.out (by omega) _ _
theorem okMinus (F G : Nat → Bool) : OpOk 73 F G (fun s => and (F s) (not (G s))) := by
  refine ⟨enters_of Try.func73 (by kernel_rfl) rfl, fun t N a b W h ha hb hl ea eb => ?_⟩
  refine (zminus_any 24 t N a b W h ha hb (by omega) (by omega)).mono ?_
  rintro e w' ⟨y, N', rfl, ⟨hp, _⟩, h4, h5⟩
  rw [ea, eb] at hp
  exact ⟨y, N', rfl, ⟨_, hp⟩, h4, h5⟩
set_option maxRecDepth 100000 in
set_option maxHeartbeats 4000000 in
theorem zMinus_any (v v' : Value) (c d : Nat) (F G : Nat → Bool) (W : World) (h : ZIn W v c F) (h' : ZIn W v' d G) (hm : c = 0 → d = 0 → (zcan (fun s => and (F s) (not (G s)))).1.length ≤ 4096) :
    Calls Try.prog 41 #[v, v'] W fun e w' => ZOut w' e (if c = 0 then d else c) (fun s => and (F s) (not (G s))) ∧ Kept W w' := by
  have hb : ∀ w1, Kept W w1 → Calls Try.prog 63 #[v, v', .func (.func 73) #[] #[]] w1 _ := fun w1 hk => zboth_any _ v v' c d F G (fun s => and (F s) (not (G s))) w1 (fun e1 e2 => okMinus F G) (h.kept hk) (h'.kept hk) (fun e1 e2 => hm e1 e2)
  obtain ⟨a, n, cp, r, rfl⟩ := h.shape
  obtain ⟨b, m, cq, s, rfl⟩ := h'.shape
  obtain ⟨H, hH⟩ : ∃ H, H = (fun s => and (F s) (not (G s))) := ⟨_, rfl⟩
  rw [← hH] at hb ⊢
  obtain ⟨w1, hw1⟩ : ∃ w1, w1 = ((W.alloc (.cells #[.slice a n cp, .int .i64 r] 24)).alloc (.cells #[.slice b m cq, .int .i64 s] 24)).alloc (.cells #[.slice none 0 0, .int .i64 0] 24) := ⟨_, rfl⟩
  obtain ⟨hk1, x0, x1, x2, x3, hr1⟩ := box2 hw1
  unfold ZOut at hb ⊢
  obtain ⟨u, hu⟩ : ∃ u, u = errV (if c = 0 then d else c) := ⟨_, rfl⟩
  obtain ⟨K, hK⟩ : ∃ K, K = (if (if c = 0 then d else c) = 0 then H else zno) := ⟨_, rfl⟩
  rw [← hu, ← hK] at hb ⊢
  have HB := Lib.hid (hb w1 hk1)
  have HK1 := Lib.hid hk1
  have HW1 := Lib.hid hw1
  have HR1 := Lib.hid hr1
  clear h h' hm hb hH hw1 hk1 hr1 hu hK
  go_enter Try.func41, Try.ntmps41
  go_upto_region 1 with fail
  rw [← HW1.out]
  go_wp2_with fail
  refine HB.out.mono ?_
  rintro e w5 ⟨⟨v, rfl, hd⟩, hk5⟩
  obtain ⟨s5, rfl, hd5⟩ := hd
  obtain ⟨ra, rc, rfl⟩ := hd5.shape
  obtain ⟨rn, hrn⟩ : ∃ x, x = ((zcan K).1.map zi).length := ⟨_, rfl⟩
  obtain ⟨rx, hrx⟩ : ∃ x : Int, x = (zcan K).2 := ⟨_, rfl⟩
  have HD5 : Hid (ZDia w5 (.agg #[.slice ra rn rc, .int .i64 rx]) K) := Lib.hid (by rw [hrn, hrx]; exact ⟨_, rfl, hd5⟩)
  rw [← hrn, ← hrx]
  have HK5 := Lib.hid (HK1.out.trans hk5)
  have HR5 := Lib.hid (HR1.out.kept hk5)
  obtain ⟨c0, c1, f0, f1⟩ := HR5.out.cells
  clear hk5 hd5 hrn hrx
  go_wp2_with fail
  obtain ⟨z0, z1⟩ := HR5.out.after (.slice ra rn rc) (.int .i64 rx)
  refine bodyPost_ret (v := .tuple #[.agg #[.slice ra rn rc, .int .i64 rx], u]) (by simp [results, Try.results41, go_sem, z0, z1]) rfl ⟨⟨_, rfl, HD5.out.past HR5.out.raw⟩, ?_⟩
  exact res_two HK5.out (by omega) _ _
theorem okWithout (F G : Nat → Bool) : OpOk 64 F G (zwithout F G) := by
  refine ⟨enters_of Try.func64 (by kernel_rfl) rfl, fun t N a b W h ha hb hl ea eb => ?_⟩
  refine (zwithout_any 24 t N a b W h ha hb (by omega) (by omega)).mono ?_
  rintro e w' ⟨y, N', rfl, ⟨hp, _⟩, h4, h5⟩
  rw [ea, eb] at hp
  exact ⟨y, N', rfl, ⟨_, hp⟩, h4, h5⟩
set_option maxRecDepth 100000 in
set_option maxHeartbeats 4000000 in
theorem zWithout_any (v v' : Value) (c d : Nat) (F G : Nat → Bool) (W : World) (h : ZIn W v c F) (h' : ZIn W v' d G) (hm : c = 0 → d = 0 → (zcan (zwithout F G)).1.length ≤ 4096) :
    Calls Try.prog 22 #[v, v'] W fun e w' => ZOut w' e (if c = 0 then d else c) (zwithout F G) ∧ Kept W w' := by
  have hb : ∀ w1, Kept W w1 → Calls Try.prog 63 #[v, v', .func (.func 64) #[] #[]] w1 _ := fun w1 hk => zboth_any _ v v' c d F G (zwithout F G) w1 (fun e1 e2 => okWithout F G) (h.kept hk) (h'.kept hk) (fun e1 e2 => hm e1 e2)
  obtain ⟨a, n, cp, r, rfl⟩ := h.shape
  obtain ⟨b, m, cq, s, rfl⟩ := h'.shape
  obtain ⟨H, hH⟩ : ∃ H, H = (zwithout F G) := ⟨_, rfl⟩
  rw [← hH] at hb ⊢
  obtain ⟨w1, hw1⟩ : ∃ w1, w1 = ((W.alloc (.cells #[.slice a n cp, .int .i64 r] 24)).alloc (.cells #[.slice b m cq, .int .i64 s] 24)).alloc (.cells #[.slice none 0 0, .int .i64 0] 24) := ⟨_, rfl⟩
  obtain ⟨hk1, x0, x1, x2, x3, hr1⟩ := box2 hw1
  unfold ZOut at hb ⊢
  obtain ⟨u, hu⟩ : ∃ u, u = errV (if c = 0 then d else c) := ⟨_, rfl⟩
  obtain ⟨K, hK⟩ : ∃ K, K = (if (if c = 0 then d else c) = 0 then H else zno) := ⟨_, rfl⟩
  rw [← hu, ← hK] at hb ⊢
  have HB := Lib.hid (hb w1 hk1)
  have HK1 := Lib.hid hk1
  have HW1 := Lib.hid hw1
  have HR1 := Lib.hid hr1
  clear h h' hm hb hH hw1 hk1 hr1 hu hK
  go_enter Try.func22, Try.ntmps22
  go_upto_region 1 with fail
  rw [← HW1.out]
  go_wp2_with fail
  refine HB.out.mono ?_
  rintro e w5 ⟨⟨v, rfl, hd⟩, hk5⟩
  obtain ⟨s5, rfl, hd5⟩ := hd
  obtain ⟨ra, rc, rfl⟩ := hd5.shape
  obtain ⟨rn, hrn⟩ : ∃ x, x = ((zcan K).1.map zi).length := ⟨_, rfl⟩
  obtain ⟨rx, hrx⟩ : ∃ x : Int, x = (zcan K).2 := ⟨_, rfl⟩
  have HD5 : Hid (ZDia w5 (.agg #[.slice ra rn rc, .int .i64 rx]) K) := Lib.hid (by rw [hrn, hrx]; exact ⟨_, rfl, hd5⟩)
  rw [← hrn, ← hrx]
  have HK5 := Lib.hid (HK1.out.trans hk5)
  have HR5 := Lib.hid (HR1.out.kept hk5)
  obtain ⟨c0, c1, f0, f1⟩ := HR5.out.cells
  clear hk5 hd5 hrn hrx
  go_wp2_with fail
  obtain ⟨z0, z1⟩ := HR5.out.after (.slice ra rn rc) (.int .i64 rx)
  refine bodyPost_ret (v := .tuple #[.agg #[.slice ra rn rc, .int .i64 rx], u]) (by simp [results, Try.results22, go_sem, z0, z1]) rfl ⟨⟨_, rfl, HD5.out.past HR5.out.raw⟩, ?_⟩
  exact res_two HK5.out (by omega) _ _
theorem okJoin (F G : Nat → Bool) (hF : ZFrom 0 F) (hG : ZFrom 0 G) (hc : zcard F * zcard G ≤ 2500) : OpOk 68 F G (zjoin F G) := by
  refine ⟨enters_of Try.func68 (by kernel_rfl) rfl, fun t N a b W h ha hb hl ea eb => ?_⟩
  have h1 := zct_card h.good ha hF (fun s => by rw [ea])
  have h2 := zct_card h.good hb hG (fun s => by rw [eb])
  have hz : N.length + zjc 24 (zct N a * zct N b) ≤ 4398046511104 := by
    rw [h1, h2]
    unfold zjc
    have : 24 * (zcard F * zcard G) * 67108864 ≤ 24 * 2500 * 67108864 := Nat.mul_le_mul_right _ (Nat.mul_le_mul_left _ hc)
    omega
  refine (zjoin_any 24 t N a b W h ha hb (by omega) hz).mono ?_
  rintro e w' ⟨y, N', rfl, ⟨hp, _⟩, h4, h5⟩
  rw [ea, eb] at hp
  exact ⟨y, N', rfl, ⟨_, hp⟩, h4, h5⟩
set_option maxRecDepth 100000 in
set_option maxHeartbeats 4000000 in
theorem zJoin_any (v v' : Value) (c d : Nat) (F G : Nat → Bool) (W : World) (h : ZIn W v c F) (h' : ZIn W v' d G) (hm : c = 0 → d = 0 → zcard F * zcard G ≤ 2500 ∧ (zcan (zjoin F G)).1.length ≤ 4096) :
    Calls Try.prog 30 #[v, v'] W fun e w' => ZOut w' e (if c = 0 then d else c) (zjoin F G) ∧ Kept W w' := by
  have hb : ∀ w1, Kept W w1 → Calls Try.prog 63 #[v, v', .func (.func 68) #[] #[]] w1 _ := fun w1 hk => zboth_any _ v v' c d F G (zjoin F G) w1 (fun e1 e2 => okJoin F G (h.from e1) (h'.from e2) (hm e1 e2).1) (h.kept hk) (h'.kept hk) (fun e1 e2 => (hm e1 e2).2)
  obtain ⟨a, n, cp, r, rfl⟩ := h.shape
  obtain ⟨b, m, cq, s, rfl⟩ := h'.shape
  obtain ⟨H, hH⟩ : ∃ H, H = (zjoin F G) := ⟨_, rfl⟩
  rw [← hH] at hb ⊢
  obtain ⟨w1, hw1⟩ : ∃ w1, w1 = ((W.alloc (.cells #[.slice a n cp, .int .i64 r] 24)).alloc (.cells #[.slice b m cq, .int .i64 s] 24)).alloc (.cells #[.slice none 0 0, .int .i64 0] 24) := ⟨_, rfl⟩
  obtain ⟨hk1, x0, x1, x2, x3, hr1⟩ := box2 hw1
  unfold ZOut at hb ⊢
  obtain ⟨u, hu⟩ : ∃ u, u = errV (if c = 0 then d else c) := ⟨_, rfl⟩
  obtain ⟨K, hK⟩ : ∃ K, K = (if (if c = 0 then d else c) = 0 then H else zno) := ⟨_, rfl⟩
  rw [← hu, ← hK] at hb ⊢
  have HB := Lib.hid (hb w1 hk1)
  have HK1 := Lib.hid hk1
  have HW1 := Lib.hid hw1
  have HR1 := Lib.hid hr1
  clear h h' hm hb hH hw1 hk1 hr1 hu hK
  go_enter Try.func30, Try.ntmps30
  go_upto_region 1 with fail
  rw [← HW1.out]
  go_wp2_with fail
  refine HB.out.mono ?_
  rintro e w5 ⟨⟨v, rfl, hd⟩, hk5⟩
  obtain ⟨s5, rfl, hd5⟩ := hd
  obtain ⟨ra, rc, rfl⟩ := hd5.shape
  obtain ⟨rn, hrn⟩ : ∃ x, x = ((zcan K).1.map zi).length := ⟨_, rfl⟩
  obtain ⟨rx, hrx⟩ : ∃ x : Int, x = (zcan K).2 := ⟨_, rfl⟩
  have HD5 : Hid (ZDia w5 (.agg #[.slice ra rn rc, .int .i64 rx]) K) := Lib.hid (by rw [hrn, hrx]; exact ⟨_, rfl, hd5⟩)
  rw [← hrn, ← hrx]
  have HK5 := Lib.hid (HK1.out.trans hk5)
  have HR5 := Lib.hid (HR1.out.kept hk5)
  obtain ⟨c0, c1, f0, f1⟩ := HR5.out.cells
  clear hk5 hd5 hrn hrx
  go_wp2_with fail
  obtain ⟨z0, z1⟩ := HR5.out.after (.slice ra rn rc) (.int .i64 rx)
  refine bodyPost_ret (v := .tuple #[.agg #[.slice ra rn rc, .int .i64 rx], u]) (by simp [results, Try.results30, go_sem, z0, z1]) rfl ⟨⟨_, rfl, HD5.out.past HR5.out.raw⟩, ?_⟩
  exact res_two HK5.out (by omega) _ _
end Go.Proofs.Ytiplibgnfcdlkaa
