import Derived.Test.YtiplibgnfcdlkaaQ11
/-
  Walk: Minimal of decision.Sets.
-/
namespace Go.Proofs.Ytiplibgnfcdlkaa
open Go.RowKit

theorem boxes2 {W W3 : World} {v0 v1 : Value} {e0 e1 : TypeId} (h : W3 = (W.alloc (.cells #[v0] e0)).alloc (.cells #[v1] e1)) :
    W3.cell? ⟨W.heap.size, 0, none⟩ = some v0 ∧ W3.cell? ⟨W.heap.size + 1, 0, none⟩ = some v1 := by
  subst h
  have h0 := (RowAt.made W #[v0] e0).cell (i := 0) (by simp)
  have h1 := (RowAt.made (W.alloc (.cells #[v0] e0)) #[v1] e1).cell (i := 0) (by simp)
  have k1 := (Kept.refl (W.alloc (.cells #[v0] e0))).alloc (.cells #[v1] e1)
  have g0 := k1.cell h0
  simp only [World.size_alloc, List.getElem_cons_zero] at g0 h1
  exact ⟨g0, h1⟩
theorem zmem_put1 {N : List ZNode} {op a b r c v : Nat} {F : Nat → Bool} (hg : ZGood N) (hop : op ≠ 99) (hv : v ≤ 24) (hF : ∀ s, zsem N op a b s = F s) (hlow : ∀ s, F s = true → ∀ j, s.testBit j = true → v ≤ j) (hc : 1 ≤ c) (h : ZMem N (op, a, b) r) :
    ZPut N v F N r ∧ N.length + 1 ≤ N.length + c := by
  obtain ⟨_, h2⟩ := h
  rw [if_neg hop] at h2
  exact ⟨ZPut.of hg h2.1 (zev_ge hg h2.1 hv fun s hs => hlow s (by rw [← hF]; exact (h2.2 s).symm.trans hs)) fun s => (h2.2 s).trans (hF s), by omega⟩
/-- The halves of a node. -/
theorem znode_half {N : List ZNode} (hg : ZGood N) {i : Nat} (h : i < N.length) : ZHalf N[i].v (zm N (i + 2)) (zm N N[i].lo) (zm N N[i].hi) := by
  have hl := hg.lo i h
  have hh := hg.hi i h
  exact ZKids.half hg (k := (N[i].lo, N[i].hi)) ⟨⟨by show N[i].lo ≤ _; omega, hl.2⟩, ⟨by show N[i].hi ≤ _; omega, hh.2.2⟩, fun s => zm_node hg h s⟩
def ZMinK (k : Nat) : Prop := ∀ (t : ZT) (N : List ZNode) (a : Nat) (W : World), TblAt W t N → a ≤ 1 + N.length → 24 - zev N a ≤ k → N.length + 3 ^ k ≤ 4398046511104 →
  Calls Try.prog 54 #[t.val, .int .i64 a] W (GenPost t W fun N' r => ZPut N (zev N a) (zmin (zm N a)) N' r ∧ N'.length + 1 ≤ N.length + 3 ^ k)
set_option maxRecDepth 100000 in
set_option maxHeartbeats 8000000 in
theorem zminimal1_any (k : Nat) (ih : ZMinK k) (t : ZT) (N : List ZNode) (a x0 x1 : Nat) (W : World) (h : TblAt W t N) (ha : a ≤ 1 + N.length) (ha2 : 2 ≤ a) (hk : 24 - zev N a ≤ k + 1) (hl : N.length + 3 ^ (k + 1) ≤ 4398046511104)
    (b0 : Box t W x0 0 t.val) (b1 : Box t W x1 0 (.int .i64 a)) :
    Calls Try.prog 82 #[.pointer (some ⟨x0, 0, none⟩), .pointer (some ⟨x1, 0, none⟩)] W (GenPost t W fun N' r => ZPut N (zev N a) (zmin (zm N a)) N' r ∧ N'.length + 1 ≤ N.length + 3 ^ (k + 1)) := by
  have hg := h.good
  have hlen := h.len
  obtain ⟨i, rfl⟩ : ∃ i, a = i + 2 := ⟨a - 2, by omega⟩
  have hi : i < N.length := by omega
  have hhalf := zmin_half (znode_half hg hi)
  rw [zev_node hi] at hk ⊢
  have hlo := hg.lo i hi
  have hhi := hg.hi i hi
  have hv := hg.ev i hi
  obtain ⟨ad, cp, c0, c1, c2, ⟨hc, hcn⟩, hx⟩ := h.cells
  obtain ⟨bb, oo, rfl, y0, y1, y2⟩ := hx i hi
  obtain ⟨nn, hn⟩ : ∃ n, n = N.length := ⟨_, rfl⟩
  have hi' : i < nn := by omega
  rw [← hn] at c0 hc hlen
  obtain ⟨v, hvv⟩ : ∃ v, v = N[i].v := ⟨_, rfl⟩
  obtain ⟨l0, hl0⟩ : ∃ l, l = N[i].lo := ⟨_, rfl⟩
  obtain ⟨l1, hl1⟩ : ∃ l, l = N[i].hi := ⟨_, rfl⟩
  rw [← hvv, ← hl0, ← hl1] at hhalf
  rw [← hvv] at hk hlo hhi hv y0 ⊢
  rw [← hl0] at hlo y1
  rw [← hl1] at hhi y2
  have hpk : 3 ^ (k + 1) = 3 * 3 ^ k := by rw [Nat.pow_succ]; omega
  have hpp : 1 ≤ 3 ^ k := Nat.pow_pos (by decide)
  have hw24 : 3 ^ k ≤ 3 ^ (k + 1) := by omega
  obtain ⟨R, hR⟩ : ∃ R : List ZNode → Nat → Prop, R = fun N' r => ZPut N v (zmin (zm N (i + 2))) N' r ∧ N'.length + 1 ≤ N.length + 3 ^ (k + 1) := ⟨_, rfl⟩
  obtain ⟨Q5, hQ5⟩ : ∃ Q : List ZNode → Nat → Prop, Q = fun N' r => ZPut N (v + 1) (zmin (zm N l0)) N' r ∧ N'.length + 1 ≤ N.length + 3 ^ k := ⟨_, rfl⟩
  obtain ⟨Q6, hQ6⟩ : ∃ Q : Nat → List ZNode → Nat → Prop, Q = fun r5 N' r => ZPut N (v + 1) (zmin (zm N l0)) N' r5 ∧ ZPut N (v + 1) (zmin (zm N l1)) N' r ∧ N'.length + 2 ≤ N.length + 2 * 3 ^ k := ⟨_, rfl⟩
  obtain ⟨Q7, hQ7⟩ : ∃ Q : Nat → List ZNode → Nat → Prop, Q = fun r5 N' r => ZPut N (v + 1) (zmin (zm N l0)) N' r5 ∧ ZPut N (v + 1) (zwithout (zmin (zm N l1)) (zmin (zm N l0))) N' r ∧ N'.length + 3 ≤ N.length + 3 * 3 ^ k := ⟨_, rfl⟩
  have HU5 : Hid (∀ W', TblAt W' t N → Calls Try.prog 54 #[t.val, .int .i64 l0] W' (GenPost t W' Q5)) := Lib.hid fun W' hT => by
    refine (ih t N l0 W' hT (by omega) (by omega) (by omega)).mono ?_
    rintro e w' ⟨r, N', rfl, ⟨h1, h2⟩, h4⟩
    exact ⟨r, N', rfl, by rw [hQ5]; exact ⟨h1.weak (by omega), h2⟩, h4⟩
  have HU6 : Hid (∀ W' N5 r5, TblAt W' t N5 → Q5 N5 r5 → Calls Try.prog 54 #[t.val, .int .i64 l1] W' (GenPost t W' (Q6 r5))) := Lib.hid fun W' N5 r5 hT hq => by
    rw [hQ5] at hq
    obtain ⟨h5, hl5⟩ := hq
    have e1 := h5.le
    have e2 := h5.zev (a := l1) (by omega)
    refine (ih t N5 l1 W' hT (by omega) (by omega) (by omega)).mono ?_
    rintro e w' ⟨r, N', rfl, ⟨h1, h2⟩, h4⟩
    rw [show zm N5 l1 = zm N l1 from funext (h5.zm hg (by omega))] at h1
    exact ⟨r, N', rfl, by rw [hQ6]; exact ⟨h5.keep h1.ext h1.good, (h1.from h5.ext).weak (by omega), by omega⟩, h4⟩
  have HU7 : Hid (∀ W' N6 r5 r6, TblAt W' t N6 → Q6 r5 N6 r6 → Calls Try.prog 64 #[t.val, .int .i64 (r6 : Nat), .int .i64 (r5 : Nat)] W' (GenPost t W' (Q7 r5))) := Lib.hid fun W' N6 r5 r6 hT hq => by
    rw [hQ6] at hq
    obtain ⟨h5, h6, hl6⟩ := hq
    have z5 := h5.ev
    have z6 := h6.ev
    refine (zwithout_any k t N6 r6 r5 W' hT h6.ref h5.ref (by omega) (by omega)).mono ?_
    rintro e w' ⟨r, N', rfl, ⟨h1, h2⟩, h4⟩
    rw [show zm N6 r6 = zmin (zm N l1) from funext h6.mem, show zm N6 r5 = zmin (zm N l0) from funext h5.mem] at h1
    exact ⟨r, N', rfl, by rw [hQ7]; exact ⟨h5.keep h1.ext h1.good, (h1.from h6.ext).weak (by omega), by omega⟩, h4⟩
  have HMK : Hid (∀ W' N7 r5 r7, TblAt W' t N7 → Q7 r5 N7 r7 → Calls Try.prog 78 #[t.val, .int .i64 v, .int .i64 (r5 : Nat), .int .i64 (r7 : Nat)] W' (GenPost t W' R)) := Lib.hid fun W' N7 r5 r7 hT hq => by
    rw [hQ7] at hq
    obtain ⟨h5, h7, hl7⟩ := hq
    have hp := zhalf_both hv hhalf h5 h7
    refine (zmake_any t N7 ⟨v, r5, r7⟩ W' hT hp.good (by omega)).mono ?_
    rintro e w' ⟨rfl, h3, h4⟩
    exact ⟨_, _, rfl, by rw [hR]; exact ⟨hp, by have := zput_len N7 ⟨v, r5, r7⟩; omega⟩, h3, h4⟩
  rw [← hR]
  have HT := Lib.hid h
  have HB0 := Lib.hid b0
  have d0 := b0.1
  have d1 := b1.1
  have ei : ((i + 2 : Nat) : Int) - 2 = (i : Int) := by omega
  have ew : IntKind.i64.wrap (i : Int) = (i : Int) := by rw [IntKind.wrap_i64]; omega
  have kA : Kept W W.drew := (Kept.refl W).drew
  have kB : Kept W (W.alloc (.cells #[.int .i64 0, .int .i64 0, .int .i64 0] 63)).drew := ((Kept.refl W).alloc _).drew
  have A0 := kA.cell d0
  have A1 := kA.cell d1
  have A2 := kA.cell c0
  have A3 := kA.cell y0
  have A4 := kA.cell y1
  have A5 := kA.cell y2
  have B0 := kB.cell d0
  have B1 := kB.cell d1
  have B2 := kB.cell c0
  have B3 := kB.cell y0
  have B4 := kB.cell y1
  have B5 := kB.cell y2
  have HD0 := Lib.hid d0
  clear hR hQ5 hQ6 hQ7 hpk hpp hw24 hvv hl0 hl1 hhalf hlo hhi hk hl ha ha2 hg h ih hx hn b0 b1 c1 c2 hi kA kB c0 d0 d1 y0 y1 y2
  unfold ZT.val at *
  go_enter Try.func82, Try.ntmps82
  go_upto_region 1 with fail
  go_region
  obtain ⟨w2, hw2⟩ : ∃ w2, w2 = (W.alloc (.cells #[.int .i64 v, .int .i64 l0, .int .i64 l1] 63)).drew := ⟨_, rfl⟩
  have hk2 : Kept W w2 := by rw [hw2]; exact ((Kept.refl _).alloc _).drew
  have hx2 : RowAt w2 W.heap.size 63 [.int .i64 v, .int .i64 l0, .int .i64 l1] := by rw [hw2]; exact (RowAt.made W #[.int .i64 v, .int .i64 l0, .int .i64 l1] 63).kept (Kept.refl _).drew
  have m0 := hx2.cell (i := 0) (by simp)
  have m1 := hx2.cell (i := 1) (by simp)
  have m2 := hx2.cell (i := 2) (by simp)
  simp only [List.getElem_cons_succ, List.getElem_cons_zero] at m0 m1 m2
  have g0 := hk2.cell HD0.out
  have HT2 := Lib.hid (HT.out.kept hk2)
  have HF2 := Lib.hid (HT.out.frm hk2)
  have HBX : Hid (Box t w2 x0 0 (.pointer (some ⟨t.tb, 0, none⟩)) ∧ Box t w2 W.heap.size 0 (.int .i64 v) ∧ Box t w2 W.heap.size 2 (.int .i64 l1)) := Lib.hid ⟨HB0.out.frm HF2.out, HT.out.box hk2 (Nat.le_refl _) m0, HT.out.box hk2 (Nat.le_refl _) m2⟩
  rw [← hw2]
  clear hw2 hk2 hx2 m0 m2 A0 A1 A2 A3 A4 A5 B0 B1 B2 B3 B4 B5
  go_wp2_with fail
  refine (HU5.out _ HT2.out).mono ?_
  rintro e w5 ⟨r5, N5, rfl, hp, ht, hf⟩
  have HP5 := Lib.hid hp
  have HT5 := Lib.hid ht
  have HF5 := Lib.hid hf
  have HB5 : Hid (Box t w5 x0 0 (.pointer (some ⟨t.tb, 0, none⟩)) ∧ Box t w5 W.heap.size 0 (.int .i64 v) ∧ Box t w5 W.heap.size 2 (.int .i64 l1)) := Lib.hid ⟨HBX.out.1.frm hf, HBX.out.2.1.frm hf, HBX.out.2.2.frm hf⟩
  clear hp ht hf m1 g0
  go_upto_region 3 with fail
  have HC0 : Hid ((fun W' : World => W'.cell? ⟨x0, 0, none⟩ = some (.pointer (some ⟨t.tb, 0, none⟩)) ∧ W'.cell? ⟨W.heap.size, 0, none⟩ = some (.int .i64 v) ∧ W'.cell? ⟨W.heap.size, 2, none⟩ = some (.int .i64 l1)) w5.drew) := Lib.hid ⟨(Kept.refl w5).drew.cell HB5.out.1.1, (Kept.refl w5).drew.cell HB5.out.2.1.1, (Kept.refl w5).drew.cell HB5.out.2.2.1⟩
  go_region_held3 (fun W' => W'.cell? ⟨x0, 0, none⟩ = some (.pointer (some ⟨t.tb, 0, none⟩)) ∧ W'.cell? ⟨W.heap.size, 0, none⟩ = some (.int .i64 v) ∧ W'.cell? ⟨W.heap.size, 2, none⟩ = some (.int .i64 l1))
    (with_reducible first | exact HC8.out | exact HC7.out | exact HC6.out | exact HC0.out)
    (first
    | (go_at_call 54; (with_reducible refine (HU6.out _ _ _ (HT5.out.kept (Kept.refl w5).drew) HP5.out).mono ?_); rintro e w6 ⟨r6, N6, rfl, hp, ht, hf⟩; have HP6 := Lib.hid hp; have HT6 := Lib.hid ht; have HF6 := Lib.hid ((HT5.out.frm (Kept.refl w5).drew).trans hf); have HC6 : Hid ((fun W' : World => W'.cell? ⟨x0, 0, none⟩ = some (.pointer (some ⟨t.tb, 0, none⟩)) ∧ W'.cell? ⟨W.heap.size, 0, none⟩ = some (.int .i64 v) ∧ W'.cell? ⟨W.heap.size, 2, none⟩ = some (.int .i64 l1)) w6) := Lib.hid ⟨(HB5.out.1.frm HF6.out).1, (HB5.out.2.1.frm HF6.out).1, (HB5.out.2.2.frm HF6.out).1⟩; clear hp ht hf)
    | (go_at_call 64; (with_reducible refine (HU7.out _ _ _ _ HT6.out HP6.out).mono ?_); rintro e w7 ⟨r7, N7, rfl, hp, ht, hf⟩; have HP7 := Lib.hid hp; have HT7 := Lib.hid ht; have HF7 := Lib.hid (HF6.out.trans hf); have HC7 : Hid ((fun W' : World => W'.cell? ⟨x0, 0, none⟩ = some (.pointer (some ⟨t.tb, 0, none⟩)) ∧ W'.cell? ⟨W.heap.size, 0, none⟩ = some (.int .i64 v) ∧ W'.cell? ⟨W.heap.size, 2, none⟩ = some (.int .i64 l1)) w7) := Lib.hid ⟨(HB5.out.1.frm HF7.out).1, (HB5.out.2.1.frm HF7.out).1, (HB5.out.2.2.frm HF7.out).1⟩; clear hp ht hf)
    | (go_at_call 78; (with_reducible refine (HMK.out _ _ _ _ HT7.out HP7.out).mono ?_); rintro e w8 ⟨r8, N8, rfl, hp, ht, hf⟩; have HP8 := Lib.hid hp; have HT8 := Lib.hid ht; have HF8 := Lib.hid (HF7.out.trans hf); have HC8 : Hid ((fun W' : World => W'.cell? ⟨x0, 0, none⟩ = some (.pointer (some ⟨t.tb, 0, none⟩)) ∧ W'.cell? ⟨W.heap.size, 0, none⟩ = some (.int .i64 v) ∧ W'.cell? ⟨W.heap.size, 2, none⟩ = some (.int .i64 l1)) w8) := Lib.hid ⟨(HB5.out.1.frm HF8.out).1, (HB5.out.2.1.frm HF8.out).1, (HB5.out.2.2.frm HF8.out).1⟩; clear hp ht hf)
    | fail)
  all_goals
    go_wp2
    go_ret
    refine ⟨r8, N8, ?_, HP8.out, HT8.out, HF2.out.trans (HF5.out.trans HF8.out)⟩
    rfl
set_option maxRecDepth 100000 in
set_option maxHeartbeats 4000000 in
theorem zminimal_step (k : Nat) (ih : ∀ k2, k2 + 1 = k → ZMinK k2) : ZMinK k := by
  intro t N a W h ha hk hl
  have hg := h.good
  have HT := Lib.hid h
  have hpp : 1 ≤ 3 ^ k := Nat.pow_pos (by decide)
  obtain ⟨R, hR⟩ : ∃ R : List ZNode → Nat → Prop, R = fun N' r => ZPut N (zev N a) (zmin (zm N a)) N' r ∧ N'.length + 1 ≤ N.length + 3 ^ k := ⟨_, rfl⟩
  rw [← hR]
  obtain ⟨W3, hW3⟩ : ∃ W3, W3 = (W.alloc (.cells #[.pointer (some ⟨t.tb, 0, none⟩)] 64)).alloc (.cells #[.int .i64 a] 3) := ⟨_, rfl⟩
  have HK3 : Hid (Kept W W3) := Lib.hid (by rw [hW3]; exact ((Kept.refl _).alloc _).alloc _)
  have HC3 : Hid (W3.cell? ⟨W.heap.size, 0, none⟩ = some t.val ∧ W3.cell? ⟨W.heap.size + 1, 0, none⟩ = some (.int .i64 a)) := Lib.hid (boxes2 hW3)
  have HW3 := Lib.hid hW3
  clear hW3
  by_cases c1 : a < 2
  · have c1i : (a : Int) < 2 := by omega
    have HB : Hid (R N a) := Lib.hid (by
      rw [hR]
      refine ⟨ZPut.of hg ha (Nat.le_refl _) fun s => ?_, by omega⟩
      rw [Bool.eq_iff_iff, zmin_iff]
      refine ⟨fun h => ⟨h, fun u hu _ => ?_⟩, fun h => h.1⟩
      rcases (show a = 0 ∨ a = 1 by omega) with rfl | rfl
      · rw [zm_zero] at h; cases h
      · rw [zm_one, beq_iff_eq] at h hu
        rw [h, hu])
    clear hR ih hg h hk hl ha c1 hpp
    unfold ZT.val at *
    go_enter Try.func54, Try.ntmps54
    go_wp2_with fail
    go_ret
    refine ⟨a, N, ?_, HB.out, HT.out.kept (((Kept.refl _).alloc _).alloc _), HT.out.frm (((Kept.refl _).alloc _).alloc _)⟩
    rfl
  have c1i : ¬ (a : Int) < 2 := by omega
  have hv : zev N a < 24 := by
    rcases Nat.lt_or_ge (zev N a) 24 with h1 | h1
    · exact h1
    · exact absurd (zref_small hg ha h1) c1
  obtain ⟨k2, rfl⟩ : ∃ k2, k = k2 + 1 := ⟨k - 1, by omega⟩
  have hih := ih k2 rfl
  have hF : ∀ s, zsem N 110 a 0 s = zmin (zm N a) s := fun s => by unfold zsem; simp
  have HREM : Hid (∀ (x0 x1 : Nat) (W3 : World), Kept W W3 → W.heap.size ≤ x0 → W.heap.size ≤ x1 → W3.cell? ⟨x0, 0, none⟩ = some t.val → W3.cell? ⟨x1, 0, none⟩ = some (.int .i64 a) →
      Calls Try.prog 74 #[t.val, .int .u8 110, .int .i64 a, .int .i64 0, .func (.func 82) #[] #[.pointer (some ⟨x0, 0, none⟩), .pointer (some ⟨x1, 0, none⟩)]] W3 (GenPost t W R)) := Lib.hid fun x0 x1 W3 hk3 l0 l1 d0 d1 => by
    have hT3 := h.kept hk3
    have hrem := zremember_any t 110 a 0 82 #[.pointer (some ⟨x0, 0, none⟩), .pointer (some ⟨x1, 0, none⟩)] (enters_of Try.func82 (by kernel_rfl) rfl) N W3 hT3 R
      (fun r hm => by rw [hR]; exact zmem_put1 hg (by decide) (Nat.le_of_lt hv) hF (fun s hs j hj => (zm_low hg a ha s (zmin_iff.1 hs).1 j hj).1) hpp hm)
      (fun N' r hr => by rw [hR] at hr; exact zput_mem hg (by decide) ⟨ha, .inr (.inr (Nat.zero_le _))⟩ hF hr.1)
      (fun W4 hk4 => by
        rw [hR]
        exact zminimal1_any k2 hih t N a x0 x1 W4 (hT3.kept hk4) ha (by omega) hk hl (h.box (hk3.trans hk4) l0 (hk4.cell d0)) (h.box (hk3.trans hk4) l1 (hk4.cell d1)))
    refine hrem.mono ?_
    rintro e w' ⟨r, N', rfl, h1, h2, h3⟩
    exact ⟨r, N', rfl, h1, h2, (h.frm hk3).trans h3⟩
  clear hR hF hih ih hg h hk hl hv ha c1 hpp
  unfold ZT.val at *
  go_enter Try.func54, Try.ntmps54
  go_wp2_with fail
  rw [← HW3.out]
  refine (HREM.out W.heap.size (W.heap.size + 1) W3 HK3.out (by omega) (by omega) HC3.out.1 HC3.out.2).mono ?_
  rintro e w2 ⟨r, N', rfl, hr, ht, hf⟩
  have HR2 := Lib.hid hr
  have HT2 := Lib.hid ht
  have HF2 := Lib.hid hf
  clear hr ht hf
  go_wp2_with fail
  go_ret
  refine ⟨r, N', ?_, HR2.out, HT2.out, HF2.out⟩
  rfl
theorem zminimal_any : ∀ k, ZMinK k := by
  intro k
  induction k with
  | zero => exact zminimal_step 0 fun k h => absurd h (by omega)
  | succ k ih =>
    refine zminimal_step (k + 1) fun k2 h => ?_
    obtain rfl : k2 = k := by omega
    exact ih
end Go.Proofs.Ytiplibgnfcdlkaa
