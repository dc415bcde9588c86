import Derived.Test.YtiplibgnfcdlkaaQ14
/-
  Walk: Count of decision.Sets.
-/
namespace Go.Proofs.Ytiplibgnfcdlkaa
open Go.RowKit

def ZCntK (k : Nat) : Prop := ∀ (t : ZT) (N : List ZNode) (a : Nat) (W : World), TblAt W t N → a ≤ 1 + N.length → 24 - zev N a ≤ k →
  Calls Try.prog 55 #[t.val, .int .i64 a] W (GenPost t W fun N' r => N' = N ∧ r = zct N a)
set_option maxRecDepth 100000 in
set_option maxHeartbeats 8000000 in
theorem zcount1_any (k : Nat) (ih : ZCntK k) (t : ZT) (N : List ZNode) (a x0 x1 : Nat) (W : World) (h : TblAt W t N) (ha : a ≤ 1 + N.length) (ha2 : 2 ≤ a) (hk : 24 - zev N a ≤ k + 1)
    (b0 : Box t W x0 0 t.val) (b1 : Box t W x1 0 (.int .i64 a)) :
    Calls Try.prog 83 #[.pointer (some ⟨x0, 0, none⟩), .pointer (some ⟨x1, 0, none⟩)] W (GenPost t W fun N' r => N' = N ∧ r = zct N a) := by
  have hg := h.good
  have hlen := h.len
  obtain ⟨i, rfl⟩ : ∃ i, a = i + 2 := ⟨a - 2, by omega⟩
  have hi : i < N.length := by omega
  have hct := zct_node hg hi
  have hmax := zct_max hg ha
  rw [hct] at hmax ⊢
  rw [zev_node hi] at hk
  have hlo := hg.lo i hi
  have hhi := hg.hi i hi
  have hv := hg.ev i hi
  obtain ⟨ad, cp, c0, c1, c2, ⟨hc, hcn⟩, hx⟩ := h.cells
  obtain ⟨bb, oo, rfl, y0, y1, y2⟩ := hx i hi
  obtain ⟨nn, hn⟩ : ∃ n, n = N.length := ⟨_, rfl⟩
  have hi' : i < nn := by omega
  rw [← hn] at c0 hc hlen
  obtain ⟨v, hvv⟩ : ∃ v, v = N[i].v := ⟨_, rfl⟩
  obtain ⟨l0, hl0⟩ : ∃ l, l = N[i].lo := ⟨_, rfl⟩
  obtain ⟨l1, hl1⟩ : ∃ l, l = N[i].hi := ⟨_, rfl⟩
  rw [← hvv] at hk hlo hhi hv y0
  rw [← hl0, ← hl1] at hmax ⊢
  rw [← hl0] at hlo y1
  rw [← hl1] at hhi y2
  obtain ⟨p, hp⟩ : ∃ p, p = zct N l0 := ⟨_, rfl⟩
  obtain ⟨q, hq⟩ : ∃ q, q = zct N l1 := ⟨_, rfl⟩
  rw [← hp, ← hq] at hmax ⊢
  obtain ⟨z, hz⟩ : ∃ z, z = p + q := ⟨_, rfl⟩
  rw [← hz] at hmax ⊢
  have ez : (p : Int) + (q : Int) = (z : Int) := by omega
  have ez2 : IntKind.i64.wrap (z : Int) = (z : Int) := by rw [IntKind.wrap_i64]; omega
  obtain ⟨R, hR⟩ : ∃ R : List ZNode → Nat → Prop, R = fun N' r => N' = N ∧ r = z := ⟨_, rfl⟩
  have HRZ : Hid (R N z) := Lib.hid (by rw [hR]; exact ⟨rfl, rfl⟩)
  have HU5 : Hid (∀ W', TblAt W' t N → Calls Try.prog 55 #[t.val, .int .i64 l0] W' fun e w' => e = .returned (.int .i64 p) ∧ TblAt w' t N ∧ TFrm t W' w') := Lib.hid fun W' hT => by
    refine (ih t N l0 W' hT (by omega) (by omega)).mono ?_
    rintro e w' ⟨r, N', rfl, ⟨rfl, h2⟩, h4⟩
    exact ⟨by rw [h2, ← hp], h4⟩
  have HU6 : Hid (∀ W', TblAt W' t N → Calls Try.prog 55 #[t.val, .int .i64 l1] W' fun e w' => e = .returned (.int .i64 q) ∧ TblAt w' t N ∧ TFrm t W' w') := Lib.hid fun W' hT => by
    refine (ih t N l1 W' hT (by omega) (by omega)).mono ?_
    rintro e w' ⟨r, N', rfl, ⟨rfl, h2⟩, h4⟩
    exact ⟨by rw [h2, ← hq], h4⟩
  rw [← hR]
  have HT := Lib.hid h
  have HB0 := Lib.hid b0
  have d0 := b0.1
  have d1 := b1.1
  have ei : ((i + 2 : Nat) : Int) - 2 = (i : Int) := by omega
  have ew : IntKind.i64.wrap (i : Int) = (i : Int) := by rw [IntKind.wrap_i64]; omega
  have kA : Kept W W.drew := (Kept.refl W).drew
  have kB : Kept W (W.alloc (.cells #[.int .i64 0, .int .i64 0, .int .i64 0] 63)).drew := ((Kept.refl W).alloc _).drew
  have A0 := kA.cell d0
  have A1 := kA.cell d1
  have A2 := kA.cell c0
  have A3 := kA.cell y0
  have A4 := kA.cell y1
  have A5 := kA.cell y2
  have B0 := kB.cell d0
  have B1 := kB.cell d1
  have B2 := kB.cell c0
  have B3 := kB.cell y0
  have B4 := kB.cell y1
  have B5 := kB.cell y2
  have HD0 := Lib.hid d0
  clear hct hmax hp hq hz hR hvv hl0 hl1 hlo hhi hk ha ha2 hg h ih hx hn b0 b1 c1 c2 hi kA kB c0 d0 d1 y0 y1 y2
  unfold ZT.val at *
  go_enter Try.func83, Try.ntmps83
  go_upto_region 1 with fail
  go_region
  obtain ⟨w2, hw2⟩ : ∃ w2, w2 = (W.alloc (.cells #[.int .i64 v, .int .i64 l0, .int .i64 l1] 63)).drew := ⟨_, rfl⟩
  have hk2 : Kept W w2 := by rw [hw2]; exact ((Kept.refl _).alloc _).drew
  have hx2 : RowAt w2 W.heap.size 63 [.int .i64 v, .int .i64 l0, .int .i64 l1] := by rw [hw2]; exact (RowAt.made W #[.int .i64 v, .int .i64 l0, .int .i64 l1] 63).kept (Kept.refl _).drew
  have m0 := hx2.cell (i := 0) (by simp)
  have m1 := hx2.cell (i := 1) (by simp)
  have m2 := hx2.cell (i := 2) (by simp)
  simp only [List.getElem_cons_succ, List.getElem_cons_zero] at m0 m1 m2
  have HT2 := Lib.hid (HT.out.kept hk2)
  have HF2 := Lib.hid (HT.out.frm hk2)
  have HBX : Hid (Box t w2 x0 0 (.pointer (some ⟨t.tb, 0, none⟩)) ∧ Box t w2 W.heap.size 1 (.int .i64 l0) ∧ Box t w2 W.heap.size 2 (.int .i64 l1)) := Lib.hid ⟨HB0.out.frm HF2.out, HT.out.box hk2 (Nat.le_refl _) m1, HT.out.box hk2 (Nat.le_refl _) m2⟩
  rw [← hw2]
  clear hw2 hk2 hx2 m0 m1 m2 A0 A1 A2 A3 A4 A5 B0 B1 B2 B3 B4 B5
  go_upto_region 2 with fail
  have HC0 : Hid ((fun W2 : World => W2.cell? ⟨x0, 0, none⟩ = some (.pointer (some ⟨t.tb, 0, none⟩)) ∧ W2.cell? ⟨W.heap.size, 1, none⟩ = some (.int .i64 l0) ∧ W2.cell? ⟨W.heap.size, 2, none⟩ = some (.int .i64 l1)) w2.drew) := Lib.hid ⟨(Kept.refl w2).drew.cell HBX.out.1.1, (Kept.refl w2).drew.cell HBX.out.2.1.1, (Kept.refl w2).drew.cell HBX.out.2.2.1⟩
  go_region_held3 (fun W2 : World => W2.cell? ⟨x0, 0, none⟩ = some (.pointer (some ⟨t.tb, 0, none⟩)) ∧ W2.cell? ⟨W.heap.size, 1, none⟩ = some (.int .i64 l0) ∧ W2.cell? ⟨W.heap.size, 2, none⟩ = some (.int .i64 l1))
    (with_reducible first | exact HC6.out | exact HC5.out | exact HC0.out)
    (first
    | (go_at_call 55; (with_reducible refine (HU5.out _ (HT2.out.kept (Kept.refl w2).drew)).mono ?_); rintro e w5 ⟨rfl, ht, hf⟩; have HT5 := Lib.hid ht; have HF5 := Lib.hid ((HT2.out.frm (Kept.refl w2).drew).trans hf); have HC5 : Hid ((fun W2 : World => W2.cell? ⟨x0, 0, none⟩ = some (.pointer (some ⟨t.tb, 0, none⟩)) ∧ W2.cell? ⟨W.heap.size, 1, none⟩ = some (.int .i64 l0) ∧ W2.cell? ⟨W.heap.size, 2, none⟩ = some (.int .i64 l1)) w5) := Lib.hid ⟨(HBX.out.1.frm HF5.out).1, (HBX.out.2.1.frm HF5.out).1, (HBX.out.2.2.frm HF5.out).1⟩; clear ht hf)
    | (go_at_call 55; (with_reducible refine (HU6.out _ HT5.out).mono ?_); rintro e w6 ⟨rfl, ht, hf⟩; have HT6 := Lib.hid ht; have HF6 := Lib.hid (HF5.out.trans hf); have HC6 : Hid ((fun W2 : World => W2.cell? ⟨x0, 0, none⟩ = some (.pointer (some ⟨t.tb, 0, none⟩)) ∧ W2.cell? ⟨W.heap.size, 1, none⟩ = some (.int .i64 l0) ∧ W2.cell? ⟨W.heap.size, 2, none⟩ = some (.int .i64 l1)) w6) := Lib.hid ⟨(HBX.out.1.frm HF6.out).1, (HBX.out.2.1.frm HF6.out).1, (HBX.out.2.2.frm HF6.out).1⟩; clear ht hf)
    | fail)
  all_goals
    go_wp2
    go_ret
    refine ⟨z, N, ?_, HRZ.out, HT6.out, HF2.out.trans HF6.out⟩
    rfl
set_option maxRecDepth 100000 in
set_option maxHeartbeats 4000000 in
theorem zcount_step (k : Nat) (ih : ∀ k2, k2 + 1 = k → ZCntK k2) : ZCntK k := by
  intro t N a W h ha hk
  have hg := h.good
  have HT := Lib.hid h
  obtain ⟨R, hR⟩ : ∃ R : List ZNode → Nat → Prop, R = fun N' r => N' = N ∧ r = zct N a := ⟨_, rfl⟩
  rw [← hR]
  obtain ⟨W3, hW3⟩ : ∃ W3, W3 = (W.alloc (.cells #[.pointer (some ⟨t.tb, 0, none⟩)] 64)).alloc (.cells #[.int .i64 a] 3) := ⟨_, rfl⟩
  have HK3 : Hid (Kept W W3) := Lib.hid (by rw [hW3]; exact ((Kept.refl _).alloc _).alloc _)
  have HC3 : Hid (W3.cell? ⟨W.heap.size, 0, none⟩ = some t.val ∧ W3.cell? ⟨W.heap.size + 1, 0, none⟩ = some (.int .i64 a)) := Lib.hid (boxes2 hW3)
  have HW3 := Lib.hid hW3
  clear hW3
  by_cases c1 : a < 2
  · have c1i : (a : Int) < 2 := by omega
    have HB : Hid (R N a) := Lib.hid (by
      rw [hR]
      refine ⟨rfl, ?_⟩
      rcases (show a = 0 ∨ a = 1 by omega) with rfl | rfl
      · rw [zct_zero]
      · rw [zct_one])
    clear hR ih hg h hk ha c1
    unfold ZT.val at *
    go_enter Try.func55, Try.ntmps55
    go_wp2_with fail
    go_ret
    refine ⟨a, N, ?_, HB.out, HT.out.kept (((Kept.refl _).alloc _).alloc _), HT.out.frm (((Kept.refl _).alloc _).alloc _)⟩
    rfl
  have c1i : ¬ (a : Int) < 2 := by omega
  have hv : zev N a < 24 := by
    rcases Nat.lt_or_ge (zev N a) 24 with h1 | h1
    · exact h1
    · exact absurd (zref_small hg ha h1) c1
  obtain ⟨k2, rfl⟩ : ∃ k2, k = k2 + 1 := ⟨k - 1, by omega⟩
  have hih := ih k2 rfl
  have HREM : Hid (∀ (x0 x1 : Nat) (W3 : World), Kept W W3 → W.heap.size ≤ x0 → W.heap.size ≤ x1 → W3.cell? ⟨x0, 0, none⟩ = some t.val → W3.cell? ⟨x1, 0, none⟩ = some (.int .i64 a) →
      Calls Try.prog 74 #[t.val, .int .u8 99, .int .i64 a, .int .i64 0, .func (.func 83) #[] #[.pointer (some ⟨x0, 0, none⟩), .pointer (some ⟨x1, 0, none⟩)]] W3 (GenPost t W R)) := Lib.hid fun x0 x1 W3 hk3 l0 l1 d0 d1 => by
    have hT3 := h.kept hk3
    have hrem := zremember_any t 99 a 0 83 #[.pointer (some ⟨x0, 0, none⟩), .pointer (some ⟨x1, 0, none⟩)] (enters_of Try.func83 (by kernel_rfl) rfl) N W3 hT3 R
      (fun r hm => by rw [hR]; exact ⟨rfl, by have h2 := hm.2; rw [if_pos rfl] at h2; exact h2⟩)
      (fun N' r hr => by
        rw [hR] at hr
        obtain ⟨rfl, h2⟩ := hr
        exact ⟨⟨ha, .inr (.inr (Nat.zero_le _))⟩, by rw [if_pos rfl]; exact h2⟩)
      (fun W4 hk4 => by
        rw [hR]
        exact zcount1_any k2 hih t N a x0 x1 W4 (hT3.kept hk4) ha (by omega) hk (h.box (hk3.trans hk4) l0 (hk4.cell d0)) (h.box (hk3.trans hk4) l1 (hk4.cell d1)))
    refine hrem.mono ?_
    rintro e w' ⟨r, N', rfl, h1, h2, h3⟩
    exact ⟨r, N', rfl, h1, h2, (h.frm hk3).trans h3⟩
  clear hR hih ih hg h hk hv ha c1
  unfold ZT.val at *
  go_enter Try.func55, Try.ntmps55
  go_wp2_with fail
  rw [← HW3.out]
  refine (HREM.out W.heap.size (W.heap.size + 1) W3 HK3.out (by omega) (by omega) HC3.out.1 HC3.out.2).mono ?_
  rintro e w2 ⟨r, N', rfl, hr, ht, hf⟩
  have HR2 := Lib.hid hr
  have HT2 := Lib.hid ht
  have HF2 := Lib.hid hf
  clear hr ht hf
  go_wp2_with fail
  go_ret
  refine ⟨r, N', ?_, HR2.out, HT2.out, HF2.out⟩
  rfl
theorem zcount_any : ∀ k, ZCntK k := by
  intro k
  induction k with
  | zero => exact zcount_step 0 fun k h => absurd h (by omega)
  | succ k ih =>
    refine zcount_step (k + 1) fun k2 h => ?_
    obtain rfl : k2 = k := by omega
    exact ih
end Go.Proofs.Ytiplibgnfcdlkaa
