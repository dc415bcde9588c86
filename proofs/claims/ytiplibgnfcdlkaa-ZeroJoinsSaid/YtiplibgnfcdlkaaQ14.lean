import Derived.Test.YtiplibgnfcdlkaaQ13
/-
  Walk: With of decision.Sets. Printed by gen_ZP.py.
-/
namespace Go.Proofs.Ytiplibgnfcdlkaa
open Go.RowKit

/-- The sets that have an event. -/
def zwith (F : Nat → Bool) (c s : Nat) : Bool := F s && s.testBit c
def ZWithK (k : Nat) : Prop := ∀ (t : ZT) (N : List ZNode) (a c : Nat) (W : World), TblAt W t N → a ≤ 1 + N.length → c < 24 → 24 - zev N a ≤ k → N.length + 2 ^ k ≤ 4398046511104 →
  Calls Try.prog 71 #[t.val, .int .i64 a, .int .i64 c] W (GenPost t W fun N' r => ZPut N (zev N a) (zwith (zm N a) c) N' r ∧ N'.length + 1 ≤ N.length + 2 ^ k)
set_option maxRecDepth 100000 in
set_option maxHeartbeats 8000000 in
theorem zwith1_any (k : Nat) (ih : ZWithK k) (t : ZT) (N : List ZNode) (a x0 x1 x2 : Nat) (c : Nat) (W : World) (h : TblAt W t N) (ha : a ≤ 1 + N.length) (ha2 : 2 ≤ a) (hc24 : c < 24) (hne : zev N a < c) (hk : 24 - zev N a ≤ k + 1) (hl : N.length + 2 ^ (k + 1) ≤ 4398046511104)
    (b0 : Box t W x0 0 t.val) (b1 : Box t W x1 0 (.int .i64 a)) (b2 : Box t W x2 0 (.int .i64 c)) :
    Calls Try.prog 95 #[.pointer (some ⟨x0, 0, none⟩), .pointer (some ⟨x1, 0, none⟩), .pointer (some ⟨x2, 0, none⟩)] W (GenPost t W fun N' r => ZPut N (zev N a) (zwith (zm N a) c) N' r ∧ N'.length + 1 ≤ N.length + 2 ^ (k + 1)) := by
  have hg := h.good
  have hlen := h.len
  obtain ⟨i, rfl⟩ : ∃ i, a = i + 2 := ⟨a - 2, by omega⟩
  have hi : i < N.length := by omega
  have hhalf : ZHalf N[i].v (zwith (zm N (i + 2)) c) (zwith (zm N N[i].lo) c) (zwith (zm N N[i].hi) c) := zwith_half (znode_half hg hi) (by rw [zev_node hi] at hne; omega)
  rw [zev_node hi] at hk ⊢
  have hlo := hg.lo i hi
  have hhi := hg.hi i hi
  have hv := hg.ev i hi
  obtain ⟨ad, cp, c0, c1, c2, ⟨hc, hcn⟩, hx⟩ := h.cells
  obtain ⟨bb, oo, rfl, y0, y1, y2⟩ := hx i hi
  obtain ⟨nn, hn⟩ : ∃ n, n = N.length := ⟨_, rfl⟩
  have hi' : i < nn := by omega
  rw [← hn] at c0 hc hlen
  obtain ⟨v, hvv⟩ : ∃ v, v = N[i].v := ⟨_, rfl⟩
  obtain ⟨l0, hl0⟩ : ∃ l, l = N[i].lo := ⟨_, rfl⟩
  obtain ⟨l1, hl1⟩ : ∃ l, l = N[i].hi := ⟨_, rfl⟩
  rw [← hvv, ← hl0, ← hl1] at hhalf
  rw [← hvv] at hk hlo hhi hv y0 ⊢
  rw [← hl0] at hlo y1
  rw [← hl1] at hhi y2
  have hpk : 2 ^ (k + 1) = 2 * 2 ^ k := by rw [Nat.pow_succ]; omega
  have hpp : 1 ≤ 2 ^ k := Nat.pow_pos (by decide)
  have hw24 : 2 ^ k ≤ 2 ^ (k + 1) := by omega
  obtain ⟨R, hR⟩ : ∃ R : List ZNode → Nat → Prop, R = fun N' r => ZPut N v (zwith (zm N (i + 2)) c) N' r ∧ N'.length + 1 ≤ N.length + 2 ^ (k + 1) := ⟨_, rfl⟩
  obtain ⟨Q5, hQ5⟩ : ∃ Q : List ZNode → Nat → Prop, Q = fun N' r => ZPut N (v + 1) (zwith (zm N l0) c) N' r ∧ N'.length + 1 ≤ N.length + 2 ^ k := ⟨_, rfl⟩
  obtain ⟨Q6, hQ6⟩ : ∃ Q : Nat → List ZNode → Nat → Prop, Q = fun r5 N' r => ZPut N (v + 1) (zwith (zm N l0) c) N' r5 ∧ ZPut N (v + 1) (zwith (zm N l1) c) N' r ∧ N'.length + 2 ≤ N.length + 2 * 2 ^ k := ⟨_, rfl⟩
  have HU5 : Hid (∀ W', TblAt W' t N → Calls Try.prog 71 #[t.val, .int .i64 l0, .int .i64 c] W' (GenPost t W' Q5)) := Lib.hid fun W' hT => by
    refine (ih t N l0 c W' hT (by omega) (by omega) (by omega) (by omega)).mono ?_
    rintro e w' ⟨r, N', rfl, ⟨h1, h2⟩, h4⟩
    exact ⟨r, N', rfl, by rw [hQ5]; exact ⟨h1.weak (by omega), h2⟩, h4⟩
  have HU6 : Hid (∀ W' N5 r5, TblAt W' t N5 → Q5 N5 r5 → Calls Try.prog 71 #[t.val, .int .i64 l1, .int .i64 c] W' (GenPost t W' (Q6 r5))) := Lib.hid fun W' N5 r5 hT hq => by
    rw [hQ5] at hq
    obtain ⟨h5, hl5⟩ := hq
    have e1 := h5.le
    have e2 := h5.zev (a := l1) (by omega)
    refine (ih t N5 l1 c W' hT (by omega) (by omega) (by omega) (by omega)).mono ?_
    rintro e w' ⟨r, N', rfl, ⟨h1, h2⟩, h4⟩
    rw [show zm N5 l1 = zm N l1 from funext (h5.zm hg (by omega))] at h1
    exact ⟨r, N', rfl, by rw [hQ6]; exact ⟨h5.keep h1.ext h1.good, (h1.from h5.ext).weak (by omega), by omega⟩, h4⟩
  have HMK : Hid (∀ W' N7 r5 r7, TblAt W' t N7 → Q6 r5 N7 r7 → Calls Try.prog 78 #[t.val, .int .i64 v, .int .i64 (r5 : Nat), .int .i64 (r7 : Nat)] W' (GenPost t W' R)) := Lib.hid fun W' N7 r5 r7 hT hq => by
    rw [hQ6] at hq
    obtain ⟨h5, h7, hl7⟩ := hq
    have hp := zhalf_both hv hhalf h5 h7
    refine (zmake_any t N7 ⟨v, r5, r7⟩ W' hT hp.good (by omega)).mono ?_
    rintro e w' ⟨rfl, h3, h4⟩
    exact ⟨_, _, rfl, by rw [hR]; exact ⟨hp, by have := zput_len N7 ⟨v, r5, r7⟩; omega⟩, h3, h4⟩
  rw [← hR]
  have HT := Lib.hid h
  have HB0 := Lib.hid b0
  have d0 := b0.1
  have d1 := b1.1
  have HB2 := Lib.hid b2
  have ei : ((i + 2 : Nat) : Int) - 2 = (i : Int) := by omega
  have ew : IntKind.i64.wrap (i : Int) = (i : Int) := by rw [IntKind.wrap_i64]; omega
  have kA : Kept W W.drew := (Kept.refl W).drew
  have kB : Kept W (W.alloc (.cells #[.int .i64 0, .int .i64 0, .int .i64 0] 63)).drew := ((Kept.refl W).alloc _).drew
  have A0 := kA.cell d0
  have A1 := kA.cell d1
  have A2 := kA.cell c0
  have A3 := kA.cell y0
  have A4 := kA.cell y1
  have A5 := kA.cell y2
  have B0 := kB.cell d0
  have B1 := kB.cell d1
  have B2 := kB.cell c0
  have B3 := kB.cell y0
  have B4 := kB.cell y1
  have B5 := kB.cell y2
  have HD0 := Lib.hid d0
  clear hne hR hQ5 hQ6 hpk hpp hw24 hvv hl0 hl1 hhalf hlo hhi hk hl ha ha2 hg h ih hx hn b0 b1 b2 c1 c2 hi kA kB c0 d0 d1 y0 y1 y2
  unfold ZT.val at *
  go_enter Try.func95, Try.ntmps95
  go_upto_region 1 with fail
  go_region
  obtain ⟨w2, hw2⟩ : ∃ w2, w2 = (W.alloc (.cells #[.int .i64 v, .int .i64 l0, .int .i64 l1] 63)).drew := ⟨_, rfl⟩
  have hk2 : Kept W w2 := by rw [hw2]; exact ((Kept.refl _).alloc _).drew
  have hx2 : RowAt w2 W.heap.size 63 [.int .i64 v, .int .i64 l0, .int .i64 l1] := by rw [hw2]; exact (RowAt.made W #[.int .i64 v, .int .i64 l0, .int .i64 l1] 63).kept (Kept.refl _).drew
  have m0 := hx2.cell (i := 0) (by simp)
  have m1 := hx2.cell (i := 1) (by simp)
  have m2 := hx2.cell (i := 2) (by simp)
  simp only [List.getElem_cons_succ, List.getElem_cons_zero] at m0 m1 m2
  have HT2 := Lib.hid (HT.out.kept hk2)
  have HF2 := Lib.hid (HT.out.frm hk2)
  have HBX : Hid (Box t w2 x0 0 (.pointer (some ⟨t.tb, 0, none⟩)) ∧ Box t w2 x2 0 (.int .i64 c) ∧ Box t w2 W.heap.size 0 (.int .i64 v) ∧ Box t w2 W.heap.size 1 (.int .i64 l0) ∧ Box t w2 W.heap.size 2 (.int .i64 l1)) := Lib.hid ⟨HB0.out.frm HF2.out, HB2.out.frm HF2.out, HT.out.box hk2 (Nat.le_refl _) m0, HT.out.box hk2 (Nat.le_refl _) m1, HT.out.box hk2 (Nat.le_refl _) m2⟩
  rw [← hw2]
  clear hw2 hk2 hx2 m0 m1 m2 A0 A1 A2 A3 A4 A5 B0 B1 B2 B3 B4 B5
  go_upto_region 2 with fail
  have HC0 : Hid ((fun W2 : World => W2.cell? ⟨x0, 0, none⟩ = some (.pointer (some ⟨t.tb, 0, none⟩)) ∧ W2.cell? ⟨x2, 0, none⟩ = some (.int .i64 c) ∧ W2.cell? ⟨W.heap.size, 0, none⟩ = some (.int .i64 v) ∧ W2.cell? ⟨W.heap.size, 1, none⟩ = some (.int .i64 l0) ∧ W2.cell? ⟨W.heap.size, 2, none⟩ = some (.int .i64 l1)) w2.drew) := Lib.hid ⟨(Kept.refl w2).drew.cell HBX.out.1.1, (Kept.refl w2).drew.cell HBX.out.2.1.1, (Kept.refl w2).drew.cell HBX.out.2.2.1.1, (Kept.refl w2).drew.cell HBX.out.2.2.2.1.1, (Kept.refl w2).drew.cell HBX.out.2.2.2.2.1⟩
  go_region_held3 (fun W2 : World => W2.cell? ⟨x0, 0, none⟩ = some (.pointer (some ⟨t.tb, 0, none⟩)) ∧ W2.cell? ⟨x2, 0, none⟩ = some (.int .i64 c) ∧ W2.cell? ⟨W.heap.size, 0, none⟩ = some (.int .i64 v) ∧ W2.cell? ⟨W.heap.size, 1, none⟩ = some (.int .i64 l0) ∧ W2.cell? ⟨W.heap.size, 2, none⟩ = some (.int .i64 l1))
    (with_reducible first | exact HC7.out | exact HC6.out | exact HC5.out | exact HC0.out)
    (first
    | (go_at_call 71; (with_reducible refine (HU5.out _ (HT2.out.kept (Kept.refl w2).drew)).mono ?_); rintro e w5 ⟨r5, N5, rfl, hp, ht, hf⟩; have HP5 := Lib.hid hp; have HT5 := Lib.hid ht; have HF5 := Lib.hid ((HT2.out.frm (Kept.refl w2).drew).trans hf); have HC5 : Hid ((fun W2 : World => W2.cell? ⟨x0, 0, none⟩ = some (.pointer (some ⟨t.tb, 0, none⟩)) ∧ W2.cell? ⟨x2, 0, none⟩ = some (.int .i64 c) ∧ W2.cell? ⟨W.heap.size, 0, none⟩ = some (.int .i64 v) ∧ W2.cell? ⟨W.heap.size, 1, none⟩ = some (.int .i64 l0) ∧ W2.cell? ⟨W.heap.size, 2, none⟩ = some (.int .i64 l1)) w5) := Lib.hid ⟨(HBX.out.1.frm HF5.out).1, (HBX.out.2.1.frm HF5.out).1, (HBX.out.2.2.1.frm HF5.out).1, (HBX.out.2.2.2.1.frm HF5.out).1, (HBX.out.2.2.2.2.frm HF5.out).1⟩; clear hp ht hf)
    | (go_at_call 71; (with_reducible refine (HU6.out _ _ _ HT5.out HP5.out).mono ?_); rintro e w6 ⟨r6, N6, rfl, hp, ht, hf⟩; have HP6 := Lib.hid hp; have HT6 := Lib.hid ht; have HF6 := Lib.hid (HF5.out.trans hf); have HC6 : Hid ((fun W2 : World => W2.cell? ⟨x0, 0, none⟩ = some (.pointer (some ⟨t.tb, 0, none⟩)) ∧ W2.cell? ⟨x2, 0, none⟩ = some (.int .i64 c) ∧ W2.cell? ⟨W.heap.size, 0, none⟩ = some (.int .i64 v) ∧ W2.cell? ⟨W.heap.size, 1, none⟩ = some (.int .i64 l0) ∧ W2.cell? ⟨W.heap.size, 2, none⟩ = some (.int .i64 l1)) w6) := Lib.hid ⟨(HBX.out.1.frm HF6.out).1, (HBX.out.2.1.frm HF6.out).1, (HBX.out.2.2.1.frm HF6.out).1, (HBX.out.2.2.2.1.frm HF6.out).1, (HBX.out.2.2.2.2.frm HF6.out).1⟩; clear hp ht hf)
    | (go_at_call 78; (with_reducible refine (HMK.out _ _ _ _ HT6.out HP6.out).mono ?_); rintro e w7 ⟨r7, N7, rfl, hp, ht, hf⟩; have HP7 := Lib.hid hp; have HT7 := Lib.hid ht; have HF7 := Lib.hid (HF6.out.trans hf); have HC7 : Hid ((fun W2 : World => W2.cell? ⟨x0, 0, none⟩ = some (.pointer (some ⟨t.tb, 0, none⟩)) ∧ W2.cell? ⟨x2, 0, none⟩ = some (.int .i64 c) ∧ W2.cell? ⟨W.heap.size, 0, none⟩ = some (.int .i64 v) ∧ W2.cell? ⟨W.heap.size, 1, none⟩ = some (.int .i64 l0) ∧ W2.cell? ⟨W.heap.size, 2, none⟩ = some (.int .i64 l1)) w7) := Lib.hid ⟨(HBX.out.1.frm HF7.out).1, (HBX.out.2.1.frm HF7.out).1, (HBX.out.2.2.1.frm HF7.out).1, (HBX.out.2.2.2.1.frm HF7.out).1, (HBX.out.2.2.2.2.frm HF7.out).1⟩; clear hp ht hf)
    | fail)
  all_goals
    go_wp2
    go_ret
    refine ⟨r7, N7, ?_, HP7.out, HT7.out, HF2.out.trans HF7.out⟩
    rfl
set_option maxRecDepth 100000 in
set_option maxHeartbeats 4000000 in
theorem zwith_step (k : Nat) (ih : ∀ k2, k2 + 1 = k → ZWithK k2) : ZWithK k := by
  intro t N a c W h ha hc24 hk hl
  have hg := h.good
  have HT := Lib.hid h
  have hpp : 1 ≤ 2 ^ k := Nat.pow_pos (by decide)
  obtain ⟨R, hR⟩ : ∃ R : List ZNode → Nat → Prop, R = fun N' r => ZPut N (zev N a) (zwith (zm N a) c) N' r ∧ N'.length + 1 ≤ N.length + 2 ^ k := ⟨_, rfl⟩
  rw [← hR]
  obtain ⟨W3, hW3⟩ : ∃ W3, W3 = ((W.alloc (.cells #[.pointer (some ⟨t.tb, 0, none⟩)] 64)).alloc (.cells #[.int .i64 a] 3)).alloc (.cells #[.int .i64 c] 3) := ⟨_, rfl⟩
  have HK3 : Hid (Kept W W3) := Lib.hid (by rw [hW3]; exact (((Kept.refl _).alloc _).alloc _).alloc _)
  have HC3 : Hid (W3.cell? ⟨W.heap.size, 0, none⟩ = some t.val ∧ W3.cell? ⟨W.heap.size + 1, 0, none⟩ = some (.int .i64 a) ∧ W3.cell? ⟨W.heap.size + 1 + 1, 0, none⟩ = some (.int .i64 c)) := Lib.hid (boxes3 hW3)
  have HW3 := Lib.hid hW3
  clear hW3
  have HEV : Hid (∀ W', Kept W W' → Calls Try.prog 76 #[t.val, .int .i64 a] W' fun e w' => e = .returned (.int .i64 (zev N a)) ∧ W' = w') := Lib.hid fun W' hk => zevent_any t N a W' (h.kept hk) ha
  obtain ⟨ve, hve⟩ : ∃ ve, ve = zev N a := ⟨_, rfl⟩
  rw [← hve] at HEV
  by_cases c0 : c < ve
  · have c0i : (c : Int) < (ve : Int) := by omega
    have HB : Hid (R N 0) := Lib.hid (by
      rw [hR]
      refine ⟨ZPut.of hg (Nat.zero_le _) (show _ ≤ 24 from zev_le hg a) fun s => ?_, by omega⟩
      rw [zm_zero, Eq.comm]
      unfold zwith
      cases h1 : zm N a s with
      | false => rfl
      | true =>
        cases h2 : s.testBit c with
        | false => rfl
        | true => have := zm_low hg a ha s h1 c h2; omega)
    clear hR ih hg h hk hl ha hpp c0
    obtain ⟨d0, d1, d2⟩ := HC3.out
    unfold ZT.val at *
    go_enter Try.func71, Try.ntmps71
    go_wp2_with fail
    rw [← HW3.out]
    refine (HEV.out _ HK3.out).mono ?_
    rintro e w5 ⟨rfl, rfl⟩
    go_wp2_with fail
    go_ret
    refine ⟨0, N, ?_, HB.out, HT.out.kept HK3.out, HT.out.frm HK3.out⟩
    rfl
  by_cases c1 : ve = c
  · have hi2 : 2 ≤ a := by
      rcases Nat.lt_or_ge a 2 with h1 | h1
      · exfalso
        unfold zev at hve
        rw [if_pos h1] at hve
        omega
      · exact h1
    obtain ⟨i, hia⟩ : ∃ i, a = i + 2 := ⟨a - 2, by omega⟩
    have hi : i < N.length := by omega
    have hlen := h.len
    have hhalf := zwith_first (znode_half hg hi)
    have hza : zev N a = N[i].v := by rw [hia]; exact zev_node hi
    rw [hza] at hve
    rw [← hve, c1, ← hia] at hhalf
    have hhi := hg.hi i hi
    rw [← hve, c1] at hhi
    obtain ⟨ad, cp, e0, _, _, ⟨hc, hcn⟩, hx⟩ := h.cells
    obtain ⟨bb, oo, rfl, y0, y1, y2⟩ := hx i hi
    obtain ⟨nn, hn⟩ : ∃ n, n = N.length := ⟨_, rfl⟩
    have hi' : i < nn := by omega
    rw [← hn] at e0 hc hlen
    obtain ⟨l1, hl1⟩ : ∃ l, l = N[i].hi := ⟨_, rfl⟩
    rw [← hl1] at hhi y2 hhalf
    have hz0 : ZPut N (c + 1) (fun _ => false) N 0 := ZPut.of hg (Nat.zero_le _) (by rw [zev_zero]; omega) fun s => zm_zero N s
    have hz1 : ZPut N (c + 1) (zm N l1) N l1 := ZPut.of hg (by omega) hhi.2.2 fun _ => rfl
    have hp := zhalf_both hc24 hhalf hz0 hz1
    have hk1 : 1 ≤ k := by omega
    have hk2 : 2 ≤ 2 ^ k := by
      have : 2 ^ 1 ≤ 2 ^ k := Nat.pow_le_pow_right (by decide) hk1
      omega
    have HMK : Hid (∀ W', TblAt W' t N → Calls Try.prog 78 #[t.val, .int .i64 c, .int .i64 0, .int .i64 l1] W' (GenPost t W' R)) := Lib.hid fun W' hT => by
      refine (zmake_any t N ⟨c, 0, l1⟩ W' hT hp.good (by omega)).mono ?_
      rintro e w' ⟨rfl, h3, h4⟩
      exact ⟨_, _, rfl, by rw [hR, hza, ← hve, c1]; exact ⟨hp, by have := zput_len N ⟨c, 0, l1⟩; omega⟩, h3, h4⟩
    obtain ⟨d0, d1, d2⟩ := HC3.out
    have ei : (a : Int) - 2 = (i : Int) := by omega
    have ew : IntKind.i64.wrap (i : Int) = (i : Int) := by rw [IntKind.wrap_i64]; omega
    obtain rfl := c1
    have kA : Kept W W3.drew := HK3.out.drew
    have A0 := (Kept.refl W3).drew.cell d0
    have A1 := (Kept.refl W3).drew.cell d1
    have A2 := kA.cell e0
    have A5 := kA.cell y2
    have HKA := Lib.hid kA
    clear hR ih hg h hk hl ha hpp c0 hhalf hhi hx hn hl1 hz0 hz1 hp hk1 hk2 hve y0 y1 hi hi2 kA e0 y2 hza hia
    unfold ZT.val at *
    go_enter Try.func71, Try.ntmps71
    go_wp2_with fail
    rw [← HW3.out]
    refine (HEV.out _ HK3.out).mono ?_
    rintro e w5 ⟨rfl, rfl⟩
    go_upto_region 5 with fail
    go_region_with (go_at_call 78; (with_reducible refine (HMK.out _ (HT.out.kept HKA.out)).mono ?_); rintro e w6 ⟨r, N', rfl, hp, ht, hf⟩; have HP6 := Lib.hid hp; have HT6 := Lib.hid ht; have HF6 := Lib.hid ((HT.out.frm HKA.out).trans hf); clear hp ht hf)
    all_goals
      go_wp2
      go_ret
      refine ⟨r, N', ?_, HP6.out, HT6.out, HF6.out⟩
      rfl
  have c0i : ¬ (c : Int) < (ve : Int) := by omega
  have c1i : ¬ (ve : Int) = (c : Int) := by omega
  have hv : zev N a < 24 := by omega
  obtain ⟨k2, rfl⟩ : ∃ k2, k = k2 + 1 := ⟨k - 1, by omega⟩
  have hih := ih k2 rfl
  have hF : ∀ s, zsem N 101 a c s = zwith (zm N a) c s := fun s => by
    unfold zsem zwith
    simp
  have HREM : Hid (∀ (x0 x1 x2 : Nat) (W3 : World), Kept W W3 → W.heap.size ≤ x0 → W.heap.size ≤ x1 → W.heap.size ≤ x2 → W3.cell? ⟨x0, 0, none⟩ = some t.val → W3.cell? ⟨x1, 0, none⟩ = some (.int .i64 a) → W3.cell? ⟨x2, 0, none⟩ = some (.int .i64 c) →
      Calls Try.prog 74 #[t.val, .int .u8 101, .int .i64 a, .int .i64 c, .func (.func 95) #[] #[.pointer (some ⟨x0, 0, none⟩), .pointer (some ⟨x1, 0, none⟩), .pointer (some ⟨x2, 0, none⟩)]] W3 (GenPost t W R)) := Lib.hid fun x0 x1 x2 W3 hk3 l0 l1 l2 d0 d1 d2 => by
    have hT3 := h.kept hk3
    have hrem := zremember_any t 101 a c 95 #[.pointer (some ⟨x0, 0, none⟩), .pointer (some ⟨x1, 0, none⟩), .pointer (some ⟨x2, 0, none⟩)] (enters_of Try.func95 (by kernel_rfl) rfl) N W3 hT3 R
      (fun r hm => by rw [hR]; exact zmem_put1 hg (by decide) (Nat.le_of_lt hv) hF (fun s hs j hj => (zm_low hg a ha s ((Bool.and_eq_true _ _ ▸ hs : _ ∧ _).1) j hj).1) hpp hm)
      (fun N' r hr => by rw [hR] at hr; exact zput_mem hg (by decide) ⟨ha, .inr (.inl rfl)⟩ hF hr.1)
      (fun W4 hk4 => by
        rw [hR]
        exact zwith1_any k2 hih t N a x0 x1 x2 c W4 (hT3.kept hk4) ha (Nat.le_of_not_lt fun h2 => by unfold zev at hve; rw [if_pos h2] at hve; omega) hc24 (by omega) hk hl (h.box (hk3.trans hk4) l0 (hk4.cell d0)) (h.box (hk3.trans hk4) l1 (hk4.cell d1)) (h.box (hk3.trans hk4) l2 (hk4.cell d2)))
    refine hrem.mono ?_
    rintro e w' ⟨r, N', rfl, h1, h2, h3⟩
    exact ⟨r, N', rfl, h1, h2, (h.frm hk3).trans h3⟩
  clear hR hF hih ih hg h hk hl hv ha c1 hpp c0 hc24 hve
  unfold ZT.val at *
  go_enter Try.func71, Try.ntmps71
  obtain ⟨d0, d1, d2⟩ := HC3.out
  go_wp2_with fail
  rw [← HW3.out]
  refine (HEV.out _ HK3.out).mono ?_
  rintro e w5 ⟨rfl, rfl⟩
  go_wp2_with fail
  refine (HREM.out W.heap.size (W.heap.size + 1) (W.heap.size + 1 + 1) W3 HK3.out (by omega) (by omega) (by omega) HC3.out.1 HC3.out.2.1 HC3.out.2.2).mono ?_
  rintro e w2 ⟨r, N', rfl, hr, ht, hf⟩
  have HR2 := Lib.hid hr
  have HT2 := Lib.hid ht
  have HF2 := Lib.hid hf
  clear hr ht hf
  go_wp2_with fail
  go_ret
  refine ⟨r, N', ?_, HR2.out, HT2.out, HF2.out⟩
  rfl
theorem zwith_any : ∀ k, ZWithK k := by
  intro k
  induction k with
  | zero => exact zwith_step 0 fun k h => absurd h (by omega)
  | succ k ih =>
    refine zwith_step (k + 1) fun k2 h => ?_
    obtain rfl : k2 = k := by omega
    exact ih
end Go.Proofs.Ytiplibgnfcdlkaa
