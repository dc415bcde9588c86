import Derived.Test.YtiplibgnfcdlkaaQ07
/-
  Walk: Meet of decision.Sets. Printed by gen_ZU.py.
-/
namespace Go.Proofs.Ytiplibgnfcdlkaa
open Go.RowKit

set_option maxRecDepth 100000 in
set_option maxHeartbeats 8000000 in
theorem zmeet1_any (k : Nat) (ih : ZTwo 66 and k) (t : ZT) (N : List ZNode) (a b x0 x1 x2 : Nat) (W : World) (h : TblAt W t N) (ha : a ≤ 1 + N.length) (hb : b ≤ 1 + N.length) (hk : 24 - min (zev N a) (zev N b) ≤ k + 1) (hv : min (zev N a) (zev N b) < 24) (hl : N.length + 2 ^ (k + 1) ≤ 4398046511104)
    (b0 : Box t W x0 0 t.val) (b1 : Box t W x1 0 (.int .i64 a)) (b2 : Box t W x2 0 (.int .i64 b)) :
    Calls Try.prog 92 #[.pointer (some ⟨x0, 0, none⟩), .pointer (some ⟨x1, 0, none⟩), .pointer (some ⟨x2, 0, none⟩)] W (GenPost t W fun N' r => ZPut N (min (zev N a) (zev N b)) (fun s => and (zm N a s) (zm N b s)) N' r ∧ N'.length + 1 ≤ N.length + 2 ^ (k + 1)) := by
  have hg := h.good
  obtain ⟨va, hva⟩ : ∃ va, va = zev N a := ⟨_, rfl⟩
  obtain ⟨vb, hvb⟩ : ∃ vb, vb = zev N b := ⟨_, rfl⟩
  obtain ⟨v, hvv⟩ : ∃ v, v = min va vb := ⟨_, rfl⟩
  have hsplit : ((va : Int) ≤ (vb : Int) ∧ v = va) ∨ ((vb : Int) < (va : Int) ∧ v = vb) := by omega
  have kA := zkids_ok hg ha (show v < 24 by omega) (show v ≤ zev N a by omega)
  have kB := zkids_ok hg hb (show v < 24 by omega) (show v ≤ zev N b by omega)
  have HEA : Hid (∀ W', Kept W W' → Calls Try.prog 76 #[t.val, .int .i64 a] W' fun e w' => e = .returned (.int .i64 va) ∧ w' = W') := Lib.hid fun W' hk => by rw [hva]; exact (zevent_any t N a W' (h.kept hk) ha).mono fun e w' h => ⟨h.1, h.2.symm⟩
  have HEB : Hid (∀ W', Kept W W' → Calls Try.prog 76 #[t.val, .int .i64 b] W' fun e w' => e = .returned (.int .i64 vb) ∧ w' = W') := Lib.hid fun W' hk => by rw [hvb]; exact (zevent_any t N b W' (h.kept hk) hb).mono fun e w' h => ⟨h.1, h.2.symm⟩
  obtain ⟨a0, a1, hka⟩ : ∃ a0 a1, (a0, a1) = zkids N a v := ⟨_, _, rfl⟩
  obtain ⟨c0, c1, hkb⟩ : ∃ c0 c1, (c0, c1) = zkids N b v := ⟨_, _, rfl⟩
  have HKA : Hid (∀ W', Kept W W' → Calls Try.prog 77 #[t.val, .int .i64 a, .int .i64 v] W' fun e w' => e = .returned (.tuple #[.int .i64 a0, .int .i64 a1]) ∧ Kept W' w') := Lib.hid fun W' hk => by have := zkids_any t N a v W' (h.kept hk) ha (by omega); rw [← hka] at this; exact this
  have HKB : Hid (∀ W', Kept W W' → Calls Try.prog 77 #[t.val, .int .i64 b, .int .i64 v] W' fun e w' => e = .returned (.tuple #[.int .i64 c0, .int .i64 c1]) ∧ Kept W' w') := Lib.hid fun W' hk => by have := zkids_any t N b v W' (h.kept hk) hb (by omega); rw [← hkb] at this; exact this
  have hpk : 2 ^ (k + 1) = 2 * 2 ^ k := by rw [Nat.pow_succ]; omega
  have hpp : 1 ≤ 2 ^ k := Nat.one_le_two_pow
  rw [← hka] at kA
  rw [← hkb] at kB
  have HU0 : Hid (∀ W', TblAt W' t N → Calls Try.prog 66 #[t.val, .int .i64 a0, .int .i64 c0] W' (GenPost t W' fun N' r => ZPut N (v + 1) (fun s => and (zm N a0 s) (zm N c0 s)) N' r ∧ N'.length + 1 ≤ N.length + 2 ^ k)) := Lib.hid fun W' hT => by
    have l1 := kA.lo
    have l2 := kB.lo
    refine (ih t N a0 c0 W' hT l1.1 l2.1 (by simp only at l1 l2; omega) (by omega)).mono ?_
    rintro e w' ⟨r, N', rfl, ⟨h1, h2⟩, h3⟩
    exact ⟨r, N', rfl, ⟨h1.weak (by simp only at l1 l2; omega), h2⟩, h3⟩
  have HU1 : Hid (∀ W' N1, TblAt W' t N1 → (∃ r, ZPut N (v + 1) (fun s => and (zm N a0 s) (zm N c0 s)) N1 r) → N1.length + 1 ≤ N.length + 2 ^ k → Calls Try.prog 66 #[t.val, .int .i64 a1, .int .i64 c1] W' (GenPost t W' fun N' r => ZPut N1 (v + 1) (fun s => and (zm N1 a1 s) (zm N1 c1 s)) N' r ∧ N'.length + 1 ≤ N1.length + 2 ^ k)) := Lib.hid fun W' N1 hT ⟨r0, hp⟩ hl1 => by
    have l1 := kA.hi
    have l2 := kB.hi
    have e1 := hp.zev (a := a1) l1.1
    have e2 := hp.zev (a := c1) l2.1
    have e3 := hp.le
    refine (ih t N1 a1 c1 W' hT (by simp only at l1 l2; omega) (by simp only at l1 l2; omega) (by simp only at l1 l2; omega) (by omega)).mono ?_
    rintro e w' ⟨r, N', rfl, ⟨h1, h2⟩, h3⟩
    exact ⟨r, N', rfl, ⟨h1.weak (by simp only at l1 l2; omega), h2⟩, h3⟩
  have HMK : Hid (∀ W' N1 N2 r0 r1, TblAt W' t N2 → ZPut N (v + 1) (fun s => and (zm N a0 s) (zm N c0 s)) N1 r0 → ZPut N1 (v + 1) (fun s => and (zm N1 a1 s) (zm N1 c1 s)) N2 r1 → N1.length + 1 ≤ N.length + 2 ^ k → N2.length + 1 ≤ N1.length + 2 ^ k →
      Calls Try.prog 78 #[t.val, .int .i64 v, .int .i64 (r0 : Nat), .int .i64 (r1 : Nat)] W' (GenPost t W' fun N' r => ZPut N (min (zev N a) (zev N b)) (fun s => and (zm N a s) (zm N b s)) N' r ∧ N'.length + 1 ≤ N.length + 2 ^ (k + 1))) := Lib.hid fun W' N1 N2 r0 r1 hT h1 h2 l1 l2 => by
    have hp := zbin_step and hg ha hb (show v < 24 by omega) (by omega) (by omega) (by rw [← hka, ← hkb]; exact h1) (by rw [← hka, ← hkb]; exact h2)
    refine (zmake_any t N2 ⟨v, r0, r1⟩ W' hT hp.good (by omega)).mono ?_
    rintro e w' ⟨rfl, h3, h4⟩
    exact ⟨_, _, rfl, ⟨by rw [← hva, ← hvb, ← hvv]; exact hp, by have := zput_len N2 ⟨v, r0, r1⟩; omega⟩, h3, h4⟩
  have HT := Lib.hid h
  have HB0 := Lib.hid b0
  have HB1 := Lib.hid b1
  have HB2 := Lib.hid b2
  obtain ⟨d0, _⟩ := b0
  obtain ⟨d1, _⟩ := b1
  obtain ⟨d2, _⟩ := b2
  obtain ⟨R, hR⟩ : ∃ R : List ZNode → Nat → Prop, R = fun N' r => ZPut N (min (zev N a) (zev N b)) (fun s => and (zm N a s) (zm N b s)) N' r ∧ N'.length + 1 ≤ N.length + 2 ^ (k + 1) := ⟨_, rfl⟩
  rw [← hR] at HMK ⊢
  clear hR hka hkb kA kB hpk hpp hva hvb hvv hk hv hl ha hb hg h ih
  unfold ZT.val at *
  rcases hsplit with ⟨hle, rfl⟩ | ⟨hle, rfl⟩
  all_goals
    go_enter Try.func92, Try.ntmps92
    go_upto_region 1 with fail
    go_quiet ((go_at_call 76; first | (with_reducible refine Calls.quiet_of_same (HEA.out _ ((Kept.refl _).drewN _))) | (with_reducible refine Calls.quiet_of_same (HEB.out _ ((Kept.refl _).drewN _)))))
    rename Nat => nq
    obtain ⟨w2, hw2⟩ : ∃ w2, w2 = W.drewN nq := ⟨_, rfl⟩
    have hk2 : Kept W w2 := by rw [hw2]; exact (Kept.refl _).drewN _
    have e0 := hk2.cell d0
    have e1 := hk2.cell d1
    have e2 := hk2.cell d2
    have HK2 := Lib.hid hk2
    rw [← hw2]
    clear hw2 hk2 d0 d1 d2 HEA HEB
    go_wp2_with fail
    refine (HKA.out _ HK2.out).mono ?_
    rintro e w3 ⟨rfl, hk3⟩
    have e0' := hk3.cell e0
    have e2' := hk3.cell e2
    have HK3 := Lib.hid (HK2.out.trans hk3)
    clear hk3 e0 e1 e2
    go_wp2_with fail
    refine (HKB.out _ HK3.out).mono ?_
    rintro e w4 ⟨rfl, hk4⟩
    have g0 := hk4.cell e0'
    have HK4 := Lib.hid (HK3.out.trans hk4)
    have HT4 := Lib.hid (HT.out.kept HK4.out)
    have HF4 := Lib.hid (HT.out.frm HK4.out)
    have HB4 := Lib.hid (HB0.out.frm HF4.out)
    clear hk4 e0' e2' HKA HKB
    go_upto_region 4 with fail
    have HC0 : Hid ((fun W : World => W.cell? ⟨x0, 0, none⟩ = some (.pointer (some ⟨t.tb, 0, none⟩))) w4.drew) := Lib.hid ((Kept.refl w4).drew.cell g0)
    go_region_held3 (fun W => W.cell? ⟨x0, 0, none⟩ = some (.pointer (some ⟨t.tb, 0, none⟩)))
      (with_reducible first | exact HC7.out | exact HC6.out | exact HC5.out | exact HC0.out)
      (first
      | (go_at_call 66; (with_reducible refine (HU0.out _ (HT4.out.kept (Kept.refl w4).drew)).mono ?_); rintro e w5 ⟨r0, N1, rfl, ⟨hp1, hl1⟩, ht5, hf5⟩; have HP1 := Lib.hid hp1; have HL1 := Lib.hid hl1; have HT5 := Lib.hid ht5; have HF5 := Lib.hid ((HT4.out.frm (Kept.refl w4).drew).trans hf5); have HC5 : Hid ((fun W : World => W.cell? ⟨x0, 0, none⟩ = some (.pointer (some ⟨t.tb, 0, none⟩))) w5) := Lib.hid (HB4.out.frm HF5.out).1; clear hp1 hl1 ht5 hf5)
      | (go_at_call 66; (with_reducible refine (HU1.out _ _ HT5.out ⟨_, HP1.out⟩ HL1.out).mono ?_); rintro e w6 ⟨r1, N2, rfl, ⟨hp2, hl2⟩, ht6, hf6⟩; have HP2 := Lib.hid hp2; have HL2 := Lib.hid hl2; have HT6 := Lib.hid ht6; have HF6 := Lib.hid (HF5.out.trans hf6); have HC6 : Hid ((fun W : World => W.cell? ⟨x0, 0, none⟩ = some (.pointer (some ⟨t.tb, 0, none⟩))) w6) := Lib.hid (HB4.out.frm HF6.out).1; clear hp2 hl2 ht6 hf6)
      | (go_at_call 78; (with_reducible refine (HMK.out _ _ _ _ _ HT6.out HP1.out HP2.out HL1.out HL2.out).mono ?_); rintro e w7 ⟨r, N', rfl, hR, ht7, hf7⟩; have HRR := Lib.hid hR; have HT7 := Lib.hid ht7; have HF7 := Lib.hid (HF6.out.trans hf7); have HC7 : Hid ((fun W : World => W.cell? ⟨x0, 0, none⟩ = some (.pointer (some ⟨t.tb, 0, none⟩))) w7) := Lib.hid (HB4.out.frm HF7.out).1; clear hR ht7 hf7)
      | fail)
    all_goals
      go_wp2
      go_ret
      refine ⟨r, N', ?_, HRR.out, HT7.out, HF4.out.trans HF7.out⟩
      rfl
set_option maxRecDepth 100000 in
set_option maxHeartbeats 4000000 in
theorem zmeet_step (k : Nat) (ih : ∀ k2, k2 + 1 = k → ZTwo 66 and k2) : ZTwo 66 and k := by
  intro t N a b W h ha hb hk hl
  have hg := h.good
  have hpp : 1 ≤ 2 ^ k := Nat.one_le_two_pow
  have HT := Lib.hid h
  have base : ∀ (e : Ending) (w' : World) (r : Nat), Kept W w' → e = .returned (.int .i64 r) → r ≤ 1 + N.length → (min (zev N a) (zev N b) ≤ zev N r) → (∀ s, zm N r s = and (zm N a s) (zm N b s)) →
      GenPost t W (fun N' r => ZPut N (min (zev N a) (zev N b)) (fun s => and (zm N a s) (zm N b s)) N' r ∧ N'.length + 1 ≤ N.length + 2 ^ k) e w' := fun e w' r hkp he hr hz hm => ⟨r, N, he, ⟨ZPut.of hg hr hz hm, by omega⟩, h.kept hkp, h.frm hkp⟩
  have HBASE := Lib.hid base
  by_cases c1 : a = b
  · obtain rfl := c1
    have HB : Hid (a ≤ 1 + N.length ∧ min (zev N a) (zev N a) ≤ zev N a ∧ ∀ s, zm N a s = and (zm N a s) (zm N a s)) := Lib.hid ⟨ha, Nat.min_le_left _ _, fun s => by simp⟩
    have q1 : ((a : Int) == (a : Int)) = true := by simp
    clear ih hg h hk hl hpp base ha
    unfold ZT.val at *
    go_enter Try.func66, Try.ntmps66
    go_wp2_with fail
    go_ret
    exact HBASE.out _ _ a ((((Kept.refl _).alloc _).alloc _).alloc _) rfl HB.out.1 HB.out.2.1 HB.out.2.2
  by_cases c2 : a = 0
  · obtain rfl := c2
    have HB : Hid (0 ≤ 1 + N.length ∧ min (zev N 0) (zev N b) ≤ zev N 0 ∧ ∀ s, zm N 0 s = and (zm N 0 s) (zm N b s)) := Lib.hid ⟨Nat.zero_le _, (show _ ≤ 24 from Nat.le_trans (Nat.min_le_right _ _) (zev_le hg _)), fun s => by simp [zm_zero]⟩
    have q1 : ((0 : Int) == (b : Int)) = false := by rw [beq_eq_false_iff_ne]; omega
    have q2 : ((b : Int) == 0) = false := by rw [beq_eq_false_iff_ne]; omega
    have q3 : ¬ (b : Int) = 0 := by omega
    clear ih hg h hk hl hpp base ha hb
    unfold ZT.val at *
    go_enter Try.func66, Try.ntmps66
    go_wp2_with fail
    go_ret
    exact HBASE.out _ _ 0 ((((Kept.refl _).alloc _).alloc _).alloc _) rfl HB.out.1 HB.out.2.1 HB.out.2.2
  by_cases c3 : b = 0
  · obtain rfl := c3
    have HB : Hid (0 ≤ 1 + N.length ∧ min (zev N a) (zev N 0) ≤ zev N 0 ∧ ∀ s, zm N 0 s = and (zm N a s) (zm N 0 s)) := Lib.hid ⟨Nat.zero_le _, (show _ ≤ 24 from Nat.le_trans (Nat.min_le_right _ _) (zev_le hg _)), fun s => by simp [zm_zero]⟩
    have q1 : ((0 : Int) == (a : Int)) = false := by rw [beq_eq_false_iff_ne]; omega
    have q2 : ((a : Int) == 0) = false := by rw [beq_eq_false_iff_ne]; omega
    have q3 : ¬ (a : Int) = 0 := by omega
    clear ih hg h hk hl hpp base ha hb
    unfold ZT.val at *
    go_enter Try.func66, Try.ntmps66
    go_wp2_with fail
    go_ret
    exact HBASE.out _ _ 0 ((((Kept.refl _).alloc _).alloc _).alloc _) rfl HB.out.1 HB.out.2.1 HB.out.2.2
  have c1i : ((a : Int) == (b : Int)) = false := by rw [beq_eq_false_iff_ne]; omega
  have c2i : ((b : Int) == 0) = false := by rw [beq_eq_false_iff_ne]; omega
  have c3i : ((a : Int) == 0) = false := by rw [beq_eq_false_iff_ne]; omega
  have hv : min (zev N a) (zev N b) < 24 := by
    rcases Nat.lt_or_ge (min (zev N a) (zev N b)) 24 with h1 | h1
    · exact h1
    · exfalso
      have := zref_small hg ha (by omega)
      have := zref_small hg hb (by omega)
      omega
  obtain ⟨k2, rfl⟩ : ∃ k2, k = k2 + 1 := ⟨k - 1, by omega⟩
  have hih := ih k2 rfl
  have hF : ∀ s, zsem N 109 a b s = and (zm N a s) (zm N b s) := fun s => by unfold zsem; simp
  obtain ⟨R, hR⟩ : ∃ R : List ZNode → Nat → Prop, R = fun N' r => ZPut N (min (zev N a) (zev N b)) (fun s => and (zm N a s) (zm N b s)) N' r ∧ N'.length + 1 ≤ N.length + 2 ^ (k2 + 1) := ⟨_, rfl⟩
  rw [← hR]
  have HREM : Hid (∀ (x0 x1 x2 : Nat) (W3 : World), Kept W W3 → W.heap.size ≤ x0 → W.heap.size ≤ x1 → W.heap.size ≤ x2 → W3.cell? ⟨x0, 0, none⟩ = some t.val → W3.cell? ⟨x1, 0, none⟩ = some (.int .i64 a) → W3.cell? ⟨x2, 0, none⟩ = some (.int .i64 b) →
      Calls Try.prog 74 #[t.val, .int .u8 109, .int .i64 a, .int .i64 b, .func (.func 92) #[] #[.pointer (some ⟨x0, 0, none⟩), .pointer (some ⟨x1, 0, none⟩), .pointer (some ⟨x2, 0, none⟩)]] W3 (GenPost t W R)) := Lib.hid fun x0 x1 x2 W3 hk3 l0 l1 l2 d0 d1 d2 => by
    have hT3 := h.kept hk3
    have hrem := zremember_any t 109 a b 92 #[.pointer (some ⟨x0, 0, none⟩), .pointer (some ⟨x1, 0, none⟩), .pointer (some ⟨x2, 0, none⟩)] (enters_of Try.func92 (by kernel_rfl) rfl) N W3 hT3 R
      (fun r hm => by rw [hR]; exact zmem_put hg (by decide) hF (fun s hs j hj => by
        exact Nat.le_trans (Nat.min_le_left _ _) (zm_low hg a ha s (by cases h1 : zm N a s <;> simp_all) j hj).1) hm)
      (fun N' r hr => by rw [hR] at hr; exact zput_mem hg (by decide) ⟨ha, .inr (.inr hb)⟩ hF hr.1)
      (fun W4 hk4 => by
        rw [hR]
        exact zmeet1_any k2 hih t N a b x0 x1 x2 W4 (hT3.kept hk4) ha hb hk hv hl (h.box (hk3.trans hk4) l0 (hk4.cell d0)) (h.box (hk3.trans hk4) l1 (hk4.cell d1)) (h.box (hk3.trans hk4) l2 (hk4.cell d2)))
    refine hrem.mono ?_
    rintro e w' ⟨r, N', rfl, h1, h2, h3⟩
    exact ⟨r, N', rfl, h1, h2, (h.frm hk3).trans h3⟩
  obtain ⟨W3, hW3⟩ : ∃ W3, W3 = (((W.alloc (.cells #[.pointer (some ⟨t.tb, 0, none⟩)] 64)).alloc (.cells #[.int .i64 a] 3)).alloc (.cells #[.int .i64 b] 3)) := ⟨_, rfl⟩
  have HK3 : Hid (Kept W W3) := Lib.hid (by rw [hW3]; exact (((Kept.refl _).alloc _).alloc _).alloc _)
  have HC3 : Hid (W3.cell? ⟨W.heap.size, 0, none⟩ = some t.val ∧ W3.cell? ⟨W.heap.size + 1, 0, none⟩ = some (.int .i64 a) ∧ W3.cell? ⟨W.heap.size + 1 + 1, 0, none⟩ = some (.int .i64 b)) := Lib.hid (boxes3 hW3)
  have HW3 := Lib.hid hW3
  clear hW3
  clear hR hF hih ih hg h hk hl hpp base HBASE hv ha hb
  unfold ZT.val at *
  go_enter Try.func66, Try.ntmps66
  go_wp2_with fail
  rw [← HW3.out]
  refine (HREM.out W.heap.size (W.heap.size + 1) (W.heap.size + 1 + 1) W3 HK3.out (by omega) (by omega) (by omega) HC3.out.1 HC3.out.2.1 HC3.out.2.2).mono ?_
  rintro e w2 ⟨r, N', rfl, hr, ht, hf⟩
  have HR2 := Lib.hid hr
  have HT2 := Lib.hid ht
  have HF2 := Lib.hid hf
  clear hr ht hf
  go_wp2_with fail
  go_ret
  refine ⟨r, N', ?_, HR2.out, HT2.out, HF2.out⟩
  rfl
theorem zmeet_any : ∀ k, ZTwo 66 and k := by
  intro k
  induction k with
  | zero => exact zmeet_step 0 fun k h => absurd h (by omega)
  | succ k ih =>
    refine zmeet_step (k + 1) fun k2 h => ?_
    obtain rfl : k2 = k := by omega
    exact ih
end Go.Proofs.Ytiplibgnfcdlkaa
