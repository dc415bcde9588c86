import Derived.Test.YtiplibgnfcdlkaaQ09
/-
  Walk: Without of decision.Sets. Printed by gen_ZW.py.
-/
namespace Go.Proofs.Ytiplibgnfcdlkaa
open Go.RowKit

/-- An operation of two references, by families. -/
def ZTwoF (f : Nat) (op : (Nat → Bool) → (Nat → Bool) → Nat → Bool) (c k : Nat) : Prop := ∀ (t : ZT) (N : List ZNode) (a b : Nat) (W : World), TblAt W t N → a ≤ 1 + N.length → b ≤ 1 + N.length → 24 - min (zev N a) (zev N b) ≤ k → N.length + c ≤ 4398046511104 →
  Calls Try.prog f #[t.val, .int .i64 a, .int .i64 b] W (GenPost t W fun N' r => ZPut N (min (zev N a) (zev N b)) (op (zm N a) (zm N b)) N' r ∧ N'.length + 1 ≤ N.length + c)
theorem ZPut.from {N N1 N2 : List ZNode} {v r : Nat} {F : Nat → Bool} (h : ZPut N1 v F N2 r) (he : ∃ E, N1 = N ++ E) : ZPut N v F N2 r := by
  obtain ⟨E, rfl⟩ := he
  obtain ⟨⟨E2, rfl⟩, h2, h3, h4, h5⟩ := h
  exact ⟨⟨E ++ E2, by simp⟩, h2, h3, h4, h5⟩
theorem zmem_put3 {N : List ZNode} {op a b r c : Nat} {F : Nat → Bool} (hg : ZGood N) (hop : op ≠ 99) (hF : ∀ s, zsem N op a b s = F s) (hlow : ∀ s, F s = true → ∀ j, s.testBit j = true → min (zev N a) (zev N b) ≤ j) (hc : 1 ≤ c) (h : ZMem N (op, a, b) r) :
    ZPut N (min (zev N a) (zev N b)) F N r ∧ N.length + 1 ≤ N.length + c := by
  obtain ⟨h1, _⟩ := zmem_put (k := 0) hg hop hF hlow h
  exact ⟨h1, by omega⟩
set_option maxRecDepth 100000 in
set_option maxHeartbeats 8000000 in
theorem zwithout1_any (k : Nat) (ih : ZTwoF 64 zwithout (3 ^ k) k) (t : ZT) (N : List ZNode) (a b x0 x1 x2 : Nat) (W : World) (h : TblAt W t N) (ha : a ≤ 1 + N.length) (hb : b ≤ 1 + N.length) (hk : 24 - min (zev N a) (zev N b) ≤ k + 1) (hv : min (zev N a) (zev N b) < 24) (hl : N.length + 3 ^ (k + 1) ≤ 4398046511104)
    (b0 : Box t W x0 0 t.val) (b1 : Box t W x1 0 (.int .i64 a)) (b2 : Box t W x2 0 (.int .i64 b)) :
    Calls Try.prog 91 #[.pointer (some ⟨x0, 0, none⟩), .pointer (some ⟨x1, 0, none⟩), .pointer (some ⟨x2, 0, none⟩)] W (GenPost t W fun N' r => ZPut N (min (zev N a) (zev N b)) (zwithout (zm N a) (zm N b)) N' r ∧ N'.length + 1 ≤ N.length + 3 ^ (k + 1)) := by
  have hg := h.good
  obtain ⟨va, hva⟩ : ∃ va, va = zev N a := ⟨_, rfl⟩
  obtain ⟨vb, hvb⟩ : ∃ vb, vb = zev N b := ⟨_, rfl⟩
  obtain ⟨v, hvv⟩ : ∃ v, v = min va vb := ⟨_, rfl⟩
  have hsplit : ((va : Int) ≤ (vb : Int) ∧ v = va) ∨ ((vb : Int) < (va : Int) ∧ v = vb) := by omega
  have kA := zkids_ok hg ha (show v < 24 by omega) (show v ≤ zev N a by omega)
  have kB := zkids_ok hg hb (show v < 24 by omega) (show v ≤ zev N b by omega)
  have HEA : Hid (∀ W', Kept W W' → Calls Try.prog 76 #[t.val, .int .i64 a] W' fun e w' => e = .returned (.int .i64 va) ∧ w' = W') := Lib.hid fun W' hk => by rw [hva]; exact (zevent_any t N a W' (h.kept hk) ha).mono fun e w' h => ⟨h.1, h.2.symm⟩
  have HEB : Hid (∀ W', Kept W W' → Calls Try.prog 76 #[t.val, .int .i64 b] W' fun e w' => e = .returned (.int .i64 vb) ∧ w' = W') := Lib.hid fun W' hk => by rw [hvb]; exact (zevent_any t N b W' (h.kept hk) hb).mono fun e w' h => ⟨h.1, h.2.symm⟩
  obtain ⟨a0, a1, hka⟩ : ∃ a0 a1, (a0, a1) = zkids N a v := ⟨_, _, rfl⟩
  obtain ⟨c0, c1, hkb⟩ : ∃ c0 c1, (c0, c1) = zkids N b v := ⟨_, _, rfl⟩
  have HKA : Hid (∀ W', Kept W W' → Calls Try.prog 77 #[t.val, .int .i64 a, .int .i64 v] W' fun e w' => e = .returned (.tuple #[.int .i64 a0, .int .i64 a1]) ∧ Kept W' w') := Lib.hid fun W' hk => by have := zkids_any t N a v W' (h.kept hk) ha (by omega); rw [← hka] at this; exact this
  have HKB : Hid (∀ W', Kept W W' → Calls Try.prog 77 #[t.val, .int .i64 b, .int .i64 v] W' fun e w' => e = .returned (.tuple #[.int .i64 c0, .int .i64 c1]) ∧ Kept W' w') := Lib.hid fun W' hk => by have := zkids_any t N b v W' (h.kept hk) hb (by omega); rw [← hkb] at this; exact this
  have hpk : 3 ^ (k + 1) = 3 * 3 ^ k := by rw [Nat.pow_succ]; omega
  have hpp : 1 ≤ 3 ^ k := Nat.pow_pos (by decide)
  rw [← hka] at kA
  rw [← hkb] at kB
  have hhA := kA.half hg
  have hhB := kB.half hg
  have HU : ∀ (W' : World) (N1 : List ZNode) (x y : Nat) (F G : Nat → Bool), TblAt W' t N1 → x ≤ 1 + N1.length → y ≤ 1 + N1.length → v < zev N1 x → v < zev N1 y → (∀ s, zm N1 x s = F s) → (∀ s, zm N1 y s = G s) → N1.length + 3 ^ k ≤ 4398046511104 →
      Calls Try.prog 64 #[t.val, .int .i64 x, .int .i64 y] W' (GenPost t W' fun N' r => ZPut N1 (v + 1) (zwithout F G) N' r ∧ N'.length + 1 ≤ N1.length + 3 ^ k) := fun W' N1 x y F G hT hx hy vx vy hF hG hl1 => by
    refine (ih t N1 x y W' hT hx hy (by omega) hl1).mono ?_
    rintro e w' ⟨r, N', rfl, ⟨h1, h2⟩, h3⟩
    rw [show zm N1 x = F from funext hF, show zm N1 y = G from funext hG] at h1
    exact ⟨r, N', rfl, ⟨h1.weak (by omega), h2⟩, h3⟩
  have HU0 : Hid (∀ W', TblAt W' t N → Calls Try.prog 64 #[t.val, .int .i64 a0, .int .i64 c0] W' (GenPost t W' fun N' r => ZPut N (v + 1) (zwithout (zm N a0) (zm N c0)) N' r ∧ N'.length + 1 ≤ N.length + 3 ^ k)) := Lib.hid fun W' hT =>
    HU W' N a0 c0 _ _ hT kA.lo.1 kB.lo.1 kA.lo.2 kB.lo.2 (fun _ => rfl) (fun _ => rfl) (by omega)
  have HU1 : Hid (∀ W' N1 r0, TblAt W' t N1 → ZPut N (v + 1) (zwithout (zm N a0) (zm N c0)) N1 r0 → N1.length + 1 ≤ N.length + 3 ^ k → Calls Try.prog 64 #[t.val, .int .i64 a1, .int .i64 c0] W' (GenPost t W' fun N' r => ZPut N1 (v + 1) (zwithout (zm N a1) (zm N c0)) N' r ∧ N'.length + 1 ≤ N1.length + 3 ^ k)) := Lib.hid fun W' N1 r0 hT hp hl1 =>
    HU W' N1 a1 c0 _ _ hT (Nat.le_trans kA.hi.1 (by have := hp.le; omega)) (Nat.le_trans kB.lo.1 (by have := hp.le; omega)) (by rw [hp.zev kA.hi.1]; exact kA.hi.2) (by rw [hp.zev kB.lo.1]; exact kB.lo.2) (hp.zm hg kA.hi.1) (hp.zm hg kB.lo.1) (by omega)
  have HU2 : Hid (∀ W' N1 N2 r0 x, TblAt W' t N2 → ZPut N (v + 1) (zwithout (zm N a0) (zm N c0)) N1 r0 → N1.length + 1 ≤ N.length + 3 ^ k → ZPut N1 (v + 1) (zwithout (zm N a1) (zm N c0)) N2 x → N2.length + 1 ≤ N1.length + 3 ^ k →
      Calls Try.prog 64 #[t.val, .int .i64 (x : Nat), .int .i64 c1] W' (GenPost t W' fun N' r => ZPut N1 (v + 1) (zwithout (zwithout (zm N a1) (zm N c0)) (zm N c1)) N' r ∧ N'.length + 1 ≤ N2.length + 3 ^ k)) := Lib.hid fun W' N1 N2 r0 x hT hp hl1 hp2 hl2 => by
    have l1 := hp.le
    have l2 := hp2.le
    have hc := kB.hi.1
    refine (HU W' N2 x c1 _ _ hT hp2.ref (Nat.le_trans hc (by omega)) hp2.ev (by rw [hp2.zev (Nat.le_trans hc (by omega)), hp.zev hc]; exact kB.hi.2) hp2.mem (fun s => (hp2.zm hp.good (Nat.le_trans hc (by omega)) s).trans (hp.zm hg hc s)) (by omega)).mono ?_
    rintro e w' ⟨r, N', rfl, ⟨h1, h2⟩, h3⟩
    exact ⟨r, N', rfl, ⟨h1.from hp2.ext, h2⟩, h3⟩
  have HMK : Hid (∀ W' N1 N2 N3 r0 x r1, TblAt W' t N3 → ZPut N (v + 1) (zwithout (zm N a0) (zm N c0)) N1 r0 → N1.length + 1 ≤ N.length + 3 ^ k → ZPut N1 (v + 1) (zwithout (zm N a1) (zm N c0)) N2 x → N2.length + 1 ≤ N1.length + 3 ^ k → ZPut N1 (v + 1) (zwithout (zwithout (zm N a1) (zm N c0)) (zm N c1)) N3 r1 → N3.length + 1 ≤ N2.length + 3 ^ k →
      Calls Try.prog 78 #[t.val, .int .i64 v, .int .i64 (r0 : Nat), .int .i64 (r1 : Nat)] W' (GenPost t W' fun N' r => ZPut N (min (zev N a) (zev N b)) (zwithout (zm N a) (zm N b)) N' r ∧ N'.length + 1 ≤ N.length + 3 ^ (k + 1))) := Lib.hid fun W' N1 N2 N3 r0 x r1 hT h1 l1 _ l2 h3 l3 => by
    have hp := zhalf_step (show v < 24 by omega) (zwithout_half hhA hhB) h1 h3
    refine (zmake_any t N3 ⟨v, r0, r1⟩ W' hT hp.good (by omega)).mono ?_
    rintro e w' ⟨rfl, h3, h4⟩
    exact ⟨_, _, rfl, ⟨by rw [← hva, ← hvb, ← hvv]; exact hp, by have := zput_len N3 ⟨v, r0, r1⟩; omega⟩, h3, h4⟩
  have HT := Lib.hid h
  have HB0 := Lib.hid b0
  have HB1 := Lib.hid b1
  have HB2 := Lib.hid b2
  obtain ⟨d0, _⟩ := b0
  obtain ⟨d1, _⟩ := b1
  obtain ⟨d2, _⟩ := b2
  obtain ⟨R, hR⟩ : ∃ R : List ZNode → Nat → Prop, R = fun N' r => ZPut N (min (zev N a) (zev N b)) (zwithout (zm N a) (zm N b)) N' r ∧ N'.length + 1 ≤ N.length + 3 ^ (k + 1) := ⟨_, rfl⟩
  rw [← hR] at HMK ⊢
  clear HU hhA hhB hR hka hkb kA kB hpk hpp hva hvb hvv hk hv hl ha hb hg h ih
  unfold ZT.val at *
  rcases hsplit with ⟨hle, rfl⟩ | ⟨hle, rfl⟩
  all_goals
    go_enter Try.func91, Try.ntmps91
    go_upto_region 1 with fail
    go_quiet ((go_at_call 76; first | (with_reducible refine Calls.quiet_of_same (HEA.out _ ((Kept.refl _).drewN _))) | (with_reducible refine Calls.quiet_of_same (HEB.out _ ((Kept.refl _).drewN _)))))
    rename Nat => nq
    obtain ⟨w2, hw2⟩ : ∃ w2, w2 = W.drewN nq := ⟨_, rfl⟩
    have hk2 : Kept W w2 := by rw [hw2]; exact (Kept.refl _).drewN _
    have e0 := hk2.cell d0
    have e1 := hk2.cell d1
    have e2 := hk2.cell d2
    have HK2 := Lib.hid hk2
    rw [← hw2]
    clear hw2 hk2 d0 d1 d2 HEA HEB
    go_wp2_with fail
    refine (HKA.out _ HK2.out).mono ?_
    rintro e w3 ⟨rfl, hk3⟩
    have e0' := hk3.cell e0
    have e2' := hk3.cell e2
    have HK3 := Lib.hid (HK2.out.trans hk3)
    clear hk3 e0 e1 e2
    go_wp2_with fail
    refine (HKB.out _ HK3.out).mono ?_
    rintro e w4 ⟨rfl, hk4⟩
    have g0 := hk4.cell e0'
    have HK4 := Lib.hid (HK3.out.trans hk4)
    have HT4 := Lib.hid (HT.out.kept HK4.out)
    have HF4 := Lib.hid (HT.out.frm HK4.out)
    have HB4 := Lib.hid (HB0.out.frm HF4.out)
    clear hk4 e0' e2' HKA HKB
    go_upto_region 4 with fail
    have HC0 : Hid ((fun W : World => W.cell? ⟨x0, 0, none⟩ = some (.pointer (some ⟨t.tb, 0, none⟩))) w4.drew) := Lib.hid ((Kept.refl w4).drew.cell g0)
    go_region_held3 (fun W => W.cell? ⟨x0, 0, none⟩ = some (.pointer (some ⟨t.tb, 0, none⟩)))
      (with_reducible first | exact HC9.out | exact HC8.out | exact HC7.out | exact HC6.out | exact HC5.out | exact HC0.out)
      (first
      | (go_at_call 64; (with_reducible refine (HU0.out _ (HT4.out.kept (Kept.refl w4).drew)).mono ?_); rintro e w5 ⟨r5, N5, rfl, ⟨hp, hl⟩, ht, hf⟩; have HP5 := Lib.hid hp; have HL5 := Lib.hid hl; have HT5 := Lib.hid ht; have HF5 := Lib.hid ((HT4.out.frm (Kept.refl w4).drew).trans hf); have HC5 : Hid ((fun W : World => W.cell? ⟨x0, 0, none⟩ = some (.pointer (some ⟨t.tb, 0, none⟩))) w5) := Lib.hid (HB4.out.frm HF5.out).1; clear hp hl ht hf)
      | (go_at_call 64; (with_reducible refine (HU1.out _ _ _ HT5.out HP5.out HL5.out).mono ?_); rintro e w6 ⟨r6, N6, rfl, ⟨hp, hl⟩, ht, hf⟩; have HP6 := Lib.hid hp; have HL6 := Lib.hid hl; have HT6 := Lib.hid ht; have HF6 := Lib.hid ((HF5.out).trans hf); have HC6 : Hid ((fun W : World => W.cell? ⟨x0, 0, none⟩ = some (.pointer (some ⟨t.tb, 0, none⟩))) w6) := Lib.hid (HB4.out.frm HF6.out).1; clear hp hl ht hf)
      | (go_at_call 64; (with_reducible refine (HU2.out _ _ _ _ _ HT6.out HP5.out HL5.out HP6.out HL6.out).mono ?_); rintro e w7 ⟨r7, N7, rfl, ⟨hp, hl⟩, ht, hf⟩; have HP7 := Lib.hid hp; have HL7 := Lib.hid hl; have HT7 := Lib.hid ht; have HF7 := Lib.hid ((HF6.out).trans hf); have HC7 : Hid ((fun W : World => W.cell? ⟨x0, 0, none⟩ = some (.pointer (some ⟨t.tb, 0, none⟩))) w7) := Lib.hid (HB4.out.frm HF7.out).1; clear hp hl ht hf)
      | (go_at_call 78; (with_reducible refine (HMK.out _ _ _ _ _ _ _ HT7.out HP5.out HL5.out HP6.out HL6.out HP7.out HL7.out).mono ?_); rintro e w8 ⟨r8, N8, rfl, hp, ht, hf⟩; have HP8 := Lib.hid hp; have HT8 := Lib.hid ht; have HF8 := Lib.hid ((HF7.out).trans hf); have HC8 : Hid ((fun W : World => W.cell? ⟨x0, 0, none⟩ = some (.pointer (some ⟨t.tb, 0, none⟩))) w8) := Lib.hid (HB4.out.frm HF8.out).1; clear hp ht hf)
      | fail)
    all_goals
      go_wp2
      go_ret
      refine ⟨r8, N8, ?_, HP8.out, HT8.out, HF4.out.trans HF8.out⟩
      rfl
set_option maxRecDepth 100000 in
set_option maxHeartbeats 4000000 in
theorem zwithout_step (k : Nat) (ih : ∀ k2, k2 + 1 = k → ZTwoF 64 zwithout (3 ^ k2) k2) : ZTwoF 64 zwithout (3 ^ k) k := by
  intro t N a b W h ha hb hk hl
  have hg := h.good
  have hpp : 1 ≤ 3 ^ k := Nat.pow_pos (by decide)
  have HT := Lib.hid h
  have base : ∀ (e : Ending) (w' : World) (r : Nat), Kept W w' → e = .returned (.int .i64 r) → r ≤ 1 + N.length → (min (zev N a) (zev N b) ≤ zev N r) → (∀ s, zm N r s = zwithout (zm N a) (zm N b) s) →
      GenPost t W (fun N' r => ZPut N (min (zev N a) (zev N b)) (zwithout (zm N a) (zm N b)) N' r ∧ N'.length + 1 ≤ N.length + 3 ^ k) e w' := fun e w' r hkp he hr hz hm => ⟨r, N, he, ⟨ZPut.of hg hr hz hm, by omega⟩, h.kept hkp, h.frm hkp⟩
  have HBASE := Lib.hid base
  have HEM : Hid (∀ W', Kept W W' → Calls Try.prog 90 #[t.val, .int .i64 b] W' fun e w' => e = .returned (.bool (zm N b 0)) ∧ Kept W' w') := Lib.hid fun W' hk => zempty_any t N b W' (h.kept hk) hb
  obtain ⟨R, hR⟩ : ∃ R : List ZNode → Nat → Prop, R = fun N' r => ZPut N (min (zev N a) (zev N b)) (zwithout (zm N a) (zm N b)) N' r ∧ N'.length + 1 ≤ N.length + 3 ^ k := ⟨_, rfl⟩
  have HRR := Lib.hid hR
  rw [← hR] at HBASE ⊢
  clear base hR
  have hm0 : min (zev N a) (zev N b) ≤ zev N 0 := show _ ≤ 24 from Nat.le_trans (Nat.min_le_right _ _) (zev_le hg _)
  by_cases c1 : a = 0
  · have HB : Hid (0 ≤ 1 + N.length ∧ min (zev N a) (zev N b) ≤ zev N 0 ∧ ∀ s, zm N 0 s = zwithout (zm N a) (zm N b) s) := Lib.hid ⟨Nat.zero_le _, hm0, fun s => by
      rw [c1, zm_zero, Eq.comm, ← Bool.not_eq_true, zwithout_iff, zm_zero]; simp⟩
    have q1 : ((a : Int) == 0) = true := by rw [beq_iff_eq]; omega
    clear ih hg h hk hl hpp ha hb hm0 c1
    unfold ZT.val at *
    go_enter Try.func64, Try.ntmps64
    go_wp2_with fail
    go_ret
    exact HBASE.out _ _ 0 ((((Kept.refl _).alloc _).alloc _).alloc _) rfl HB.out.1 HB.out.2.1 HB.out.2.2
  have q1 : ((a : Int) == 0) = false := by rw [beq_eq_false_iff_ne]; omega
  obtain ⟨W3, hW3⟩ : ∃ W3, W3 = ((W.alloc (.cells #[.pointer (some ⟨t.tb, 0, none⟩)] 64)).alloc (.cells #[.int .i64 a] 3)).alloc (.cells #[.int .i64 b] 3) := ⟨_, rfl⟩
  have HK3 : Hid (Kept W W3) := Lib.hid (by rw [hW3]; exact (((Kept.refl _).alloc _).alloc _).alloc _)
  have HC3 : Hid (W3.cell? ⟨W.heap.size, 0, none⟩ = some t.val ∧ W3.cell? ⟨W.heap.size + 1, 0, none⟩ = some (.int .i64 a) ∧ W3.cell? ⟨W.heap.size + 1 + 1, 0, none⟩ = some (.int .i64 b)) := Lib.hid (boxes3 hW3)
  have HW3 := Lib.hid hW3
  clear hW3
  cases c2 : zm N b 0 with
  | true =>
    rw [c2] at HEM
    have HB : Hid (0 ≤ 1 + N.length ∧ min (zev N a) (zev N b) ≤ zev N 0 ∧ ∀ s, zm N 0 s = zwithout (zm N a) (zm N b) s) := Lib.hid ⟨Nat.zero_le _, hm0, fun s => by
      rw [zm_zero, Eq.comm, ← Bool.not_eq_true, zwithout_iff]
      exact fun h => h.2 0 c2 fun j hj => by rw [Nat.zero_testBit] at hj; cases hj⟩
    clear ih hg h hk hl hpp ha hb hm0 c2 c1
    unfold ZT.val at *
    go_enter Try.func64, Try.ntmps64
    go_wp2_with fail
    rw [← HW3.out]
    refine (HEM.out _ HK3.out).mono ?_
    rintro e w5 ⟨rfl, hk5⟩
    have HK5 := Lib.hid (HK3.out.trans hk5)
    clear hk5
    go_wp2_with fail
    go_ret
    exact HBASE.out _ _ 0 HK5.out rfl HB.out.1 HB.out.2.1 HB.out.2.2
  | false =>
  rw [c2] at HEM
  by_cases c3 : b = 0
  · have HB : Hid (a ≤ 1 + N.length ∧ min (zev N a) (zev N b) ≤ zev N a ∧ ∀ s, zm N a s = zwithout (zm N a) (zm N b) s) := Lib.hid ⟨ha, Nat.min_le_left _ _, fun s => by
      rw [Bool.eq_iff_iff, zwithout_iff, c3]
      exact ⟨fun h => ⟨h, fun u hu => by rw [zm_zero] at hu; cases hu⟩, fun h => h.1⟩⟩
    have q2 : ((b : Int) == 0) = true := by rw [beq_iff_eq]; omega
    obtain ⟨d0, d1, d2⟩ := HC3.out
    clear ih hg h hk hl hpp ha hb hm0 c2 c1 c3
    unfold ZT.val at *
    go_enter Try.func64, Try.ntmps64
    go_wp2_with fail
    rw [← HW3.out]
    refine (HEM.out _ HK3.out).mono ?_
    rintro e w5 ⟨rfl, hk5⟩
    have HK5 := Lib.hid (HK3.out.trans hk5)
    have e1 := hk5.cell d1
    have e2 := hk5.cell d2
    clear hk5 d0 d1 d2
    go_wp2_with fail
    go_ret
    exact HBASE.out _ _ a HK5.out rfl HB.out.1 HB.out.2.1 HB.out.2.2
  have q2 : ((b : Int) == 0) = false := by rw [beq_eq_false_iff_ne]; omega
  by_cases c4 : a = 1
  · have HB : Hid (a ≤ 1 + N.length ∧ min (zev N a) (zev N b) ≤ zev N a ∧ ∀ s, zm N a s = zwithout (zm N a) (zm N b) s) := Lib.hid ⟨ha, Nat.min_le_left _ _, fun s => by
      rw [Bool.eq_iff_iff, zwithout_iff, c4, zm_one, beq_iff_eq]
      refine ⟨fun h => ⟨h, fun u hu hsub => ?_⟩, fun h => h.1⟩
      have : u = 0 := Nat.le_zero.1 (by have := zsub_le hsub; omega)
      rw [this, c2] at hu; cases hu⟩
    have q3 : ((a : Int) == 1) = true := by rw [beq_iff_eq]; omega
    obtain ⟨d0, d1, d2⟩ := HC3.out
    clear ih hg h hk hl hpp ha hb hm0 c2 c1 c3 c4
    unfold ZT.val at *
    go_enter Try.func64, Try.ntmps64
    go_wp2_with fail
    rw [← HW3.out]
    refine (HEM.out _ HK3.out).mono ?_
    rintro e w5 ⟨rfl, hk5⟩
    have HK5 := Lib.hid (HK3.out.trans hk5)
    have e1 := hk5.cell d1
    have e2 := hk5.cell d2
    clear hk5 d0 d1 d2
    go_wp2_with fail
    go_ret
    exact HBASE.out _ _ a HK5.out rfl HB.out.1 HB.out.2.1 HB.out.2.2
  have q3 : ((a : Int) == 1) = false := by rw [beq_eq_false_iff_ne]; omega
  have hv : min (zev N a) (zev N b) < 24 := by
    rcases Nat.lt_or_ge (min (zev N a) (zev N b)) 24 with h1 | h1
    · exact h1
    · exfalso
      have := zref_small hg ha (by omega)
      omega
  obtain ⟨k2, rfl⟩ : ∃ k2, k = k2 + 1 := ⟨k - 1, by omega⟩
  have hih := ih k2 rfl
  have hF : ∀ s, zsem N 119 a b s = zwithout (zm N a) (zm N b) s := fun s => by unfold zsem; simp
  have hR := HRR.out
  have HREM : Hid (∀ (x0 x1 x2 : Nat) (W3 : World), Kept W W3 → W.heap.size ≤ x0 → W.heap.size ≤ x1 → W.heap.size ≤ x2 → W3.cell? ⟨x0, 0, none⟩ = some t.val → W3.cell? ⟨x1, 0, none⟩ = some (.int .i64 a) → W3.cell? ⟨x2, 0, none⟩ = some (.int .i64 b) →
      Calls Try.prog 74 #[t.val, .int .u8 119, .int .i64 a, .int .i64 b, .func (.func 91) #[] #[.pointer (some ⟨x0, 0, none⟩), .pointer (some ⟨x1, 0, none⟩), .pointer (some ⟨x2, 0, none⟩)]] W3 (GenPost t W R)) := Lib.hid fun x0 x1 x2 W3 hk3 l0 l1 l2 d0 d1 d2 => by
    have hT3 := h.kept hk3
    have hrem := zremember_any t 119 a b 91 #[.pointer (some ⟨x0, 0, none⟩), .pointer (some ⟨x1, 0, none⟩), .pointer (some ⟨x2, 0, none⟩)] (enters_of Try.func91 (by kernel_rfl) rfl) N W3 hT3 R
      (fun r hm => by rw [hR]; exact zmem_put3 hg (by decide) hF (fun s hs j hj => by
        exact Nat.le_trans (Nat.min_le_left _ _) (zm_low hg a ha s (zwithout_iff.1 hs).1 j hj).1) (Nat.pow_pos (by decide)) hm)
      (fun N' r hr => by rw [hR] at hr; exact zput_mem hg (by decide) ⟨ha, .inr (.inr hb)⟩ hF hr.1)
      (fun W4 hk4 => by
        rw [hR]
        exact zwithout1_any k2 hih t N a b x0 x1 x2 W4 (hT3.kept hk4) ha hb hk hv hl (h.box (hk3.trans hk4) l0 (hk4.cell d0)) (h.box (hk3.trans hk4) l1 (hk4.cell d1)) (h.box (hk3.trans hk4) l2 (hk4.cell d2)))
    refine hrem.mono ?_
    rintro e w' ⟨r, N', rfl, h1, h2, h3⟩
    exact ⟨r, N', rfl, h1, h2, (h.frm hk3).trans h3⟩
  obtain ⟨d0, d1, d2⟩ := HC3.out
  clear hR hF hih ih hg h hk hl hpp HBASE hv ha hb HRR hm0 c1 c2 c3 c4
  unfold ZT.val at *
  go_enter Try.func64, Try.ntmps64
  go_wp2_with fail
  rw [← HW3.out]
  refine (HEM.out _ HK3.out).mono ?_
  rintro e w5 ⟨rfl, hk5⟩
  have e0 := hk5.cell d0
  have e1 := hk5.cell d1
  have e2 := hk5.cell d2
  have HK5 := Lib.hid (HK3.out.trans hk5)
  clear hk5 d0 d1 d2
  go_wp2_with fail
  refine (HREM.out W.heap.size (W.heap.size + 1) (W.heap.size + 1 + 1) w5 HK5.out (by omega) (by omega) (by omega) e0 e1 e2).mono ?_
  rintro e w2 ⟨r, N', rfl, hr, ht, hf⟩
  have HR2 := Lib.hid hr
  have HT2 := Lib.hid ht
  have HF2 := Lib.hid hf
  clear hr ht hf
  go_wp2_with fail
  go_ret
  refine ⟨r, N', ?_, HR2.out, HT2.out, HF2.out⟩
  rfl
theorem zwithout_any : ∀ k, ZTwoF 64 zwithout (3 ^ k) k := by
  intro k
  induction k with
  | zero => exact zwithout_step 0 fun k h => absurd h (by omega)
  | succ k ih =>
    refine zwithout_step (k + 1) fun k2 h => ?_
    obtain rfl : k2 = k := by omega
    exact ih
end Go.Proofs.Ytiplibgnfcdlkaa
