import Derived.Test.YtiplibgnfcdlkaaQ10
/-
  Walk: Join of decision.Sets. Printed by gen_ZJ.py.
-/
namespace Go.Proofs.Ytiplibgnfcdlkaa
open Go.RowKit

/-- How many nodes a join may make. -/
def zjc (k p : Nat) : Nat := k * p * 67108864
theorem zjc_add {k p0 p1 p2 p3 p : Nat} (h : p = p0 + p1 + p2 + p3) (hp : 1 ≤ p) : zjc k p0 + zjc k p1 + zjc k p2 + zjc k p3 + 67108864 ≤ zjc (k + 1) p := by
  unfold zjc
  have e : (k + 1) * p * 67108864 = k * p * 67108864 + p * 67108864 := by rw [Nat.add_mul, Nat.one_mul, Nat.add_mul]
  have e2 : k * p = k * p0 + k * p1 + k * p2 + k * p3 := by rw [h]; simp only [Nat.mul_add]
  rw [e, e2]
  omega
def ZJoin (k : Nat) : Prop := ∀ (t : ZT) (N : List ZNode) (a b : Nat) (W : World), TblAt W t N → a ≤ 1 + N.length → b ≤ 1 + N.length → 24 - min (zev N a) (zev N b) ≤ k → N.length + zjc k (zct N a * zct N b) ≤ 4398046511104 →
  Calls Try.prog 68 #[t.val, .int .i64 a, .int .i64 b] W (GenPost t W fun N' r => ZPut N (min (zev N a) (zev N b)) (zjoin (zm N a) (zm N b)) N' r ∧ N'.length ≤ N.length + zjc k (zct N a * zct N b))
theorem join_fam {k : Nat} (ih : ZJoin k) {t : ZT} {N N1 : List ZNode} {x y v : Nat} {W : World} (hT : TblAt W t N1) (he : ∃ E, N1 = N ++ E) (hg : ZGood N) (hx : x ≤ 1 + N.length) (hy : y ≤ 1 + N.length) (vx : v < zev N x) (vy : v < zev N y) (hk : 24 - (v + 1) ≤ k) (hl : N1.length + zjc k (zct N x * zct N y) ≤ 4398046511104) :
    Calls Try.prog 68 #[t.val, .int .i64 x, .int .i64 y] W (GenPost t W fun N' r => ZPut N (v + 1) (zjoin (zm N x) (zm N y)) N' r ∧ (∃ E, N' = N1 ++ E) ∧ N'.length ≤ N1.length + zjc k (zct N x * zct N y)) := by
  obtain ⟨E, rfl⟩ := he
  have hg1 := hT.good
  have e1 : zct (N ++ E) x = zct N x := zct_ext hg hg1 x hx
  have e2 : zct (N ++ E) y = zct N y := zct_ext hg hg1 y hy
  have e3 : zev (N ++ E) x = zev N x := zev_ext E hx
  have e4 : zev (N ++ E) y = zev N y := zev_ext E hy
  have e5 : zm (N ++ E) x = zm N x := funext (zm_ext hg hg1 x hx)
  have e6 : zm (N ++ E) y = zm N y := funext (zm_ext hg hg1 y hy)
  have h := ih t (N ++ E) x y W hT (by rw [List.length_append]; omega) (by rw [List.length_append]; omega) (by rw [e3, e4]; omega) (by rw [e1, e2]; exact hl)
  refine h.mono ?_
  rintro e w' ⟨r, N', rfl, ⟨h1, h2⟩, h3⟩
  rw [e1, e2] at h2
  rw [e3, e4, e5, e6] at h1
  exact ⟨r, N', rfl, ⟨(h1.from ⟨E, rfl⟩).weak (by omega), h1.ext, h2⟩, h3⟩
theorem union_fam {t : ZT} {N N1 : List ZNode} {x y v : Nat} {W : World} {F G : Nat → Bool} (hT : TblAt W t N1) (hx : ZPut N v F N1 x) (hy : ZPut N v G N1 y) (hl : N1.length + 16777216 ≤ 4398046511104) :
    Calls Try.prog 44 #[t.val, .int .i64 x, .int .i64 y] W (GenPost t W fun N' r => ZPut N v (fun s => F s || G s) N' r ∧ (∃ E, N' = N1 ++ E) ∧ N'.length ≤ N1.length + 16777216) := by
  refine (zunion_any 24 t N1 x y W hT hx.ref hy.ref (by omega) hl).mono ?_
  rintro e w' ⟨r, N', rfl, ⟨h1, h2⟩, h3⟩
  refine ⟨r, N', rfl, ⟨?_, h1.ext, by omega⟩, h3⟩
  rw [show zm N1 x = F from funext hx.mem, show zm N1 y = G from funext hy.mem] at h1
  exact (h1.from hx.ext).weak (by have := hx.ev; have := hy.ev; omega)
theorem zhalf_both {N N2 : List ZNode} {v r0 r1 : Nat} {F F0 F1 : Nat → Bool} (hv : v < 24) (hF : ZHalf v F F0 F1) (h1 : ZPut N (v + 1) F0 N2 r0) (h2 : ZPut N (v + 1) F1 N2 r1) :
    ZPut N v F (zput N2 ⟨v, r0, r1⟩).1 (zput N2 ⟨v, r0, r1⟩).2 :=
  zhalf_step hv hF h1 ⟨⟨[], by simp⟩, h2.good, h2.ref, h2.ev, h2.mem⟩
set_option maxRecDepth 100000 in
set_option maxHeartbeats 8000000 in
theorem zjoin1_any (k : Nat) (ih : ZJoin k) (t : ZT) (N : List ZNode) (a b x0 x1 x2 : Nat) (W : World) (h : TblAt W t N) (ha : a ≤ 1 + N.length) (hb : b ≤ 1 + N.length) (hk : 24 - min (zev N a) (zev N b) ≤ k + 1) (hv : min (zev N a) (zev N b) < 24) (hp0 : 1 ≤ zct N a * zct N b) (hl : N.length + zjc (k + 1) (zct N a * zct N b) ≤ 4398046511104)
    (b0 : Box t W x0 0 t.val) (b1 : Box t W x1 0 (.int .i64 a)) (b2 : Box t W x2 0 (.int .i64 b)) :
    Calls Try.prog 93 #[.pointer (some ⟨x0, 0, none⟩), .pointer (some ⟨x1, 0, none⟩), .pointer (some ⟨x2, 0, none⟩)] W (GenPost t W fun N' r => ZPut N (min (zev N a) (zev N b)) (zjoin (zm N a) (zm N b)) N' r ∧ N'.length ≤ N.length + zjc (k + 1) (zct N a * zct N b)) := by
  have hg := h.good
  obtain ⟨va, hva⟩ : ∃ va, va = zev N a := ⟨_, rfl⟩
  obtain ⟨vb, hvb⟩ : ∃ vb, vb = zev N b := ⟨_, rfl⟩
  obtain ⟨v, hvv⟩ : ∃ v, v = min va vb := ⟨_, rfl⟩
  have hsplit : ((va : Int) ≤ (vb : Int) ∧ v = va) ∨ ((vb : Int) < (va : Int) ∧ v = vb) := by omega
  have kA := zkids_ok hg ha (show v < 24 by omega) (show v ≤ zev N a by omega)
  have kB := zkids_ok hg hb (show v < 24 by omega) (show v ≤ zev N b by omega)
  have HEA : Hid (∀ W', Kept W W' → Calls Try.prog 76 #[t.val, .int .i64 a] W' fun e w' => e = .returned (.int .i64 va) ∧ w' = W') := Lib.hid fun W' hk => by rw [hva]; exact (zevent_any t N a W' (h.kept hk) ha).mono fun e w' h => ⟨h.1, h.2.symm⟩
  have HEB : Hid (∀ W', Kept W W' → Calls Try.prog 76 #[t.val, .int .i64 b] W' fun e w' => e = .returned (.int .i64 vb) ∧ w' = W') := Lib.hid fun W' hk => by rw [hvb]; exact (zevent_any t N b W' (h.kept hk) hb).mono fun e w' h => ⟨h.1, h.2.symm⟩
  obtain ⟨a0, a1, hka⟩ : ∃ a0 a1, (a0, a1) = zkids N a v := ⟨_, _, rfl⟩
  obtain ⟨c0, c1, hkb⟩ : ∃ c0 c1, (c0, c1) = zkids N b v := ⟨_, _, rfl⟩
  have HKA : Hid (∀ W', Kept W W' → Calls Try.prog 77 #[t.val, .int .i64 a, .int .i64 v] W' fun e w' => e = .returned (.tuple #[.int .i64 a0, .int .i64 a1]) ∧ Kept W' w') := Lib.hid fun W' hk => by have := zkids_any t N a v W' (h.kept hk) ha (by omega); rw [← hka] at this; exact this
  have HKB : Hid (∀ W', Kept W W' → Calls Try.prog 77 #[t.val, .int .i64 b, .int .i64 v] W' fun e w' => e = .returned (.tuple #[.int .i64 c0, .int .i64 c1]) ∧ Kept W' w') := Lib.hid fun W' hk => by have := zkids_any t N b v W' (h.kept hk) hb (by omega); rw [← hkb] at this; exact this
  have hctA := zct_kids hg ha (show v < 24 by omega) (show v ≤ zev N a by omega)
  have hctB := zct_kids hg hb (show v < 24 by omega) (show v ≤ zev N b by omega)
  rw [← hka] at kA hctA
  rw [← hkb] at kB hctB
  simp only at hctA hctB
  have hhA := kA.half hg
  have hhB := kB.half hg
  have hpr : zct N a * zct N b = zct N a1 * zct N c1 + zct N a1 * zct N c0 + zct N a0 * zct N c1 + zct N a0 * zct N c0 := by
    rw [← hctA, ← hctB, Nat.add_mul, Nat.mul_add, Nat.mul_add]; omega
  have hbud := zjc_add (k := k) hpr hp0
  obtain ⟨B11, hB11⟩ : ∃ B, B = zjc k (zct N a1 * zct N c1) := ⟨_, rfl⟩
  obtain ⟨B10, hB10⟩ : ∃ B, B = zjc k (zct N a1 * zct N c0) := ⟨_, rfl⟩
  obtain ⟨B01, hB01⟩ : ∃ B, B = zjc k (zct N a0 * zct N c1) := ⟨_, rfl⟩
  obtain ⟨B00, hB00⟩ : ∃ B, B = zjc k (zct N a0 * zct N c0) := ⟨_, rfl⟩
  obtain ⟨BB, hBB⟩ : ∃ B, B = zjc (k + 1) (zct N a * zct N b) := ⟨_, rfl⟩
  rw [← hB11, ← hB10, ← hB01, ← hB00, ← hBB] at hbud
  rw [← hBB] at hl ⊢
  have hkk : 24 - (v + 1) ≤ k := by omega
  obtain ⟨F11, hF11⟩ : ∃ F, F = zjoin (zm N a1) (zm N c1) := ⟨_, rfl⟩
  obtain ⟨F10, hF10⟩ : ∃ F, F = zjoin (zm N a1) (zm N c0) := ⟨_, rfl⟩
  obtain ⟨F01, hF01⟩ : ∃ F, F = zjoin (zm N a0) (zm N c1) := ⟨_, rfl⟩
  obtain ⟨F00, hF00⟩ : ∃ F, F = zjoin (zm N a0) (zm N c0) := ⟨_, rfl⟩
  have hhJ := zjoin_half hhA hhB
  rw [← hF11, ← hF10, ← hF01, ← hF00] at hhJ
  obtain ⟨Q5, hQ5⟩ : ∃ Q : List ZNode → Nat → Prop, Q = fun N' r => ZPut N (v + 1) F11 N' r ∧ N'.length ≤ N.length + B11 := ⟨_, rfl⟩
  obtain ⟨Q6, hQ6⟩ : ∃ Q : Nat → List ZNode → Nat → Prop, Q = fun r5 N' r => ZPut N (v + 1) F11 N' r5 ∧ ZPut N (v + 1) F10 N' r ∧ N'.length ≤ N.length + B11 + B10 := ⟨_, rfl⟩
  obtain ⟨Q7, hQ7⟩ : ∃ Q : Nat → Nat → List ZNode → Nat → Prop, Q = fun r5 r6 N' r => ZPut N (v + 1) F11 N' r5 ∧ ZPut N (v + 1) F10 N' r6 ∧ ZPut N (v + 1) F01 N' r ∧ N'.length ≤ N.length + B11 + B10 + B01 := ⟨_, rfl⟩
  obtain ⟨Q8, hQ8⟩ : ∃ Q : Nat → List ZNode → Nat → Prop, Q = fun r5 N' r => ZPut N (v + 1) F11 N' r5 ∧ ZPut N (v + 1) (fun s => F10 s || F01 s) N' r ∧ N'.length ≤ N.length + B11 + B10 + B01 + 16777216 := ⟨_, rfl⟩
  obtain ⟨Q9, hQ9⟩ : ∃ Q : List ZNode → Nat → Prop, Q = fun N' r => ZPut N (v + 1) (fun s => F11 s || (F10 s || F01 s)) N' r ∧ N'.length ≤ N.length + B11 + B10 + B01 + 33554432 := ⟨_, rfl⟩
  obtain ⟨Q10, hQ10⟩ : ∃ Q : Nat → List ZNode → Nat → Prop, Q = fun r9 N' r => ZPut N (v + 1) (fun s => F11 s || (F10 s || F01 s)) N' r9 ∧ ZPut N (v + 1) F00 N' r ∧ N'.length ≤ N.length + B11 + B10 + B01 + B00 + 33554432 := ⟨_, rfl⟩
  have HU5 : Hid (∀ W', TblAt W' t N → Calls Try.prog 68 #[t.val, .int .i64 a1, .int .i64 c1] W' (GenPost t W' Q5)) := Lib.hid fun W' hT => by
    refine (join_fam ih hT ⟨[], by simp⟩ hg kA.hi.1 kB.hi.1 kA.hi.2 kB.hi.2 hkk (by rw [← hB11]; omega)).mono ?_
    rintro e w' ⟨r, N', rfl, ⟨h1, h2, h3⟩, h4⟩
    rw [← hB11] at h3
    rw [← hF11] at h1
    exact ⟨r, N', rfl, by rw [hQ5]; exact ⟨h1, h3⟩, h4⟩
  have HU6 : Hid (∀ W' N5 r5, TblAt W' t N5 → Q5 N5 r5 → Calls Try.prog 68 #[t.val, .int .i64 a1, .int .i64 c0] W' (GenPost t W' (Q6 r5))) := Lib.hid fun W' N5 r5 hT hq => by
    rw [hQ5] at hq
    obtain ⟨h5, hl5⟩ := hq
    refine (join_fam ih hT h5.ext hg kA.hi.1 kB.lo.1 kA.hi.2 kB.lo.2 hkk (by rw [← hB10]; omega)).mono ?_
    rintro e w' ⟨r, N', rfl, ⟨h1, h2, h3⟩, h4⟩
    rw [← hB10] at h3
    rw [← hF10] at h1
    exact ⟨r, N', rfl, by rw [hQ6]; exact ⟨h5.keep h2 h1.good, h1, by omega⟩, h4⟩
  have HU7 : Hid (∀ W' N6 r5 r6, TblAt W' t N6 → Q6 r5 N6 r6 → Calls Try.prog 68 #[t.val, .int .i64 a0, .int .i64 c1] W' (GenPost t W' (Q7 r5 r6))) := Lib.hid fun W' N6 r5 r6 hT hq => by
    rw [hQ6] at hq
    obtain ⟨h5, h6, hl6⟩ := hq
    refine (join_fam ih hT h5.ext hg kA.lo.1 kB.hi.1 kA.lo.2 kB.hi.2 hkk (by rw [← hB01]; omega)).mono ?_
    rintro e w' ⟨r, N', rfl, ⟨h1, h2, h3⟩, h4⟩
    rw [← hB01] at h3
    rw [← hF01] at h1
    exact ⟨r, N', rfl, by rw [hQ7]; exact ⟨h5.keep h2 h1.good, h6.keep h2 h1.good, h1, by omega⟩, h4⟩
  have HU8 : Hid (∀ W' N7 r5 r6 r7, TblAt W' t N7 → Q7 r5 r6 N7 r7 → Calls Try.prog 44 #[t.val, .int .i64 (r6 : Nat), .int .i64 (r7 : Nat)] W' (GenPost t W' (Q8 r5))) := Lib.hid fun W' N7 r5 r6 r7 hT hq => by
    rw [hQ7] at hq
    obtain ⟨h5, h6, h7, hl7⟩ := hq
    refine (union_fam hT h6 h7 (by omega)).mono ?_
    rintro e w' ⟨r, N', rfl, ⟨h1, h2, h3⟩, h4⟩
    exact ⟨r, N', rfl, by rw [hQ8]; exact ⟨h5.keep h2 h1.good, h1, by omega⟩, h4⟩
  have HU9 : Hid (∀ W' N8 r5 r8, TblAt W' t N8 → Q8 r5 N8 r8 → Calls Try.prog 44 #[t.val, .int .i64 (r5 : Nat), .int .i64 (r8 : Nat)] W' (GenPost t W' Q9)) := Lib.hid fun W' N8 r5 r8 hT hq => by
    rw [hQ8] at hq
    obtain ⟨h5, h8, hl8⟩ := hq
    refine (union_fam hT h5 h8 (by omega)).mono ?_
    rintro e w' ⟨r, N', rfl, ⟨h1, h2, h3⟩, h4⟩
    exact ⟨r, N', rfl, by rw [hQ9]; exact ⟨h1, by omega⟩, h4⟩
  have HU10 : Hid (∀ W' N9 r9, TblAt W' t N9 → Q9 N9 r9 → Calls Try.prog 68 #[t.val, .int .i64 a0, .int .i64 c0] W' (GenPost t W' (Q10 r9))) := Lib.hid fun W' N9 r9 hT hq => by
    rw [hQ9] at hq
    obtain ⟨h9, hl9⟩ := hq
    refine (join_fam ih hT h9.ext hg kA.lo.1 kB.lo.1 kA.lo.2 kB.lo.2 hkk (by rw [← hB00]; omega)).mono ?_
    rintro e w' ⟨r, N', rfl, ⟨h1, h2, h3⟩, h4⟩
    rw [← hB00] at h3
    rw [← hF00] at h1
    exact ⟨r, N', rfl, by rw [hQ10]; exact ⟨h9.keep h2 h1.good, h1, by omega⟩, h4⟩
  have HMK : Hid (∀ W' N10 r9 r10, TblAt W' t N10 → Q10 r9 N10 r10 →
      Calls Try.prog 78 #[t.val, .int .i64 v, .int .i64 (r10 : Nat), .int .i64 (r9 : Nat)] W' (GenPost t W' fun N' r => ZPut N (min (zev N a) (zev N b)) (zjoin (zm N a) (zm N b)) N' r ∧ N'.length ≤ N.length + BB)) := Lib.hid fun W' N10 r9 r10 hT hq => by
    rw [hQ10] at hq
    obtain ⟨h9, h10, hl10⟩ := hq
    have hp := zhalf_both (show v < 24 by omega) hhJ h10 h9
    refine (zmake_any t N10 ⟨v, r10, r9⟩ W' hT hp.good (by omega)).mono ?_
    rintro e w' ⟨rfl, h3, h4⟩
    exact ⟨_, _, rfl, ⟨by rw [← hva, ← hvb, ← hvv]; exact hp, by have := zput_len N10 ⟨v, r10, r9⟩; omega⟩, h3, h4⟩
  have HT := Lib.hid h
  have HB0 := Lib.hid b0
  have HB1 := Lib.hid b1
  have HB2 := Lib.hid b2
  obtain ⟨d0, _⟩ := b0
  obtain ⟨d1, _⟩ := b1
  obtain ⟨d2, _⟩ := b2
  obtain ⟨R, hR⟩ : ∃ R : List ZNode → Nat → Prop, R = fun N' r => ZPut N (min (zev N a) (zev N b)) (zjoin (zm N a) (zm N b)) N' r ∧ N'.length ≤ N.length + BB := ⟨_, rfl⟩
  rw [← hR] at HMK ⊢
  clear hhJ hF11 hF10 hF01 hF00 hQ5 hQ6 hQ7 hQ8 hQ9 hQ10 hB11 hB10 hB01 hB00 hBB hbud hpr hctA hctB hkk hhA hhB hp0 hR hka hkb kA kB hva hvb hvv hk hv hl ha hb hg h ih
  unfold ZT.val at *
  rcases hsplit with ⟨hle, rfl⟩ | ⟨hle, rfl⟩
  all_goals
    go_enter Try.func93, Try.ntmps93
    go_upto_region 1 with fail
    go_quiet ((go_at_call 76; first | (with_reducible refine Calls.quiet_of_same (HEA.out _ ((Kept.refl _).drewN _))) | (with_reducible refine Calls.quiet_of_same (HEB.out _ ((Kept.refl _).drewN _)))))
    rename Nat => nq
    obtain ⟨w2, hw2⟩ : ∃ w2, w2 = W.drewN nq := ⟨_, rfl⟩
    have hk2 : Kept W w2 := by rw [hw2]; exact (Kept.refl _).drewN _
    have e0 := hk2.cell d0
    have e1 := hk2.cell d1
    have e2 := hk2.cell d2
    have HK2 := Lib.hid hk2
    rw [← hw2]
    clear hw2 hk2 d0 d1 d2 HEA HEB
    go_wp2_with fail
    refine (HKA.out _ HK2.out).mono ?_
    rintro e w3 ⟨rfl, hk3⟩
    have e0' := hk3.cell e0
    have e2' := hk3.cell e2
    have HK3 := Lib.hid (HK2.out.trans hk3)
    clear hk3 e0 e1 e2
    go_wp2_with fail
    refine (HKB.out _ HK3.out).mono ?_
    rintro e w4 ⟨rfl, hk4⟩
    have g0 := hk4.cell e0'
    have HK4 := Lib.hid (HK3.out.trans hk4)
    have HT4 := Lib.hid (HT.out.kept HK4.out)
    have HF4 := Lib.hid (HT.out.frm HK4.out)
    have HB4 := Lib.hid (HB0.out.frm HF4.out)
    clear hk4 e0' e2' HKA HKB
    go_upto_region 4 with fail
    have HC0 : Hid ((fun W : World => W.cell? ⟨x0, 0, none⟩ = some (.pointer (some ⟨t.tb, 0, none⟩))) w4.drew) := Lib.hid ((Kept.refl w4).drew.cell g0)
    go_region_held3 (fun W => W.cell? ⟨x0, 0, none⟩ = some (.pointer (some ⟨t.tb, 0, none⟩)))
      (with_reducible first | exact HC11.out | exact HC10.out | exact HC9.out | exact HC8.out | exact HC7.out | exact HC6.out | exact HC5.out | exact HC0.out)
      (first
      | (go_at_call 68; (with_reducible refine (HU5.out _ (HT4.out.kept (Kept.refl w4).drew)).mono ?_); rintro e w5 ⟨r5, N5, rfl, hp, ht, hf⟩; have HP5 := Lib.hid hp; have HT5 := Lib.hid ht; have HF5 := Lib.hid ((HT4.out.frm (Kept.refl w4).drew).trans hf); have HC5 : Hid ((fun W : World => W.cell? ⟨x0, 0, none⟩ = some (.pointer (some ⟨t.tb, 0, none⟩))) w5) := Lib.hid (HB4.out.frm HF5.out).1; clear hp ht hf)
      | (go_at_call 68; (with_reducible refine (HU6.out _ _ _ HT5.out HP5.out).mono ?_); rintro e w6 ⟨r6, N6, rfl, hp, ht, hf⟩; have HP6 := Lib.hid hp; have HT6 := Lib.hid ht; have HF6 := Lib.hid ((HF5.out).trans hf); have HC6 : Hid ((fun W : World => W.cell? ⟨x0, 0, none⟩ = some (.pointer (some ⟨t.tb, 0, none⟩))) w6) := Lib.hid (HB4.out.frm HF6.out).1; clear hp ht hf)
      | (go_at_call 68; (with_reducible refine (HU7.out _ _ _ _ HT6.out HP6.out).mono ?_); rintro e w7 ⟨r7, N7, rfl, hp, ht, hf⟩; have HP7 := Lib.hid hp; have HT7 := Lib.hid ht; have HF7 := Lib.hid ((HF6.out).trans hf); have HC7 : Hid ((fun W : World => W.cell? ⟨x0, 0, none⟩ = some (.pointer (some ⟨t.tb, 0, none⟩))) w7) := Lib.hid (HB4.out.frm HF7.out).1; clear hp ht hf)
      | (go_at_call 44; (with_reducible refine (HU8.out _ _ _ _ _ HT7.out HP7.out).mono ?_); rintro e w8 ⟨r8, N8, rfl, hp, ht, hf⟩; have HP8 := Lib.hid hp; have HT8 := Lib.hid ht; have HF8 := Lib.hid ((HF7.out).trans hf); have HC8 : Hid ((fun W : World => W.cell? ⟨x0, 0, none⟩ = some (.pointer (some ⟨t.tb, 0, none⟩))) w8) := Lib.hid (HB4.out.frm HF8.out).1; clear hp ht hf)
      | (go_at_call 44; (with_reducible refine (HU9.out _ _ _ _ HT8.out HP8.out).mono ?_); rintro e w9 ⟨r9, N9, rfl, hp, ht, hf⟩; have HP9 := Lib.hid hp; have HT9 := Lib.hid ht; have HF9 := Lib.hid ((HF8.out).trans hf); have HC9 : Hid ((fun W : World => W.cell? ⟨x0, 0, none⟩ = some (.pointer (some ⟨t.tb, 0, none⟩))) w9) := Lib.hid (HB4.out.frm HF9.out).1; clear hp ht hf)
      | fail)
    all_goals
      have HB9 := Lib.hid (HB4.out.frm HF9.out)
      have g9 := HB9.out.1
      go_upto_region 5 with fail
      have HC10 : Hid ((fun W : World => W.cell? ⟨x0, 0, none⟩ = some (.pointer (some ⟨t.tb, 0, none⟩))) w9.drew) := Lib.hid ((Kept.refl w9).drew.cell g9)
      go_region_held3 (fun W => W.cell? ⟨x0, 0, none⟩ = some (.pointer (some ⟨t.tb, 0, none⟩)))
      (with_reducible first | exact HC12.out | exact HC11.out | exact HC10.out)
      (first
      | (go_at_call 68; (with_reducible refine (HU10.out _ _ _ (HT9.out.kept (Kept.refl w9).drew) HP9.out).mono ?_); rintro e w11 ⟨r11, N11, rfl, hp, ht, hf⟩; have HP11 := Lib.hid hp; have HT11 := Lib.hid ht; have HF11 := Lib.hid ((HT9.out.frm (Kept.refl w9).drew).trans hf); have HC11 : Hid ((fun W : World => W.cell? ⟨x0, 0, none⟩ = some (.pointer (some ⟨t.tb, 0, none⟩))) w11) := Lib.hid (HB9.out.frm HF11.out).1; clear hp ht hf)
      | (go_at_call 78; (with_reducible refine (HMK.out _ _ _ _ HT11.out HP11.out).mono ?_); rintro e w12 ⟨r12, N12, rfl, hp, ht, hf⟩; have HP12 := Lib.hid hp; have HT12 := Lib.hid ht; have HF12 := Lib.hid ((HF11.out).trans hf); have HC12 : Hid ((fun W : World => W.cell? ⟨x0, 0, none⟩ = some (.pointer (some ⟨t.tb, 0, none⟩))) w12) := Lib.hid (HB9.out.frm HF12.out).1; clear hp ht hf)
      | fail)
      all_goals
        go_wp2
        go_ret
        refine ⟨r12, N12, ?_, HP12.out, HT12.out, HF4.out.trans (HF9.out.trans HF12.out)⟩
        rfl
set_option maxRecDepth 100000 in
set_option maxHeartbeats 4000000 in
theorem zjoin_step (k : Nat) (ih : ∀ k2, k2 + 1 = k → ZJoin k2) : ZJoin k := by
  intro t N a b W h ha hb hk hl
  have hg := h.good
  have HT := Lib.hid h
  have base : ∀ (e : Ending) (w' : World) (r : Nat), Kept W w' → e = .returned (.int .i64 r) → r ≤ 1 + N.length → (min (zev N a) (zev N b) ≤ zev N r) → (∀ s, zm N r s = zjoin (zm N a) (zm N b) s) →
      GenPost t W (fun N' r => ZPut N (min (zev N a) (zev N b)) (zjoin (zm N a) (zm N b)) N' r ∧ N'.length ≤ N.length + zjc k (zct N a * zct N b)) e w' := fun e w' r hkp he hr hz hm => ⟨r, N, he, ⟨ZPut.of hg hr hz hm, by omega⟩, h.kept hkp, h.frm hkp⟩
  have HBASE := Lib.hid base
  obtain ⟨R, hR⟩ : ∃ R : List ZNode → Nat → Prop, R = fun N' r => ZPut N (min (zev N a) (zev N b)) (zjoin (zm N a) (zm N b)) N' r ∧ N'.length ≤ N.length + zjc k (zct N a * zct N b) := ⟨_, rfl⟩
  have HRR := Lib.hid hR
  rw [← hR] at HBASE ⊢
  clear base hR
  have hm0 : min (zev N a) (zev N b) ≤ zev N 0 := show _ ≤ 24 from Nat.le_trans (Nat.min_le_right _ _) (zev_le hg _)
  by_cases c1 : a = 0
  · have HB : Hid (0 ≤ 1 + N.length ∧ min (zev N a) (zev N b) ≤ zev N 0 ∧ ∀ s, zm N 0 s = zjoin (zm N a) (zm N b) s) := Lib.hid ⟨Nat.zero_le _, hm0, fun s => by
      rw [c1, zm_zero, Eq.comm, ← Bool.not_eq_true, zjoin_iff]
      rintro ⟨x, u, h1, _⟩
      rw [zm_zero] at h1; cases h1⟩
    have q1 : ((a : Int) == 0) = true := by rw [beq_iff_eq]; omega
    clear c1
    clear ih hg h hk hl ha hb hm0
    unfold ZT.val at *
    go_enter Try.func68, Try.ntmps68
    go_wp2_with fail
    go_ret
    exact HBASE.out _ _ 0 ((((Kept.refl _).alloc _).alloc _).alloc _) rfl HB.out.1 HB.out.2.1 HB.out.2.2
  have q1 : ((a : Int) == 0) = false := by rw [beq_eq_false_iff_ne]; omega
  by_cases c2 : b = 0
  · have HB : Hid (0 ≤ 1 + N.length ∧ min (zev N a) (zev N b) ≤ zev N 0 ∧ ∀ s, zm N 0 s = zjoin (zm N a) (zm N b) s) := Lib.hid ⟨Nat.zero_le _, hm0, fun s => by
      rw [c2, zm_zero, Eq.comm, ← Bool.not_eq_true, zjoin_iff]
      rintro ⟨x, u, _, h1, _⟩
      rw [zm_zero] at h1; cases h1⟩
    have q2 : ((b : Int) == 0) = true := by rw [beq_iff_eq]; omega
    clear c1 c2
    clear ih hg h hk hl ha hb hm0
    unfold ZT.val at *
    go_enter Try.func68, Try.ntmps68
    go_wp2_with fail
    go_ret
    exact HBASE.out _ _ 0 ((((Kept.refl _).alloc _).alloc _).alloc _) rfl HB.out.1 HB.out.2.1 HB.out.2.2
  have q2 : ((b : Int) == 0) = false := by rw [beq_eq_false_iff_ne]; omega
  by_cases c3 : a = 1
  · have HB : Hid (b ≤ 1 + N.length ∧ min (zev N a) (zev N b) ≤ zev N b ∧ ∀ s, zm N b s = zjoin (zm N a) (zm N b) s) := Lib.hid ⟨hb, Nat.min_le_right _ _, fun s => by
      rw [Bool.eq_iff_iff, zjoin_iff, c3]
      refine ⟨fun h => ⟨0, s, by rw [zm_one]; rfl, h, Nat.zero_or s⟩, ?_⟩
      rintro ⟨x, u, h1, h2, rfl⟩
      rw [zm_one, beq_iff_eq] at h1
      rw [h1, Nat.zero_or]; exact h2⟩
    have q3 : ((a : Int) == 1) = true := by rw [beq_iff_eq]; omega
    clear c1 c2 c3
    clear ih hg h hk hl ha hb hm0
    unfold ZT.val at *
    go_enter Try.func68, Try.ntmps68
    go_wp2_with fail
    go_ret
    exact HBASE.out _ _ b ((((Kept.refl _).alloc _).alloc _).alloc _) rfl HB.out.1 HB.out.2.1 HB.out.2.2
  have q3 : ((a : Int) == 1) = false := by rw [beq_eq_false_iff_ne]; omega
  by_cases c4 : b = 1
  · have HB : Hid (a ≤ 1 + N.length ∧ min (zev N a) (zev N b) ≤ zev N a ∧ ∀ s, zm N a s = zjoin (zm N a) (zm N b) s) := Lib.hid ⟨ha, Nat.min_le_left _ _, fun s => by
      rw [Bool.eq_iff_iff, zjoin_iff, c4]
      refine ⟨fun h => ⟨s, 0, h, by rw [zm_one]; rfl, Nat.or_zero s⟩, ?_⟩
      rintro ⟨x, u, h1, h2, rfl⟩
      rw [zm_one, beq_iff_eq] at h2
      rw [h2, Nat.or_zero]; exact h1⟩
    have q4 : ((b : Int) == 1) = true := by rw [beq_iff_eq]; omega
    clear c1 c2 c3 c4
    clear ih hg h hk hl ha hb hm0
    unfold ZT.val at *
    go_enter Try.func68, Try.ntmps68
    go_wp2_with fail
    go_ret
    exact HBASE.out _ _ a ((((Kept.refl _).alloc _).alloc _).alloc _) rfl HB.out.1 HB.out.2.1 HB.out.2.2
  have q4 : ((b : Int) == 1) = false := by rw [beq_eq_false_iff_ne]; omega
  have hv : min (zev N a) (zev N b) < 24 := by
    rcases Nat.lt_or_ge (min (zev N a) (zev N b)) 24 with h1 | h1
    · exact h1
    · exfalso
      have := zref_small hg ha (by omega)
      omega
  obtain ⟨k2, rfl⟩ : ∃ k2, k = k2 + 1 := ⟨k - 1, by omega⟩
  have hih := ih k2 rfl
  have hF : ∀ s, zsem N 106 a b s = zjoin (zm N a) (zm N b) s := fun s => by unfold zsem; simp
  have hp0 : 1 ≤ zct N a * zct N b := Nat.mul_pos (zct_pos hg a ha c1) (zct_pos hg b hb c2)
  have hR := HRR.out
  obtain ⟨W3, hW3⟩ : ∃ W3, W3 = ((W.alloc (.cells #[.pointer (some ⟨t.tb, 0, none⟩)] 64)).alloc (.cells #[.int .i64 a] 3)).alloc (.cells #[.int .i64 b] 3) := ⟨_, rfl⟩
  have HK3 : Hid (Kept W W3) := Lib.hid (by rw [hW3]; exact (((Kept.refl _).alloc _).alloc _).alloc _)
  have HC3 : Hid (W3.cell? ⟨W.heap.size, 0, none⟩ = some t.val ∧ W3.cell? ⟨W.heap.size + 1, 0, none⟩ = some (.int .i64 a) ∧ W3.cell? ⟨W.heap.size + 1 + 1, 0, none⟩ = some (.int .i64 b)) := Lib.hid (boxes3 hW3)
  have HW3 := Lib.hid hW3
  clear hW3
  have HREM : Hid (∀ (x0 x1 x2 : Nat) (W3 : World), Kept W W3 → W.heap.size ≤ x0 → W.heap.size ≤ x1 → W.heap.size ≤ x2 → W3.cell? ⟨x0, 0, none⟩ = some t.val → W3.cell? ⟨x1, 0, none⟩ = some (.int .i64 a) → W3.cell? ⟨x2, 0, none⟩ = some (.int .i64 b) →
      Calls Try.prog 74 #[t.val, .int .u8 106, .int .i64 a, .int .i64 b, .func (.func 93) #[] #[.pointer (some ⟨x0, 0, none⟩), .pointer (some ⟨x1, 0, none⟩), .pointer (some ⟨x2, 0, none⟩)]] W3 (GenPost t W R)) := Lib.hid fun x0 x1 x2 W3 hk3 l0 l1 l2 d0 d1 d2 => by
    have hT3 := h.kept hk3
    have hrem := zremember_any t 106 a b 93 #[.pointer (some ⟨x0, 0, none⟩), .pointer (some ⟨x1, 0, none⟩), .pointer (some ⟨x2, 0, none⟩)] (enters_of Try.func93 (by kernel_rfl) rfl) N W3 hT3 R
      (fun r hm => by
        rw [hR]
        have h9 := zmem_put3 hg (by decide) hF (fun s hs j hj => by
          obtain ⟨x, u, h1, h2, rfl⟩ := zjoin_iff.1 hs
          rw [Nat.testBit_or, Bool.or_eq_true] at hj
          rcases hj with hj | hj
          · exact Nat.le_trans (Nat.min_le_left _ _) (zm_low hg a ha x h1 j hj).1
          · exact Nat.le_trans (Nat.min_le_right _ _) (zm_low hg b hb u h2 j hj).1) (Nat.le_refl 1) hm
        exact ⟨h9.1, by omega⟩)
      (fun N' r hr => by rw [hR] at hr; exact zput_mem hg (by decide) ⟨ha, .inr (.inr hb)⟩ hF hr.1)
      (fun W4 hk4 => by
        rw [hR]
        exact zjoin1_any k2 hih t N a b x0 x1 x2 W4 (hT3.kept hk4) ha hb hk hv hp0 hl (h.box (hk3.trans hk4) l0 (hk4.cell d0)) (h.box (hk3.trans hk4) l1 (hk4.cell d1)) (h.box (hk3.trans hk4) l2 (hk4.cell d2)))
    refine hrem.mono ?_
    rintro e w' ⟨r, N', rfl, h1, h2, h3⟩
    exact ⟨r, N', rfl, h1, h2, (h.frm hk3).trans h3⟩
  clear hR hF hih ih hg h hk hl HBASE hv ha hb HRR hm0 c1 c2 c3 c4 hp0
  unfold ZT.val at *
  go_enter Try.func68, Try.ntmps68
  go_wp2_with fail
  rw [← HW3.out]
  refine (HREM.out W.heap.size (W.heap.size + 1) (W.heap.size + 1 + 1) W3 HK3.out (by omega) (by omega) (by omega) HC3.out.1 HC3.out.2.1 HC3.out.2.2).mono ?_
  rintro e w2 ⟨r, N', rfl, hr, ht, hf⟩
  have HR2 := Lib.hid hr
  have HT2 := Lib.hid ht
  have HF2 := Lib.hid hf
  clear hr ht hf
  go_wp2_with fail
  go_ret
  refine ⟨r, N', ?_, HR2.out, HT2.out, HF2.out⟩
  rfl
theorem zjoin_any : ∀ k, ZJoin k := by
  intro k
  induction k with
  | zero => exact zjoin_step 0 fun k h => absurd h (by omega)
  | succ k ih =>
    refine zjoin_step (k + 1) fun k2 h => ?_
    obtain rfl : k2 = k := by omega
    exact ih
end Go.Proofs.Ytiplibgnfcdlkaa
