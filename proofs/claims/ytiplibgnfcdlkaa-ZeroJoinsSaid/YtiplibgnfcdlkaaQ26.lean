import Derived.Test.YtiplibgnfcdlkaaQ25
/-
  Walk: the reference's node. Printed by gen_ZE2.py.
-/
namespace Go.Proofs.Ytiplibgnfcdlkaa
open Go.RowKit

set_option maxRecDepth 100000 in
set_option maxHeartbeats 8000000 in
theorem znode_any (v : Value) (L : List INode) (root : Int) (i : Nat) (W : World) (h : ZeroAt W v L root) (hi : i < L.length) (hle : L.length ≤ 4096) :
    Calls Try.prog 50 #[v, .int .i64 i] W fun e w' => e = .returned (.int .i64 (inErr L i : Nat)) ∧ Kept W w' := by
  obtain ⟨s, rfl, hL⟩ := h
  obtain ⟨a, c, rfl⟩ := hL.shape
  obtain ⟨n, hn⟩ : ∃ n, n = L.length := ⟨_, rfl⟩
  have hcap := hL.cap.1
  obtain ⟨b1, o1, rfl, p0, p1, p2⟩ := hL.read i hi
  rw [← hn] at hL hle hcap ⊢
  obtain ⟨Q, hQ⟩ : ∃ q, q = inErr L i := ⟨_, rfl⟩
  rw [← hQ]
  obtain ⟨w1, hw1⟩ : ∃ w1, w1 = W.alloc (.cells #[.slice (some ⟨b1, o1, none⟩) n c, .int .i64 root] 24) := ⟨_, rfl⟩
  have hk1 : Kept W w1 := by rw [hw1]; exact (Kept.refl _).alloc _
  have hx1 : RowAt w1 W.heap.size 24 [.slice (some ⟨b1, o1, none⟩) n c, .int .i64 root] := by rw [hw1]; exact RowAt.made W #[.slice (some ⟨b1, o1, none⟩) n c, .int .i64 root] 24
  have z0 := hx1.cell (i := 0) (by simp)
  simp only [List.getElem_cons_zero] at z0
  have r0 := hk1.cell p0
  have r1 := hk1.cell p1
  have r2 := hk1.cell p2
  obtain ⟨w4, hw4⟩ : ∃ w4, w4 = w1.alloc (.cells #[.int .i64 L[i].v, .int .i64 L[i].lo, .int .i64 L[i].hi] 63) := ⟨_, rfl⟩
  have hk4 : Kept w1 w4 := by rw [hw4]; exact (Kept.refl _).alloc _
  have hx4 : RowAt w4 w1.heap.size 63 [.int .i64 L[i].v, .int .i64 L[i].lo, .int .i64 L[i].hi] := by rw [hw4]; exact RowAt.made w1 #[.int .i64 L[i].v, .int .i64 L[i].lo, .int .i64 L[i].hi] 63
  have m0 := hx4.cell (i := 0) (by simp)
  have m1 := hx4.cell (i := 1) (by simp)
  have m2 := hx4.cell (i := 2) (by simp)
  simp only [List.getElem_cons_succ, List.getElem_cons_zero] at m0 m1 m2
  obtain ⟨x, hx⟩ : ∃ x, x = L[i] := ⟨_, rfl⟩
  have hix := inErr_index hi
  have hif := inErr_form hi
  have hio := inErr_order hi
  have hil := inErr_last hi
  rw [← hx, ← hQ] at hix hif hio hil
  rw [← hx] at r0 r1 r2 m0 m1 m2 hw4
  have HW1 := Lib.hid hw1
  have HW4 := Lib.hid hw4
  have HK1 := Lib.hid hk1
  have HK4 := Lib.hid (hk1.trans hk4)
  have HL := Lib.hid hL
  have HN := Lib.hid hn
  have zz := hk4.cell z0
  have HZZ := Lib.hid zz
  have HM := Lib.hid (And.intro m0 (And.intro m1 m2))
  obtain ⟨xv, xl, xh⟩ := x
  simp only at r0 r1 r2 m0 m1 m2 hix hif hio hil HM
  have HIX := Lib.hid hix
  have HIF := Lib.hid hif
  have HIO := Lib.hid hio
  have HIL := Lib.hid hil
  have ek1 : (i : Int) + 1 = ((i + 1 : Nat) : Int) := by omega
  obtain ⟨k1, hk1e⟩ : ∃ x, x = i + 1 := ⟨_, rfl⟩
  rw [← hk1e] at ek1
  have hk1b : k1 ≤ 5000 := by omega
  have HK1E := Lib.hid hk1e
  have hini : (i : Int) < (n : Int) := by omega
  have hi0 : (0 : Int) ≤ (i : Int) := by omega
  have hib : i ≤ 4096 := by omega
  clear hk1e hix hif hio hil hw1 hw4 hx1 hx4 hk1 hk4 hx p0 p1 p2 hL hQ hn hi
  go_enter Try.func50, Try.ntmps50
  go_upto_region 1 with fail
  rw [← HW1.out]
  go_upto_region 2 with fail
  rw [← HW4.out]
  clear r0 r1 r2 z0
  by_cases hbad : xv < 0 ∨ 24 ≤ xv ∨ xl < 0 ∨ (i : Int) + 1 < xl ∨ xh < 0 ∨ (i : Int) + 1 < xh
  · have HE : Hid (Q = 10) := Lib.hid (HIX.out hbad)
    have hcases : xv < 0 ∨ (¬ xv < 0 ∧ 24 ≤ xv) ∨ (¬ xv < 0 ∧ ¬ 24 ≤ xv ∧ xl < 0) ∨ (¬ xv < 0 ∧ ¬ 24 ≤ xv ∧ ¬ xl < 0 ∧ (k1 : Int) < xl) ∨ (¬ xv < 0 ∧ ¬ 24 ≤ xv ∧ ¬ xl < 0 ∧ ¬ (k1 : Int) < xl ∧ xh < 0) ∨ (¬ xv < 0 ∧ ¬ 24 ≤ xv ∧ ¬ xl < 0 ∧ ¬ (k1 : Int) < xl ∧ ¬ xh < 0 ∧ (k1 : Int) < xh) := by have := HK1E.out; omega
    clear hbad
    rcases hcases with q1 | ⟨q1, q2⟩ | ⟨q1, q2, q3⟩ | ⟨q1, q2, q3, q4⟩ | ⟨q1, q2, q3, q4, q5⟩ | ⟨q1, q2, q3, q4, q5, q6⟩
    all_goals
      go_wp2_with fail
      go_ret
      exact ⟨by rw [HE.out]; rfl, HK4.out⟩
  have HNB := Lib.hid hbad
  have q1 : ¬ xv < 0 := by omega
  have q2 : ¬ 24 ≤ xv := by omega
  have q3 : ¬ xl < 0 := by omega
  have q4 : ¬ (k1 : Int) < xl := by have := HK1E.out; omega
  have q5 : ¬ xh < 0 := by omega
  have q6 : ¬ (k1 : Int) < xh := by have := HK1E.out; omega
  have HB : Hid (0 ≤ xv ∧ xv < 24 ∧ 0 ≤ xl ∧ xl ≤ (i : Int) + 1 ∧ 0 ≤ xh ∧ xh ≤ (i : Int) + 1) := Lib.hid (by omega)
  clear hbad
  by_cases hz : xh = 0
  · have HE : Hid (Q = 2) := Lib.hid (HIF.out HNB.out hz)
    have hzi : (xh == 0) = true := by rw [beq_iff_eq]; exact hz
    clear hz
    go_wp2_with fail
    go_ret
    exact ⟨by rw [HE.out]; rfl, HK4.out⟩
  have hzi : (xh == 0) = false := beq_eq_false_iff_ne.2 hz
  have HZN := Lib.hid hz
  clear hz
  go_upto_region 6 with fail
  clear q1 q2 q3 q4 q5 q6 hzi
  have hread : ∀ y : Int, 1 < y → y ≤ (i : Int) + 1 → ∃ j : Nat, y - 2 = (j : Int) ∧ (j : Int) < (n : Int) ∧ IntKind.i64.wrap (j : Int) = (j : Int) ∧ w4.cell? ⟨b1, o1 + j * 3, none⟩ = some (.int .i64 (L.getD (y - 2).toNat default).v) := fun y h1 h2 => by
    refine ⟨(y - 2).toNat, by omega, by omega, by rw [IntKind.wrap_i64]; omega, ?_⟩
    have hj : (y - 2).toNat < L.length := by have := HN.out; omega
    obtain ⟨b9, o9, e9, p9, _, _⟩ := (HL.out.kept HK4.out).read (y - 2).toNat hj
    cases e9
    rw [getD_at hj]
    exact p9
  have HREAD := Lib.hid hread
  clear hread
  by_cases hl2 : 1 < xl
  · obtain ⟨j1, e1, e2, e3, c1⟩ := HREAD.out xl hl2 HB.out.2.2.2.1
    obtain ⟨yv1, hy1⟩ : ∃ y, y = (L.getD (xl - 2).toNat default).v := ⟨_, rfl⟩
    rw [← hy1] at c1
    have g1 : decide (1 < xl) = true := decide_eq_true hl2
    have j10 : (0 : Int) ≤ (j1 : Int) := by omega
    by_cases hb1 : yv1 ≤ xv
    · have HE : Hid (Q = 13) := Lib.hid (HIO.out HNB.out HZN.out (.inl ⟨hl2, by rw [← hy1]; exact hb1⟩))
      have g2 : decide (yv1 ≤ xv) = true := decide_eq_true hb1
      clear hl2 hb1 hy1
      go_quiet (fail)
      go_wp2_with fail
      go_ret
      exact ⟨by rw [HE.out]; rfl, HK4.out.drewN _⟩
    · have HO1 : Hid (¬ (1 < xl ∧ (L.getD (xl - 2).toNat default).v ≤ xv)) := Lib.hid (fun h => hb1 (by rw [hy1]; exact h.2))
      have g2 : decide (yv1 ≤ xv) = false := decide_eq_false hb1
      clear hl2 hb1 hy1
      by_cases hh2 : 1 < xh
      · obtain ⟨j2, f1, f2, f3, c2⟩ := HREAD.out xh hh2 HB.out.2.2.2.2.2
        obtain ⟨yv2, hy2⟩ : ∃ y, y = (L.getD (xh - 2).toNat default).v := ⟨_, rfl⟩
        rw [← hy2] at c2
        have g3 : decide (1 < xh) = true := decide_eq_true hh2
        have j20 : (0 : Int) ≤ (j2 : Int) := by omega
        by_cases hb2 : yv2 ≤ xv
        · have HE : Hid (Q = 13) := Lib.hid (HIO.out HNB.out HZN.out (.inr ⟨hh2, by rw [← hy2]; exact hb2⟩))
          have g4 : decide (yv2 ≤ xv) = true := decide_eq_true hb2
          clear hh2 hb2 hy2
          go_quiet (fail)
          go_wp2_with fail
          go_ret
          exact ⟨by rw [HE.out]; rfl, HK4.out.drewN _⟩
        · have HO2 : Hid (¬ (1 < xh ∧ (L.getD (xh - 2).toNat default).v ≤ xv)) := Lib.hid (fun h => hb2 (by rw [hy2]; exact h.2))
          have g4 : decide (yv2 ≤ xv) = false := decide_eq_false hb2
          clear hh2 hb2 hy2
          go_quiet (fail)
          have HQ6 := Lib.hid (HIL.out HNB.out HZN.out (fun h => h.elim HO1.out HO2.out))
          obtain ⟨w5, hw5⟩ : ∃ w5, w5 = w4.drewN nq := ⟨_, rfl⟩
          have hk5 : Kept w4 w5 := by rw [hw5]; exact (Kept.refl _).drewN _
          have HK5 := Lib.hid hk5
          have HK15 := Lib.hid (HK4.out.trans hk5)
          rw [← hw5]
          clear hw5 hk5
          go_wp2_with fail
          go_loopg [6] i (fun kx s6 wr => ∃ k : Nat, s6 = .int .i64 k ∧ k ≤ i ∧ i - k ≤ kx ∧ Hid ((⟨xv, xl, xh⟩ : INode) ∉ L.take k) ∧ Hid (Kept w5 wr))
          case atStart => exact ⟨0, by first | rfl | go_num, Nat.zero_le _, by omega, Lib.hid (by simp), Lib.hid (Kept.refl _)⟩
          case round =>
            obtain ⟨k, rfl, hk, hkx, HT, HKr⟩ := hrel
            obtain ⟨wi, rfl⟩ : ∃ wi : World, wi = wr := ⟨_, rfl⟩
            by_cases hlt : k < i
            · have hlti : (k : Int) < (i : Int) := by omega
              have hkn : (k : Int) < (n : Int) := by omega
              have hk0 : (0 : Int) ≤ (k : Int) := by omega
              have hkb : k ≤ 4096 := by omega
              have hkL : k < L.length := by rw [← HN.out]; omega
              have kk := HK5.out.trans HKr.out
              have y0 := kk.drew.cell HZZ.out
              have y1 := kk.drew.cell HM.out.1
              have y2 := kk.drew.cell HM.out.2.1
              have y3 := kk.drew.cell HM.out.2.2
              have z1 := kk.cell HZZ.out
              obtain ⟨b9, o9, e9, u0, u1, u2⟩ := (HL.out.kept (HK15.out.trans HKr.out.drew)).read k hkL
              cases e9
              obtain ⟨y, hy⟩ : ∃ y, y = L[k] := ⟨_, rfl⟩
              rw [← hy] at u0 u1 u2
              by_cases hxy : y = ⟨xv, xl, xh⟩
              · have HE : Hid (Q = 6) := Lib.hid (by
                  rw [HQ6.out, if_pos]
                  rw [← hxy, hy]
                  exact List.mem_take_iff_getElem.2 ⟨k, by omega, rfl⟩)
                subst hxy
                simp only at u0 u1 u2
                clear hy hkL kk
                go_upto_region 11 with fail
                go_region
                all_goals
                  go_wp2_with fail
                  go_ret
                  exact ⟨by rw [HE.out]; rfl, HK15.out.trans HKr.out.drew⟩
              · have HT2 : Hid ((⟨xv, xl, xh⟩ : INode) ∉ L.take (k + 1)) := Lib.hid (by
                  rw [List.take_succ_eq_append_getElem hkL]
                  intro h
                  rcases List.mem_append.1 h with h | h
                  · exact HT.out h
                  · rw [List.mem_singleton] at h; exact hxy (by rw [hy, h]))
                obtain ⟨yv, yl, yh⟩ := y
                have hne := node_ne hxy
                simp only at u0 u1 u2 hne
                clear hy hkL kk hxy
                rcases hne with b0 | ⟨rfl, b0⟩ | ⟨rfl, rfl, b0⟩
                all_goals
                  go_upto_region 11 with fail
                  go_region
                  all_goals
                    go_wp2_with fail
                    go_roundg (i - (k + 1))
                    case measure => omega
                    case rel => exact ⟨k + 1, by go_num, by omega, Nat.le_refl _, HT2, Lib.hid HKr.out.drew⟩
            · have hlti : ¬ (k : Int) < (i : Int) := by omega
              have HE : Hid (Q = 0) := Lib.hid (by
                rw [HQ6.out, if_neg]
                have h := HT.out
                rwa [show k = i by omega] at h)
              go_wp2_with fail
              go_ret
              exact ⟨by rw [HE.out]; rfl, HK15.out.trans HKr.out⟩
      · have HO2 : Hid (¬ (1 < xh ∧ (L.getD (xh - 2).toNat default).v ≤ xv)) := Lib.hid (fun h => hh2 h.1)
        have g3 : decide (1 < xh) = false := decide_eq_false hh2
        clear hh2
        go_quiet (fail)
        have HQ6 := Lib.hid (HIL.out HNB.out HZN.out (fun h => h.elim HO1.out HO2.out))
        obtain ⟨w5, hw5⟩ : ∃ w5, w5 = w4.drewN nq := ⟨_, rfl⟩
        have hk5 : Kept w4 w5 := by rw [hw5]; exact (Kept.refl _).drewN _
        have HK5 := Lib.hid hk5
        have HK15 := Lib.hid (HK4.out.trans hk5)
        rw [← hw5]
        clear hw5 hk5
        go_wp2_with fail
        go_loopg [6] i (fun kx s6 wr => ∃ k : Nat, s6 = .int .i64 k ∧ k ≤ i ∧ i - k ≤ kx ∧ Hid ((⟨xv, xl, xh⟩ : INode) ∉ L.take k) ∧ Hid (Kept w5 wr))
        case atStart => exact ⟨0, by first | rfl | go_num, Nat.zero_le _, by omega, Lib.hid (by simp), Lib.hid (Kept.refl _)⟩
        case round =>
          obtain ⟨k, rfl, hk, hkx, HT, HKr⟩ := hrel
          obtain ⟨wi, rfl⟩ : ∃ wi : World, wi = wr := ⟨_, rfl⟩
          by_cases hlt : k < i
          · have hlti : (k : Int) < (i : Int) := by omega
            have hkn : (k : Int) < (n : Int) := by omega
            have hk0 : (0 : Int) ≤ (k : Int) := by omega
            have hkb : k ≤ 4096 := by omega
            have hkL : k < L.length := by rw [← HN.out]; omega
            have kk := HK5.out.trans HKr.out
            have y0 := kk.drew.cell HZZ.out
            have y1 := kk.drew.cell HM.out.1
            have y2 := kk.drew.cell HM.out.2.1
            have y3 := kk.drew.cell HM.out.2.2
            have z1 := kk.cell HZZ.out
            obtain ⟨b9, o9, e9, u0, u1, u2⟩ := (HL.out.kept (HK15.out.trans HKr.out.drew)).read k hkL
            cases e9
            obtain ⟨y, hy⟩ : ∃ y, y = L[k] := ⟨_, rfl⟩
            rw [← hy] at u0 u1 u2
            by_cases hxy : y = ⟨xv, xl, xh⟩
            · have HE : Hid (Q = 6) := Lib.hid (by
                rw [HQ6.out, if_pos]
                rw [← hxy, hy]
                exact List.mem_take_iff_getElem.2 ⟨k, by omega, rfl⟩)
              subst hxy
              simp only at u0 u1 u2
              clear hy hkL kk
              go_upto_region 11 with fail
              go_region
              all_goals
                go_wp2_with fail
                go_ret
                exact ⟨by rw [HE.out]; rfl, HK15.out.trans HKr.out.drew⟩
            · have HT2 : Hid ((⟨xv, xl, xh⟩ : INode) ∉ L.take (k + 1)) := Lib.hid (by
                rw [List.take_succ_eq_append_getElem hkL]
                intro h
                rcases List.mem_append.1 h with h | h
                · exact HT.out h
                · rw [List.mem_singleton] at h; exact hxy (by rw [hy, h]))
              obtain ⟨yv, yl, yh⟩ := y
              have hne := node_ne hxy
              simp only at u0 u1 u2 hne
              clear hy hkL kk hxy
              rcases hne with b0 | ⟨rfl, b0⟩ | ⟨rfl, rfl, b0⟩
              all_goals
                go_upto_region 11 with fail
                go_region
                all_goals
                  go_wp2_with fail
                  go_roundg (i - (k + 1))
                  case measure => omega
                  case rel => exact ⟨k + 1, by go_num, by omega, Nat.le_refl _, HT2, Lib.hid HKr.out.drew⟩
          · have hlti : ¬ (k : Int) < (i : Int) := by omega
            have HE : Hid (Q = 0) := Lib.hid (by
              rw [HQ6.out, if_neg]
              have h := HT.out
              rwa [show k = i by omega] at h)
            go_wp2_with fail
            go_ret
            exact ⟨by rw [HE.out]; rfl, HK15.out.trans HKr.out⟩
  · have HO1 : Hid (¬ (1 < xl ∧ (L.getD (xl - 2).toNat default).v ≤ xv)) := Lib.hid (fun h => hl2 h.1)
    have g1 : decide (1 < xl) = false := decide_eq_false hl2
    clear hl2
    by_cases hh2 : 1 < xh
    · obtain ⟨j2, f1, f2, f3, c2⟩ := HREAD.out xh hh2 HB.out.2.2.2.2.2
      obtain ⟨yv2, hy2⟩ : ∃ y, y = (L.getD (xh - 2).toNat default).v := ⟨_, rfl⟩
      rw [← hy2] at c2
      have g3 : decide (1 < xh) = true := decide_eq_true hh2
      have j20 : (0 : Int) ≤ (j2 : Int) := by omega
      by_cases hb2 : yv2 ≤ xv
      · have HE : Hid (Q = 13) := Lib.hid (HIO.out HNB.out HZN.out (.inr ⟨hh2, by rw [← hy2]; exact hb2⟩))
        have g4 : decide (yv2 ≤ xv) = true := decide_eq_true hb2
        clear hh2 hb2 hy2
        go_quiet (fail)
        go_wp2_with fail
        go_ret
        exact ⟨by rw [HE.out]; rfl, HK4.out.drewN _⟩
      · have HO2 : Hid (¬ (1 < xh ∧ (L.getD (xh - 2).toNat default).v ≤ xv)) := Lib.hid (fun h => hb2 (by rw [hy2]; exact h.2))
        have g4 : decide (yv2 ≤ xv) = false := decide_eq_false hb2
        clear hh2 hb2 hy2
        go_quiet (fail)
        have HQ6 := Lib.hid (HIL.out HNB.out HZN.out (fun h => h.elim HO1.out HO2.out))
        obtain ⟨w5, hw5⟩ : ∃ w5, w5 = w4.drewN nq := ⟨_, rfl⟩
        have hk5 : Kept w4 w5 := by rw [hw5]; exact (Kept.refl _).drewN _
        have HK5 := Lib.hid hk5
        have HK15 := Lib.hid (HK4.out.trans hk5)
        rw [← hw5]
        clear hw5 hk5
        go_wp2_with fail
        go_loopg [6] i (fun kx s6 wr => ∃ k : Nat, s6 = .int .i64 k ∧ k ≤ i ∧ i - k ≤ kx ∧ Hid ((⟨xv, xl, xh⟩ : INode) ∉ L.take k) ∧ Hid (Kept w5 wr))
        case atStart => exact ⟨0, by first | rfl | go_num, Nat.zero_le _, by omega, Lib.hid (by simp), Lib.hid (Kept.refl _)⟩
        case round =>
          obtain ⟨k, rfl, hk, hkx, HT, HKr⟩ := hrel
          obtain ⟨wi, rfl⟩ : ∃ wi : World, wi = wr := ⟨_, rfl⟩
          by_cases hlt : k < i
          · have hlti : (k : Int) < (i : Int) := by omega
            have hkn : (k : Int) < (n : Int) := by omega
            have hk0 : (0 : Int) ≤ (k : Int) := by omega
            have hkb : k ≤ 4096 := by omega
            have hkL : k < L.length := by rw [← HN.out]; omega
            have kk := HK5.out.trans HKr.out
            have y0 := kk.drew.cell HZZ.out
            have y1 := kk.drew.cell HM.out.1
            have y2 := kk.drew.cell HM.out.2.1
            have y3 := kk.drew.cell HM.out.2.2
            have z1 := kk.cell HZZ.out
            obtain ⟨b9, o9, e9, u0, u1, u2⟩ := (HL.out.kept (HK15.out.trans HKr.out.drew)).read k hkL
            cases e9
            obtain ⟨y, hy⟩ : ∃ y, y = L[k] := ⟨_, rfl⟩
            rw [← hy] at u0 u1 u2
            by_cases hxy : y = ⟨xv, xl, xh⟩
            · have HE : Hid (Q = 6) := Lib.hid (by
                rw [HQ6.out, if_pos]
                rw [← hxy, hy]
                exact List.mem_take_iff_getElem.2 ⟨k, by omega, rfl⟩)
              subst hxy
              simp only at u0 u1 u2
              clear hy hkL kk
              go_upto_region 11 with fail
              go_region
              all_goals
                go_wp2_with fail
                go_ret
                exact ⟨by rw [HE.out]; rfl, HK15.out.trans HKr.out.drew⟩
            · have HT2 : Hid ((⟨xv, xl, xh⟩ : INode) ∉ L.take (k + 1)) := Lib.hid (by
                rw [List.take_succ_eq_append_getElem hkL]
                intro h
                rcases List.mem_append.1 h with h | h
                · exact HT.out h
                · rw [List.mem_singleton] at h; exact hxy (by rw [hy, h]))
              obtain ⟨yv, yl, yh⟩ := y
              have hne := node_ne hxy
              simp only at u0 u1 u2 hne
              clear hy hkL kk hxy
              rcases hne with b0 | ⟨rfl, b0⟩ | ⟨rfl, rfl, b0⟩
              all_goals
                go_upto_region 11 with fail
                go_region
                all_goals
                  go_wp2_with fail
                  go_roundg (i - (k + 1))
                  case measure => omega
                  case rel => exact ⟨k + 1, by go_num, by omega, Nat.le_refl _, HT2, Lib.hid HKr.out.drew⟩
          · have hlti : ¬ (k : Int) < (i : Int) := by omega
            have HE : Hid (Q = 0) := Lib.hid (by
              rw [HQ6.out, if_neg]
              have h := HT.out
              rwa [show k = i by omega] at h)
            go_wp2_with fail
            go_ret
            exact ⟨by rw [HE.out]; rfl, HK15.out.trans HKr.out⟩
    · have HO2 : Hid (¬ (1 < xh ∧ (L.getD (xh - 2).toNat default).v ≤ xv)) := Lib.hid (fun h => hh2 h.1)
      have g3 : decide (1 < xh) = false := decide_eq_false hh2
      clear hh2
      go_quiet (fail)
      have HQ6 := Lib.hid (HIL.out HNB.out HZN.out (fun h => h.elim HO1.out HO2.out))
      obtain ⟨w5, hw5⟩ : ∃ w5, w5 = w4.drewN nq := ⟨_, rfl⟩
      have hk5 : Kept w4 w5 := by rw [hw5]; exact (Kept.refl _).drewN _
      have HK5 := Lib.hid hk5
      have HK15 := Lib.hid (HK4.out.trans hk5)
      rw [← hw5]
      clear hw5 hk5
      go_wp2_with fail
      go_loopg [6] i (fun kx s6 wr => ∃ k : Nat, s6 = .int .i64 k ∧ k ≤ i ∧ i - k ≤ kx ∧ Hid ((⟨xv, xl, xh⟩ : INode) ∉ L.take k) ∧ Hid (Kept w5 wr))
      case atStart => exact ⟨0, by first | rfl | go_num, Nat.zero_le _, by omega, Lib.hid (by simp), Lib.hid (Kept.refl _)⟩
      case round =>
        obtain ⟨k, rfl, hk, hkx, HT, HKr⟩ := hrel
        obtain ⟨wi, rfl⟩ : ∃ wi : World, wi = wr := ⟨_, rfl⟩
        by_cases hlt : k < i
        · have hlti : (k : Int) < (i : Int) := by omega
          have hkn : (k : Int) < (n : Int) := by omega
          have hk0 : (0 : Int) ≤ (k : Int) := by omega
          have hkb : k ≤ 4096 := by omega
          have hkL : k < L.length := by rw [← HN.out]; omega
          have kk := HK5.out.trans HKr.out
          have y0 := kk.drew.cell HZZ.out
          have y1 := kk.drew.cell HM.out.1
          have y2 := kk.drew.cell HM.out.2.1
          have y3 := kk.drew.cell HM.out.2.2
          have z1 := kk.cell HZZ.out
          obtain ⟨b9, o9, e9, u0, u1, u2⟩ := (HL.out.kept (HK15.out.trans HKr.out.drew)).read k hkL
          cases e9
          obtain ⟨y, hy⟩ : ∃ y, y = L[k] := ⟨_, rfl⟩
          rw [← hy] at u0 u1 u2
          by_cases hxy : y = ⟨xv, xl, xh⟩
          · have HE : Hid (Q = 6) := Lib.hid (by
              rw [HQ6.out, if_pos]
              rw [← hxy, hy]
              exact List.mem_take_iff_getElem.2 ⟨k, by omega, rfl⟩)
            subst hxy
            simp only at u0 u1 u2
            clear hy hkL kk
            go_upto_region 11 with fail
            go_region
            all_goals
              go_wp2_with fail
              go_ret
              exact ⟨by rw [HE.out]; rfl, HK15.out.trans HKr.out.drew⟩
          · have HT2 : Hid ((⟨xv, xl, xh⟩ : INode) ∉ L.take (k + 1)) := Lib.hid (by
              rw [List.take_succ_eq_append_getElem hkL]
              intro h
              rcases List.mem_append.1 h with h | h
              · exact HT.out h
              · rw [List.mem_singleton] at h; exact hxy (by rw [hy, h]))
            obtain ⟨yv, yl, yh⟩ := y
            have hne := node_ne hxy
            simp only at u0 u1 u2 hne
            clear hy hkL kk hxy
            rcases hne with b0 | ⟨rfl, b0⟩ | ⟨rfl, rfl, b0⟩
            all_goals
              go_upto_region 11 with fail
              go_region
              all_goals
                go_wp2_with fail
                go_roundg (i - (k + 1))
                case measure => omega
                case rel => exact ⟨k + 1, by go_num, by omega, Nat.le_refl _, HT2, Lib.hid HKr.out.drew⟩
        · have hlti : ¬ (k : Int) < (i : Int) := by omega
          have HE : Hid (Q = 0) := Lib.hid (by
            rw [HQ6.out, if_neg]
            have h := HT.out
            rwa [show k = i by omega] at h)
          go_wp2_with fail
          go_ret
          exact ⟨by rw [HE.out]; rfl, HK15.out.trans HKr.out⟩
end Go.Proofs.Ytiplibgnfcdlkaa

/-
  Walk: the reference's Check.
-/
namespace Go.Proofs.Ytiplibgnfcdlkaa
open Go.RowKit

theorem natI_inj : ∀ {a b : List Nat}, natI a = natI b → a = b
  | [], [], _ => rfl
  | [], _ :: _, h => by simp [natI] at h
  | _ :: _, [], h => by simp [natI] at h
  | x :: a, y :: b, h => by
    unfold natI at h
    rw [List.map_cons, List.map_cons, List.cons.injEq] at h
    rw [natI_inj (a := a) (b := b) h.2, show x = y by omega]
set_option maxRecDepth 100000 in
set_option maxHeartbeats 8000000 in
theorem zrchk_any (v : Value) (L : List INode) (root : Int) (W : World) (h : ZeroAt W v L root) :
    Calls Try.prog 15 #[v] W fun e w' => e = .returned (.int .i64 (zchk L root : Nat)) ∧ Kept W w' := by
  have hz0 := h
  obtain ⟨s, rfl, hL⟩ := h
  obtain ⟨a, c, rfl⟩ := hL.shape
  obtain ⟨n, hn⟩ : ∃ n, n = L.length := ⟨_, rfl⟩
  have hle := hL.le
  have hcap := hL.cap.1
  rw [← hn] at hL hle hcap hz0 ⊢
  obtain ⟨Q, hQ⟩ : ∃ q, q = zchk L root := ⟨_, rfl⟩
  rw [← hQ]
  obtain ⟨w1, hw1⟩ : ∃ w1, w1 = W.alloc (.cells #[.slice a n c, .int .i64 root] 24) := ⟨_, rfl⟩
  have hk1 : Kept W w1 := by rw [hw1]; exact (Kept.refl _).alloc _
  have hx1 : RowAt w1 W.heap.size 24 [.slice a n c, .int .i64 root] := by rw [hw1]; exact RowAt.made W #[.slice a n c, .int .i64 root] 24
  have z0 := hx1.cell (i := 0) (by simp)
  have z1 := hx1.cell (i := 1) (by simp)
  simp only [List.getElem_cons_succ, List.getElem_cons_zero] at z0 z1
  have HL := Lib.hid hL
  have HZA := Lib.hid hz0
  have HN := Lib.hid hn
  have HQ := Lib.hid hQ
  have HW1 := Lib.hid hw1
  have HK1 := Lib.hid hk1
  have HZ0 := Lib.hid z0
  have HZ1 := Lib.hid z1
  by_cases hbig : 4096 < n
  · have hbi : (4096 : Int) < (n : Int) := by omega
    have HE : Hid (Q = 4) := Lib.hid (by rw [hQ]; unfold zchk; rw [if_pos (by omega)])
    clear hL hn hQ hw1 hk1 hx1 hz0
    go_enter Try.func15, Try.ntmps15
    go_upto_region 1 with fail
    rw [← HW1.out]
    go_wp2_with fail
    go_ret
    exact ⟨by rw [HE.out]; rfl, HK1.out⟩
  have hbi : ¬ (4096 : Int) < (n : Int) := by omega
  have hn4 : n ≤ 4096 := by omega
  have HLE : Hid (L.length ≤ 4096) := Lib.hid (by omega)
  clear hL hn hQ hw1 hk1 hx1 hbig hz0
  go_enter Try.func15, Try.ntmps15
  go_upto_region 1 with fail
  rw [← HW1.out]
  go_wp2_with fail
  clear z0 z1
  go_loopg [3, 4] n (fun kx s3 s4 wr => ∃ k : Nat, s3 = .int .i64 k ∧ k ≤ n ∧ n - k ≤ kx ∧ Hid (inFst L k = 0) ∧ Hid (Kept w1 wr))
  case atStart => exact ⟨0, by first | rfl | go_num, Nat.zero_le _, by omega, Lib.hid rfl, Lib.hid (Kept.refl _)⟩
  case round =>
    obtain ⟨k, rfl, hk, hkx, HT, HKr⟩ := hrel
    obtain ⟨wi, rfl⟩ : ∃ wi : World, wi = wr := ⟨_, rfl⟩
    have y0 := HKr.out.cell HZ0.out
    have y1 := HKr.out.cell HZ1.out
    by_cases hlt : k < n
    · have hlti : (k : Int) < (n : Int) := by omega
      have hk0 : (0 : Int) ≤ (k : Int) := by omega
      have hkL : k < L.length := by rw [← HN.out]; exact hlt
      obtain ⟨c', hc'⟩ : ∃ c', c' = inErr L k := ⟨_, rfl⟩
      have HND : Hid (Calls Try.prog 50 #[.agg #[.slice a n c, .int .i64 root], .int .i64 (k : Nat)] wi fun e w' => e = .returned (.int .i64 (c' : Nat)) ∧ Kept wi w') := Lib.hid (by rw [hc']; exact znode_any _ L root k wi (HZA.out.kept (HK1.out.trans HKr.out)) hkL HLE.out)
      by_cases hcz : c' = 0
      · subst hcz
        have HT2 : Hid (inFst L (k + 1) = 0) := Lib.hid (by rw [inFst, if_pos HT.out, ← hc'])
        clear hc' hkL
        go_wp2_with fail
        refine HND.out.mono ?_
        rintro e w3 ⟨rfl, hk3⟩
        have HK3 := Lib.hid (HKr.out.trans hk3)
        clear hk3 y0 y1
        go_wp2_with fail
        go_roundg (n - (k + 1))
        case measure => omega
        case rel => exact ⟨k + 1, by go_num, by omega, Nat.le_refl _, HT2, HK3⟩
      · have HE : Hid (Q = c') := Lib.hid (by rw [HQ.out]; exact zchk_err HLE.out HT.out hc'.symm hcz hkL)
        have hcb : ((c' : Int) == 0) = false := beq_eq_false_iff_ne.2 (by omega)
        clear hc' hkL
        go_wp2_with fail
        refine HND.out.mono ?_
        rintro e w3 ⟨rfl, hk3⟩
        have HK3 := Lib.hid (HKr.out.trans hk3)
        clear hk3 y0 y1
        go_wp2_with fail
        go_ret
        exact ⟨by rw [HE.out]; rfl, HK1.out.trans HK3.out⟩
    · have hlti : ¬ (k : Int) < (n : Int) := by omega
      have hke : k = n := by omega
      have hf : inFst L L.length = 0 := by rw [← HN.out, ← hke]; exact HT.out
      obtain ⟨hg, hLM⟩ := inFst_good hf
      obtain ⟨M, hM⟩ : ∃ M, M = L.map zo := ⟨_, rfl⟩
      rw [← hM] at hg hLM
      have hml : M.length = n := by rw [hM, List.length_map, HN.out]
      have HG := Lib.hid hg
      have HLM := Lib.hid hLM
      have HML := Lib.hid hml
      have HKW := Lib.hid (HK1.out.trans HKr.out)
      have HQ1 : Hid (Q = if root < 0 ∨ (n : Int) + 1 < root then 10 else if znum M root.toNat root.toNat [] = List.range' 2 M.length then 0 else 2) := Lib.hid (by
        rw [HQ.out]; unfold zchk
        have := HLE.out
        rw [if_neg (by omega), if_neg (by rw [hf]; exact fun h => h rfl), ← HN.out, ← hM, hml])
      have en1 : (1 : Int) + (n : Int) = ((1 + n : Nat) : Int) := by omega
      obtain ⟨n1, hn1⟩ : ∃ x, x = 1 + n := ⟨_, rfl⟩
      rw [← hn1] at en1
      have hn1b : n1 ≤ 5000 := by omega
      have HN1 := Lib.hid hn1
      clear hf hg hLM hM hml hn1 hke hlt
      by_cases hr0 : root < 0
      · have HE : Hid (Q = 10) := Lib.hid (by rw [HQ1.out, if_pos (.inl hr0)])
        go_wp2_with fail
        go_ret
        exact ⟨by rw [HE.out]; rfl, HKW.out⟩
      by_cases hr1 : (n1 : Int) < root
      · have HE : Hid (Q = 10) := Lib.hid (by rw [HQ1.out, if_pos (.inr (by have := HN1.out; omega))])
        go_wp2_with fail
        go_ret
        exact ⟨by rw [HE.out]; rfl, HKW.out⟩
      obtain ⟨rt, rfl⟩ : ∃ r : Nat, root = (r : Int) := ⟨root.toNat, by omega⟩
      have HRT : Hid (rt ≤ 1 + M.length) := Lib.hid (by have := HN1.out; have := HML.out; omega)
      obtain ⟨l, hl⟩ : ∃ l, l = znum M rt rt [] := ⟨_, rfl⟩
      have HQ2 : Hid (Q = if l = List.range' 2 n then 0 else 2) := Lib.hid (by
        rw [HQ1.out, if_neg (by have := HN1.out; omega), Int.toNat_natCast, hl, HML.out])
      have HNB : Hid (Calls Try.prog 51 #[.agg #[.slice a n c, .int .i64 (rt : Nat)], .int .i64 (rt : Nat), .slice none 0 0] wi fun e w' => ∃ v', e = .returned v' ∧ IntsAt w' v' (natI l) ∧ Kept wi w') := Lib.hid (by
        have hza : ZeroAt wi (.agg #[.slice a n c, .int .i64 (rt : Nat)]) (M.map zi) (rt : Nat) := by rw [← HLM.out]; exact HZA.out.kept HKW.out
        refine (znumber_any HG.out wi _ _ hza (by have := HML.out; omega) rt HRT.out wi _ ([], []) (Kept.refl _) (fun k e => by cases e) (OwnInts.nil _ _) (ZSt.start _)).mono ?_
        rintro e w' ⟨v', rfl, h1, h2⟩
        rw [zwalk_num, ← hl] at h1
        exact ⟨v', rfl, h1.ints, h2.toKept (Kept.refl _) (fun k e => by cases e)⟩)
      clear hl
      go_upto_region 11 with fail
      go_wp2_with fail
      refine HNB.out.mono ?_
      rintro e w3 ⟨v', rfl, hi3, hk3⟩
      have x0 := hk3.cell y0
      have HK3 := Lib.hid (HKW.out.trans hk3)
      obtain ⟨a3, c3, rfl, ⟨hc3, hcn3⟩, hl3, hx3⟩ := hi3
      have HX3 := Lib.hid hx3
      obtain ⟨m, hm⟩ : ∃ m, m = (natI l).length := ⟨_, rfl⟩
      have hml : m = l.length := by rw [hm, natI_len]
      have HMM := Lib.hid hm
      have HMN := Lib.hid hml
      rw [← hm] at hc3 hl3 ⊢
      clear hx3 hm hml hk3 y0 y1
      by_cases hmn : m = n
      · have hmni : ((m : Int) == (n : Int)) = true := by rw [hmn]; exact beq_self_eq_true _
        obtain rfl := hmn
        go_wp2_with fail
        go_loopg [6] m (fun kx s6 wr => ∃ k : Nat, s6 = .int .i64 k ∧ k ≤ m ∧ m - k ≤ kx ∧ Hid (∀ j (h : j < l.length), j < k → l[j] = 2 + j) ∧ Hid (wr = w3))
        case atStart => exact ⟨0, by first | rfl | go_num, Nat.zero_le _, by omega, Lib.hid (fun j _ h => by omega), Lib.hid rfl⟩
        case round =>
          obtain ⟨k, rfl, hk, hkx, HT, HW⟩ := hrel
          obtain rfl := HW.out
          clear HW
          by_cases hlt : k < m
          · have hlti : (k : Int) < (m : Int) := by omega
            have hk0 : (0 : Int) ≤ (k : Int) := by omega
            have hkl : k < l.length := by rw [← HMN.out]; exact hlt
            obtain ⟨b, o, rfl, p0⟩ := HX3.out k (by rw [← HMM.out]; exact hlt)
            obtain ⟨y, hy⟩ : ∃ y, y = l[k] := ⟨_, rfl⟩
            rw [show (natI l)[k]'(by rw [← HMM.out]; exact hlt) = (y : Int) by simp [natI, hy]] at p0
            have ek : (2 : Int) + (k : Int) = ((2 + k : Nat) : Int) := by omega
            obtain ⟨k2, hk2⟩ : ∃ x, x = 2 + k := ⟨_, rfl⟩
            rw [← hk2] at ek
            have hk2b : k2 ≤ 5000 := by omega
            have HY := Lib.hid hy
            have HK2 := Lib.hid hk2
            clear hy hk2
            by_cases hyk : y = k2
            · have hyi : ((y : Int) == (k2 : Int)) = true := by rw [hyk]; exact beq_self_eq_true _
              have HT2 : Hid (∀ j (h : j < l.length), j < k + 1 → l[j] = 2 + j) := Lib.hid fun j hj hjk => by
                by_cases e : j = k
                · subst e; rw [← HY.out, hyk, HK2.out]
                · exact HT.out j hj (by omega)
              clear hyk
              go_wp2_with fail
              go_roundg (m - (k + 1))
              case measure => omega
              case rel => exact ⟨k + 1, by go_num, by omega, Nat.le_refl _, HT2, Lib.hid rfl⟩
            · have hyi : ((y : Int) == (k2 : Int)) = false := beq_eq_false_iff_ne.2 (by omega)
              have HE : Hid (Q = 2) := Lib.hid (by
                rw [HQ2.out, if_neg]
                intro e
                apply hyk
                rw [HY.out, HK2.out]
                simp [e])
              clear hyk
              go_wp2_with fail
              go_ret
              exact ⟨by rw [HE.out]; rfl, HK3.out⟩
          · have hlti : ¬ (k : Int) < (m : Int) := by omega
            have HE : Hid (Q = 0) := Lib.hid (by
              rw [HQ2.out, if_pos]
              apply List.ext_getElem
              · rw [List.length_range', HMN.out]
              · intro j h1 h2
                rw [HT.out j h1 (by have := HMN.out; omega)]
                simp)
            go_wp2_with fail
            go_ret
            exact ⟨by rw [HE.out]; rfl, HK3.out⟩
      · have hmni : ((m : Int) == (n : Int)) = false := beq_eq_false_iff_ne.2 (by omega)
        have HE : Hid (Q = 2) := Lib.hid (by
          rw [HQ2.out, if_neg]
          intro e
          apply hmn
          rw [HMN.out, e, List.length_range'])
        clear hmn
        go_wp2_with fail
        go_ret
        exact ⟨by rw [HE.out]; rfl, HK3.out⟩
end Go.Proofs.Ytiplibgnfcdlkaa
