import Derived.Test.YtiplibgnfcdlkaaQ22
/-
  Walk: zero.Check. Printed by gen_ZP2.py.
-/
namespace Go.Proofs.Ytiplibgnfcdlkaa
open Go.RowKit

theorem inFst_err {L : List INode} {k c : Nat} (h0 : inFst L k = 0) (h : inErr L k = c) (hc : c ≠ 0) : ∀ n, k < n → inFst L n = c := by
  intro n
  induction n with
  | zero => intro h; omega
  | succ n ih =>
    intro hk
    unfold inFst
    by_cases e : k = n
    · subst e; rw [if_pos h0]; exact h
    · have := ih (by omega)
      rw [if_neg (by omega)]; exact this
theorem zchk_err {L : List INode} {root : Int} {k c : Nat} (hl : L.length ≤ 4096) (h0 : inFst L k = 0) (h : inErr L k = c) (hc : c ≠ 0) (hk : k < L.length) : zchk L root = c := by
  unfold zchk
  have := inFst_err h0 h hc L.length hk
  rw [if_neg (by omega), if_pos (by omega), this]
theorem zi_inj {a b : ZNode} (h : zi a = zi b) : a = b := by
  obtain ⟨a1, a2, a3⟩ := a
  obtain ⟨b1, b2, b3⟩ := b
  simp [zi] at h
  obtain ⟨h1, h2, h3⟩ := h
  rw [show a1 = b1 by omega, show a2 = b2 by omega, show a3 = b3 by omega]
theorem ziN_inj : ∀ {a b : List ZNode}, a.map zi = b.map zi → a = b
  | [], [], _ => rfl
  | [], _ :: _, h => by simp at h
  | _ :: _, [], h => by simp at h
  | x :: a, y :: b, h => by
    rw [List.map_cons, List.map_cons, List.cons.injEq] at h
    rw [zi_inj h.1, ziN_inj h.2]
/-- The map of the nodes that have been seen. -/
def SeenN (w : World) (sb : Nat) (K : List INode) : Prop := ∃ Lm : List (ZNode × Value), MapK znV w sb Lm ∧ (Lm.map Prod.fst).map zi = K ∧ ∀ p ∈ Lm, p.2 = .bool true
theorem SeenN.lt {w : World} {sb : Nat} {K : List INode} (h : SeenN w sb K) : sb < w.heap.size := by obtain ⟨_, h1, _⟩ := h; exact h1.lt
theorem SeenN.kept {w w' : World} {sb : Nat} {K : List INode} (h : SeenN w sb K) (hk : Kept w w') : SeenN w' sb K := let ⟨L, h1, h2⟩ := h; ⟨L, h1.same (hk.block _ h1.lt), h2⟩
theorem seenN_find {K : List INode} {Lm : List (ZNode × Value)} (h2 : (Lm.map Prod.fst).map zi = K) (h3 : ∀ p ∈ Lm, p.2 = .bool true) (x : ZNode) : (findK x Lm).getD (.bool false) = .bool (decide (zi x ∈ K)) := by
  cases h : findK x Lm with
  | none =>
    have := findK_none.1 h
    have h4 : zi x ∉ K := fun h5 => by
      rw [← h2] at h5
      obtain ⟨y, hy, e⟩ := List.mem_map.1 h5
      exact this (zi_inj e ▸ hy)
    rw [decide_eq_false h4]; rfl
  | some v =>
    have hm := findK_mem h
    have : zi x ∈ K := by rw [← h2]; exact List.mem_map.2 ⟨x, List.mem_map.2 ⟨_, hm, rfl⟩, rfl⟩
    have h4 : v = .bool true := h3 _ hm
    rw [decide_eq_true this, h4]; rfl
theorem seenN_put {w' : World} {sb : Nat} {K : List INode} {Lm : List (ZNode × Value)} (h2 : (Lm.map Prod.fst).map zi = K) (h3 : ∀ p ∈ Lm, p.2 = .bool true) {x : ZNode} (hx : zi x ∉ K) (hm : MapK znV w' sb (putK x (.bool true) Lm)) : SeenN w' sb (K ++ [zi x]) := by
  have hn : findK x Lm = none := findK_none.2 fun h => hx (by rw [← h2]; exact List.mem_map.2 ⟨x, h, rfl⟩)
  rw [putK_new hn] at hm
  refine ⟨_, hm, by rw [List.map_append, List.map_append, h2]; rfl, fun p hp => ?_⟩
  rcases List.mem_append.1 hp with h | h
  · exact h3 p h
  · rw [List.mem_singleton] at h; rw [h]
/-- What inErr says case by case. -/
theorem inErr_index {L : List INode} {k : Nat} (hk : k < L.length) (h : L[k].v < 0 ∨ 24 ≤ L[k].v ∨ L[k].lo < 0 ∨ (k : Int) + 1 < L[k].lo ∨ L[k].hi < 0 ∨ (k : Int) + 1 < L[k].hi) : inErr L k = 10 := by
  unfold inErr
  simp only [getD_at hk]
  rw [if_pos h]
theorem inErr_form {L : List INode} {k : Nat} (hk : k < L.length) (h : ¬ (L[k].v < 0 ∨ 24 ≤ L[k].v ∨ L[k].lo < 0 ∨ (k : Int) + 1 < L[k].lo ∨ L[k].hi < 0 ∨ (k : Int) + 1 < L[k].hi)) (h2 : L[k].hi = 0) : inErr L k = 2 := by
  unfold inErr
  simp only [getD_at hk]
  rw [if_neg h, if_pos h2]
theorem inErr_order {L : List INode} {k : Nat} (hk : k < L.length) (h : ¬ (L[k].v < 0 ∨ 24 ≤ L[k].v ∨ L[k].lo < 0 ∨ (k : Int) + 1 < L[k].lo ∨ L[k].hi < 0 ∨ (k : Int) + 1 < L[k].hi)) (h2 : L[k].hi ≠ 0)
    (h3 : (1 < L[k].lo ∧ (L.getD (L[k].lo - 2).toNat default).v ≤ L[k].v) ∨ (1 < L[k].hi ∧ (L.getD (L[k].hi - 2).toNat default).v ≤ L[k].v)) : inErr L k = 13 := by
  unfold inErr
  simp only [getD_at hk]
  rw [if_neg h, if_neg h2, if_pos h3]
theorem inErr_last {L : List INode} {k : Nat} (hk : k < L.length) (h : ¬ (L[k].v < 0 ∨ 24 ≤ L[k].v ∨ L[k].lo < 0 ∨ (k : Int) + 1 < L[k].lo ∨ L[k].hi < 0 ∨ (k : Int) + 1 < L[k].hi)) (h2 : L[k].hi ≠ 0)
    (h3 : ¬ ((1 < L[k].lo ∧ (L.getD (L[k].lo - 2).toNat default).v ≤ L[k].v) ∨ (1 < L[k].hi ∧ (L.getD (L[k].hi - 2).toNat default).v ≤ L[k].v))) : inErr L k = if L[k] ∈ L.take k then 6 else 0 := by
  unfold inErr
  simp only [getD_at hk]
  rw [if_neg h, if_neg h2, if_neg h3]
set_option maxRecDepth 100000 in
set_option maxHeartbeats 16000000 in
theorem zcheck_any (v : Value) (L : List INode) (root : Int) (W : World) (h : ZeroAt W v L root) : Calls Try.prog 14 #[v] W fun e w' => e = .returned (errV (zchk L root)) ∧ Kept W w' := by
  obtain ⟨s, rfl, hL⟩ := h
  obtain ⟨a, c, rfl⟩ := hL.shape
  obtain ⟨n, hn⟩ : ∃ n, n = L.length := ⟨_, rfl⟩
  have hle := hL.le
  have hcap := hL.cap.1
  rw [← hn] at hL hle hcap ⊢
  obtain ⟨Q, hQ⟩ : ∃ q, q = zchk L root := ⟨_, rfl⟩
  rw [← hQ]
  obtain ⟨w1, hw1⟩ : ∃ w1, w1 = W.alloc (.cells #[.slice a n c, .int .i64 root] 24) := ⟨_, rfl⟩
  have hk1 : Kept W w1 := by rw [hw1]; exact (Kept.refl _).alloc _
  have hx1 : RowAt w1 W.heap.size 24 [.slice a n c, .int .i64 root] := by rw [hw1]; exact RowAt.made W #[.slice a n c, .int .i64 root] 24
  have z0 := hx1.cell (i := 0) (by simp)
  have z1 := hx1.cell (i := 1) (by simp)
  simp only [List.getElem_cons_succ, List.getElem_cons_zero] at z0 z1
  have HL := Lib.hid hL
  have HN := Lib.hid hn
  have HQ := Lib.hid hQ
  have HW1 := Lib.hid hw1
  have HK1 := Lib.hid hk1
  have HZ0 := Lib.hid z0
  have HZ1 := Lib.hid z1
  have hmm := @run_makeMap Try.prog
  by_cases hbig : 4096 < n
  · have hbi : (4096 : Int) < (n : Int) := by omega
    have HE : Hid (Q = 4) := Lib.hid (by rw [hQ]; unfold zchk; rw [if_pos (by omega)])
    clear hL hn hQ hw1 hk1 hx1
    go_enter Try.func14, Try.ntmps14
    go_upto_region 1 with fail
    rw [← HW1.out]
    go_wp2_with fail
    go_ret
    exact ⟨by rw [HE.out]; rfl, HK1.out⟩
  have hbi : ¬ (4096 : Int) < (n : Int) := by omega
  have HLE : Hid (L.length ≤ 4096) := Lib.hid (by omega)
  obtain ⟨w2, hw2⟩ : ∃ w2, w2 = w1.alloc (.map #[] 0) := ⟨_, rfl⟩
  have hk2 : Kept w1 w2 := by rw [hw2]; exact (Kept.refl _).alloc _
  have HS2 : Hid (SeenN w2 w1.heap.size (L.take 0)) := Lib.hid ⟨[], by rw [hw2]; exact MapK.made znV w1, rfl, fun p hp => by cases hp⟩
  have HK2 := Lib.hid hk2
  have HW2 := Lib.hid hw2
  have y0 := hk2.cell z0
  clear hL hn hQ hw1 hk1 hx1 hw2 hk2 hbig
  go_enter Try.func14, Try.ntmps14
  go_upto_region 1 with fail
  rw [← HW1.out]
  go_upto_region 4 with fail
  rw [← HW2.out]
  go_wp2_with fail
  clear y0
  go_loopg [17] n (fun kx s17 wr => ∃ k : Nat, s17 = .int .i64 k ∧ k ≤ n ∧ n - k ≤ kx ∧ Hid (inFst L k = 0) ∧ Hid (SeenN wr w1.heap.size (L.take k)) ∧ Hid (Kept w1 wr))
  case atStart => exact ⟨0, rfl, Nat.zero_le _, by omega, Lib.hid rfl, HS2, HK2⟩
  case round =>
    obtain ⟨k, rfl, hk, hkx, HT, HSr, HKr⟩ := hrel
    obtain ⟨wi, rfl⟩ : ∃ wi : World, wi = wr := ⟨_, rfl⟩
    by_cases hlt : k < n
    · have hlti : (k : Int) < (n : Int) := by omega
      have hk0 : (0 : Int) ≤ (k : Int) := by omega
      have hkL : k < L.length := by rw [← HN.out]; exact hlt
      have hkW := HK1.out.trans HKr.out
      obtain ⟨b1, o1, rfl, p0, p1, p2⟩ := (HL.out.kept hkW).read k hkL
      obtain ⟨w4, hw4⟩ : ∃ w4, w4 = wi.alloc (.cells #[.int .i64 L[k].v, .int .i64 L[k].lo, .int .i64 L[k].hi] 63) := ⟨_, rfl⟩
      have hk4 : Kept wi w4 := by rw [hw4]; exact (Kept.refl _).alloc _
      have hx4 : RowAt w4 wi.heap.size 63 [.int .i64 L[k].v, .int .i64 L[k].lo, .int .i64 L[k].hi] := by rw [hw4]; exact RowAt.made wi #[.int .i64 L[k].v, .int .i64 L[k].lo, .int .i64 L[k].hi] 63
      have m0 := hx4.cell (i := 0) (by simp)
      have m1 := hx4.cell (i := 1) (by simp)
      have m2 := hx4.cell (i := 2) (by simp)
      simp only [List.getElem_cons_succ, List.getElem_cons_zero] at m0 m1 m2
      have HERR : Hid (∀ c, inErr L k = c → c ≠ 0 → Q = c) := Lib.hid fun c h1 h2 => by rw [HQ.out]; exact zchk_err HLE.out HT.out h1 h2 hkL
      obtain ⟨x, hx⟩ : ∃ x, x = L[k] := ⟨_, rfl⟩
      have hix := inErr_index hkL
      have hif := inErr_form hkL
      have hio := inErr_order hkL
      have hil := inErr_last hkL
      rw [← hx] at p0 p1 p2 m0 m1 m2 hw4 hix hif hio hil
      have HX : Hid (x = L[k]'hkL) := Lib.hid hx
      have HW4 := Lib.hid hw4
      have HK4 := Lib.hid (HKr.out.trans hk4)
      have HKI := Lib.hid hk4
      have zz := (HKr.out.trans hk4).cell HZ0.out
      obtain ⟨xv, xl, xh⟩ := x
      simp only at p0 p1 p2 m0 m1 m2 hix hif hio hil
      have HIX := Lib.hid hix
      have HIF := Lib.hid hif
      have HIO := Lib.hid hio
      have HIL := Lib.hid hil
      have ek1 : (1 : Int) + (k : Int) = ((1 + k : Nat) : Int) := by omega
      obtain ⟨k1, hk1e⟩ : ∃ x, x = 1 + k := ⟨_, rfl⟩
      rw [← hk1e] at ek1
      have hk1b : k1 ≤ 140737488355329 := by omega
      have HK1E := Lib.hid hk1e
      clear hk1e hix hif hio hil hw4 hx4 hk4 hx hkW
      go_upto_region 7 with fail
      rw [← HW4.out]
      clear p0 p1 p2
      obtain ⟨mn, hmn⟩ : ∃ q, q = min xl xh := ⟨_, rfl⟩
      obtain ⟨mx, hmx⟩ : ∃ q, q = max xl xh := ⟨_, rfl⟩
      have emn : (if xh < xl then xh else xl) = mn := by rw [hmn]; split <;> omega
      have emx : (if xl < xh then xh else xl) = mx := by rw [hmx]; split <;> omega
      have HMN : Hid (mn = min xl xh ∧ mx = max xl xh) := Lib.hid ⟨hmn, hmx⟩
      clear hmn hmx
      by_cases hbad : xv < 0 ∨ 24 ≤ xv ∨ xl < 0 ∨ (k : Int) + 1 < xl ∨ xh < 0 ∨ (k : Int) + 1 < xh
      · have HE : Hid (Q = 10) := Lib.hid (HERR.out 10 (HIX.out hbad) (by decide))
        have hcases : xv < 0 ∨ (¬ xv < 0 ∧ 24 ≤ xv) ∨ (¬ xv < 0 ∧ ¬ 24 ≤ xv ∧ mn < 0) ∨ (¬ xv < 0 ∧ ¬ 24 ≤ xv ∧ ¬ mn < 0 ∧ (k1 : Int) < mx) := by have := HMN.out; have := HK1E.out; omega
        clear hbad
        rcases hcases with q1 | ⟨q1, q2⟩ | ⟨q1, q2, q3⟩ | ⟨q1, q2, q3, q4⟩
        all_goals
          go_wp2_with fail
          go_ret
          exact ⟨by rw [HE.out]; rfl, HK1.out.trans HK4.out⟩
      have HNB := Lib.hid hbad
      have q1 : ¬ xv < 0 := by omega
      have q2 : ¬ 24 ≤ xv := by omega
      have q3 : ¬ mn < 0 := by have := HMN.out; omega
      have q4 : ¬ (k1 : Int) < mx := by have := HMN.out; have := HK1E.out; omega
      have HB : Hid (0 ≤ xv ∧ xv < 24 ∧ 0 ≤ xl ∧ xl ≤ (k : Int) + 1 ∧ 0 ≤ xh ∧ xh ≤ (k : Int) + 1) := Lib.hid (by omega)
      clear hbad
      by_cases hz : xh = 0
      · have HE : Hid (Q = 2) := Lib.hid (HERR.out 2 (HIF.out HNB.out hz) (by decide))
        have hzi : (xh == 0) = true := by rw [beq_iff_eq]; exact hz
        clear hz
        go_wp2_with fail
        go_ret
        exact ⟨by rw [HE.out]; rfl, HK1.out.trans HK4.out⟩
      have hzi : (xh == 0) = false := beq_eq_false_iff_ne.2 hz
      have HZN := Lib.hid hz
      clear hz
      go_upto_region 11 with fail
      clear q1 q2 q3 q4 hzi emn emx
      have hread : ∀ y : Int, 2 ≤ y → y ≤ (k : Int) + 1 → ∃ j : Nat, y - 2 = (j : Int) ∧ (j : Int) < (n : Int) ∧ IntKind.i64.wrap (j : Int) = (j : Int) ∧ w4.cell? ⟨b1, o1 + j * 3, none⟩ = some (.int .i64 (L.getD (y - 2).toNat default).v) := fun y h1 h2 => by
        refine ⟨(y - 2).toNat, by omega, by omega, by rw [IntKind.wrap_i64]; omega, ?_⟩
        have hj : (y - 2).toNat < L.length := by have := HN.out; omega
        obtain ⟨b9, o9, e9, p9, _, _⟩ := (HL.out.kept (HK1.out.trans HK4.out)).read (y - 2).toNat hj
        cases e9
        rw [getD_at hj]
        exact p9
      have HREAD := Lib.hid hread
      clear hread
      have HZ4 := Lib.hid zz
      have hgo : ∀ (l : Bool), True := fun _ => trivial
      clear hgo
      by_cases hl2 : 2 ≤ xl
      · obtain ⟨j1, e1, e2, e3, c1⟩ := HREAD.out xl hl2 HB.out.2.2.2.1
        obtain ⟨yv1, hy1⟩ : ∃ y, y = (L.getD (xl - 2).toNat default).v := ⟨_, rfl⟩
        rw [← hy1] at c1
        have g1 : decide (2 ≤ xl) = true := decide_eq_true hl2
        have j10 : (0 : Int) ≤ (j1 : Int) := by omega
        by_cases hb1 : yv1 ≤ xv
        · have HE : Hid (Q = 13) := Lib.hid (HERR.out 13 (HIO.out HNB.out HZN.out (.inl ⟨by omega, by rw [← hy1]; exact hb1⟩)) (by decide))
          have g2 : decide (yv1 ≤ xv) = true := decide_eq_true hb1
          clear hl2 hb1 hy1
          go_quiet (fail)
          go_wp2_with fail
          go_ret
          exact ⟨by rw [HE.out]; rfl, HK1.out.trans (HK4.out.drewN _)⟩
        · have HO1 : Hid (¬ (1 < xl ∧ (L.getD (xl - 2).toNat default).v ≤ xv)) := Lib.hid (fun h => hb1 (by rw [hy1]; exact h.2))
          have g2 : decide (yv1 ≤ xv) = false := decide_eq_false hb1
          clear hl2 hb1 hy1
          by_cases hh2 : 2 ≤ xh
          · obtain ⟨j2, f1, f2, f3, c2⟩ := HREAD.out xh hh2 HB.out.2.2.2.2.2
            obtain ⟨yv2, hy2⟩ : ∃ y, y = (L.getD (xh - 2).toNat default).v := ⟨_, rfl⟩
            rw [← hy2] at c2
            have g3 : decide (2 ≤ xh) = true := decide_eq_true hh2
            have j20 : (0 : Int) ≤ (j2 : Int) := by omega
            by_cases hb2 : yv2 ≤ xv
            · have HE : Hid (Q = 13) := Lib.hid (HERR.out 13 (HIO.out HNB.out HZN.out (.inr ⟨by omega, by rw [← hy2]; exact hb2⟩)) (by decide))
              have g4 : decide (yv2 ≤ xv) = true := decide_eq_true hb2
              clear hh2 hb2 hy2
              go_quiet (fail)
              go_wp2_with fail
              go_ret
              exact ⟨by rw [HE.out]; rfl, HK1.out.trans (HK4.out.drewN _)⟩
            · have HO2 : Hid (¬ (1 < xh ∧ (L.getD (xh - 2).toNat default).v ≤ xv)) := Lib.hid (fun h => hb2 (by rw [hy2]; exact h.2))
              have g4 : decide (yv2 ≤ xv) = false := decide_eq_false hb2
              clear hh2 hb2 hy2
              go_quiet (fail)
              go_upto_region 13 with fail
              obtain ⟨v0, rfl⟩ : ∃ v : Nat, xv = (v : Int) := ⟨xv.toNat, by have := HB.out; omega⟩
              obtain ⟨l0, rfl⟩ : ∃ v : Nat, xl = (v : Int) := ⟨xl.toNat, by have := HB.out; omega⟩
              obtain ⟨h0, rfl⟩ : ∃ v : Nat, xh = (v : Int) := ⟨xh.toNat, by have := HB.out; omega⟩
              have HMEM : Hid (inErr L k = if (zi ⟨v0, l0, h0⟩ : INode) ∈ L.take k then 6 else 0) := Lib.hid (HIL.out HNB.out HZN.out (fun h => h.elim HO1.out HO2.out))
              have HTK : Hid (L.take k1 = L.take k ++ [zi ⟨v0, l0, h0⟩]) := Lib.hid (by rw [HK1E.out, Nat.add_comm, List.take_succ_eq_append_getElem hkL, ← HX.out]; rfl)
              obtain ⟨Lm, hm, hL1, hL2⟩ := HSr.out.kept HKI.out
              have hfd := seenN_find hL1 hL2 ⟨v0, l0, h0⟩
              have HM : Hid (∀ w', w'.heap = w4.heap → MapK znV w' w1.heap.size Lm) := Lib.hid fun w' e => hm.same (by rw [e])
              have HL12 : Hid ((Lm.map Prod.fst).map zi = L.take k ∧ ∀ p ∈ Lm, p.2 = .bool true) := Lib.hid ⟨hL1, hL2⟩
              by_cases hin : (zi ⟨v0, l0, h0⟩ : INode) ∈ L.take k
              · rw [decide_eq_true hin] at hfd
                have HFD := Lib.hid hfd
                have HE : Hid (Q = 6) := Lib.hid (HERR.out 6 (by rw [HMEM.out, if_pos hin]) (by decide))
                clear hfd hin hm hL1 hL2
                go_wp2_with (at_lookup; refine look_K znKey Try.underlying70 (.bool false) zero_bool_run rfl _ _ rfl w1.heap.size _ rfl (HM.out _ rfl) ⟨v0, l0, h0⟩ rfl ?_; rw [HFD.out])
                go_ret
                exact ⟨by rw [HE.out]; rfl, HK1.out.trans (HK4.out.drewN _)⟩
              · rw [decide_eq_false hin] at hfd
                have HFD := Lib.hid hfd
                have HE : Hid (inFst L k1 = 0) := Lib.hid (by rw [HK1E.out, Nat.add_comm, inFst, if_pos HT.out, HMEM.out, if_neg hin])
                have HIN := Lib.hid hin
                clear hfd hin hm hL1 hL2
                go_upto_region 15 with (at_lookup; refine look_K znKey Try.underlying70 (.bool false) zero_bool_run rfl _ _ rfl w1.heap.size _ rfl (HM.out _ rfl) ⟨v0, l0, h0⟩ rfl ?_; rw [HFD.out])
                go_wp2_with (at_mapUpdate; refine store_K znKey Try.underlying70 rfl _ _ _ rfl w1.heap.size Lm rfl (HM.out _ rfl) ⟨v0, l0, h0⟩ rfl (.bool true) rfl ?_; intro w9 hm9 hg9; have HM9 := Lib.hid hm9; have HG9 := Lib.hid hg9; clear hm9 hg9)
                go_roundg (n - k1)
                case measure => have := HK1E.out; omega
                case rel => exact ⟨k1, by go_num, by have := HK1E.out; omega, Nat.le_refl _, HE, Lib.hid (by rw [HTK.out]; exact seenN_put HL12.out.1 HL12.out.2 HIN.out HM9.out), Lib.hid ((OnlySb.grown HG9.out).toKept (HK4.out.drewN _) (Nat.le_refl _))⟩
          · have HO2 : Hid (¬ (1 < xh ∧ (L.getD (xh - 2).toNat default).v ≤ xv)) := Lib.hid (fun h => hh2 (by omega))
            have g3 : decide (2 ≤ xh) = false := decide_eq_false hh2
            clear hh2
            go_quiet (fail)
            go_upto_region 13 with fail
            obtain ⟨v0, rfl⟩ : ∃ v : Nat, xv = (v : Int) := ⟨xv.toNat, by have := HB.out; omega⟩
            obtain ⟨l0, rfl⟩ : ∃ v : Nat, xl = (v : Int) := ⟨xl.toNat, by have := HB.out; omega⟩
            obtain ⟨h0, rfl⟩ : ∃ v : Nat, xh = (v : Int) := ⟨xh.toNat, by have := HB.out; omega⟩
            have HMEM : Hid (inErr L k = if (zi ⟨v0, l0, h0⟩ : INode) ∈ L.take k then 6 else 0) := Lib.hid (HIL.out HNB.out HZN.out (fun h => h.elim HO1.out HO2.out))
            have HTK : Hid (L.take k1 = L.take k ++ [zi ⟨v0, l0, h0⟩]) := Lib.hid (by rw [HK1E.out, Nat.add_comm, List.take_succ_eq_append_getElem hkL, ← HX.out]; rfl)
            obtain ⟨Lm, hm, hL1, hL2⟩ := HSr.out.kept HKI.out
            have hfd := seenN_find hL1 hL2 ⟨v0, l0, h0⟩
            have HM : Hid (∀ w', w'.heap = w4.heap → MapK znV w' w1.heap.size Lm) := Lib.hid fun w' e => hm.same (by rw [e])
            have HL12 : Hid ((Lm.map Prod.fst).map zi = L.take k ∧ ∀ p ∈ Lm, p.2 = .bool true) := Lib.hid ⟨hL1, hL2⟩
            by_cases hin : (zi ⟨v0, l0, h0⟩ : INode) ∈ L.take k
            · rw [decide_eq_true hin] at hfd
              have HFD := Lib.hid hfd
              have HE : Hid (Q = 6) := Lib.hid (HERR.out 6 (by rw [HMEM.out, if_pos hin]) (by decide))
              clear hfd hin hm hL1 hL2
              go_wp2_with (at_lookup; refine look_K znKey Try.underlying70 (.bool false) zero_bool_run rfl _ _ rfl w1.heap.size _ rfl (HM.out _ rfl) ⟨v0, l0, h0⟩ rfl ?_; rw [HFD.out])
              go_ret
              exact ⟨by rw [HE.out]; rfl, HK1.out.trans (HK4.out.drewN _)⟩
            · rw [decide_eq_false hin] at hfd
              have HFD := Lib.hid hfd
              have HE : Hid (inFst L k1 = 0) := Lib.hid (by rw [HK1E.out, Nat.add_comm, inFst, if_pos HT.out, HMEM.out, if_neg hin])
              have HIN := Lib.hid hin
              clear hfd hin hm hL1 hL2
              go_upto_region 15 with (at_lookup; refine look_K znKey Try.underlying70 (.bool false) zero_bool_run rfl _ _ rfl w1.heap.size _ rfl (HM.out _ rfl) ⟨v0, l0, h0⟩ rfl ?_; rw [HFD.out])
              go_wp2_with (at_mapUpdate; refine store_K znKey Try.underlying70 rfl _ _ _ rfl w1.heap.size Lm rfl (HM.out _ rfl) ⟨v0, l0, h0⟩ rfl (.bool true) rfl ?_; intro w9 hm9 hg9; have HM9 := Lib.hid hm9; have HG9 := Lib.hid hg9; clear hm9 hg9)
              go_roundg (n - k1)
              case measure => have := HK1E.out; omega
              case rel => exact ⟨k1, by go_num, by have := HK1E.out; omega, Nat.le_refl _, HE, Lib.hid (by rw [HTK.out]; exact seenN_put HL12.out.1 HL12.out.2 HIN.out HM9.out), Lib.hid ((OnlySb.grown HG9.out).toKept (HK4.out.drewN _) (Nat.le_refl _))⟩
      · have HO1 : Hid (¬ (1 < xl ∧ (L.getD (xl - 2).toNat default).v ≤ xv)) := Lib.hid (fun h => hl2 (by omega))
        have g1 : decide (2 ≤ xl) = false := decide_eq_false hl2
        clear hl2
        by_cases hh2 : 2 ≤ xh
        · obtain ⟨j2, f1, f2, f3, c2⟩ := HREAD.out xh hh2 HB.out.2.2.2.2.2
          obtain ⟨yv2, hy2⟩ : ∃ y, y = (L.getD (xh - 2).toNat default).v := ⟨_, rfl⟩
          rw [← hy2] at c2
          have g3 : decide (2 ≤ xh) = true := decide_eq_true hh2
          have j20 : (0 : Int) ≤ (j2 : Int) := by omega
          by_cases hb2 : yv2 ≤ xv
          · have HE : Hid (Q = 13) := Lib.hid (HERR.out 13 (HIO.out HNB.out HZN.out (.inr ⟨by omega, by rw [← hy2]; exact hb2⟩)) (by decide))
            have g4 : decide (yv2 ≤ xv) = true := decide_eq_true hb2
            clear hh2 hb2 hy2
            go_quiet (fail)
            go_wp2_with fail
            go_ret
            exact ⟨by rw [HE.out]; rfl, HK1.out.trans (HK4.out.drewN _)⟩
          · have HO2 : Hid (¬ (1 < xh ∧ (L.getD (xh - 2).toNat default).v ≤ xv)) := Lib.hid (fun h => hb2 (by rw [hy2]; exact h.2))
            have g4 : decide (yv2 ≤ xv) = false := decide_eq_false hb2
            clear hh2 hb2 hy2
            go_quiet (fail)
            go_upto_region 13 with fail
            obtain ⟨v0, rfl⟩ : ∃ v : Nat, xv = (v : Int) := ⟨xv.toNat, by have := HB.out; omega⟩
            obtain ⟨l0, rfl⟩ : ∃ v : Nat, xl = (v : Int) := ⟨xl.toNat, by have := HB.out; omega⟩
            obtain ⟨h0, rfl⟩ : ∃ v : Nat, xh = (v : Int) := ⟨xh.toNat, by have := HB.out; omega⟩
            have HMEM : Hid (inErr L k = if (zi ⟨v0, l0, h0⟩ : INode) ∈ L.take k then 6 else 0) := Lib.hid (HIL.out HNB.out HZN.out (fun h => h.elim HO1.out HO2.out))
            have HTK : Hid (L.take k1 = L.take k ++ [zi ⟨v0, l0, h0⟩]) := Lib.hid (by rw [HK1E.out, Nat.add_comm, List.take_succ_eq_append_getElem hkL, ← HX.out]; rfl)
            obtain ⟨Lm, hm, hL1, hL2⟩ := HSr.out.kept HKI.out
            have hfd := seenN_find hL1 hL2 ⟨v0, l0, h0⟩
            have HM : Hid (∀ w', w'.heap = w4.heap → MapK znV w' w1.heap.size Lm) := Lib.hid fun w' e => hm.same (by rw [e])
            have HL12 : Hid ((Lm.map Prod.fst).map zi = L.take k ∧ ∀ p ∈ Lm, p.2 = .bool true) := Lib.hid ⟨hL1, hL2⟩
            by_cases hin : (zi ⟨v0, l0, h0⟩ : INode) ∈ L.take k
            · rw [decide_eq_true hin] at hfd
              have HFD := Lib.hid hfd
              have HE : Hid (Q = 6) := Lib.hid (HERR.out 6 (by rw [HMEM.out, if_pos hin]) (by decide))
              clear hfd hin hm hL1 hL2
              go_wp2_with (at_lookup; refine look_K znKey Try.underlying70 (.bool false) zero_bool_run rfl _ _ rfl w1.heap.size _ rfl (HM.out _ rfl) ⟨v0, l0, h0⟩ rfl ?_; rw [HFD.out])
              go_ret
              exact ⟨by rw [HE.out]; rfl, HK1.out.trans (HK4.out.drewN _)⟩
            · rw [decide_eq_false hin] at hfd
              have HFD := Lib.hid hfd
              have HE : Hid (inFst L k1 = 0) := Lib.hid (by rw [HK1E.out, Nat.add_comm, inFst, if_pos HT.out, HMEM.out, if_neg hin])
              have HIN := Lib.hid hin
              clear hfd hin hm hL1 hL2
              go_upto_region 15 with (at_lookup; refine look_K znKey Try.underlying70 (.bool false) zero_bool_run rfl _ _ rfl w1.heap.size _ rfl (HM.out _ rfl) ⟨v0, l0, h0⟩ rfl ?_; rw [HFD.out])
              go_wp2_with (at_mapUpdate; refine store_K znKey Try.underlying70 rfl _ _ _ rfl w1.heap.size Lm rfl (HM.out _ rfl) ⟨v0, l0, h0⟩ rfl (.bool true) rfl ?_; intro w9 hm9 hg9; have HM9 := Lib.hid hm9; have HG9 := Lib.hid hg9; clear hm9 hg9)
              go_roundg (n - k1)
              case measure => have := HK1E.out; omega
              case rel => exact ⟨k1, by go_num, by have := HK1E.out; omega, Nat.le_refl _, HE, Lib.hid (by rw [HTK.out]; exact seenN_put HL12.out.1 HL12.out.2 HIN.out HM9.out), Lib.hid ((OnlySb.grown HG9.out).toKept (HK4.out.drewN _) (Nat.le_refl _))⟩
        · have HO2 : Hid (¬ (1 < xh ∧ (L.getD (xh - 2).toNat default).v ≤ xv)) := Lib.hid (fun h => hh2 (by omega))
          have g3 : decide (2 ≤ xh) = false := decide_eq_false hh2
          clear hh2
          go_quiet (fail)
          go_upto_region 13 with fail
          obtain ⟨v0, rfl⟩ : ∃ v : Nat, xv = (v : Int) := ⟨xv.toNat, by have := HB.out; omega⟩
          obtain ⟨l0, rfl⟩ : ∃ v : Nat, xl = (v : Int) := ⟨xl.toNat, by have := HB.out; omega⟩
          obtain ⟨h0, rfl⟩ : ∃ v : Nat, xh = (v : Int) := ⟨xh.toNat, by have := HB.out; omega⟩
          have HMEM : Hid (inErr L k = if (zi ⟨v0, l0, h0⟩ : INode) ∈ L.take k then 6 else 0) := Lib.hid (HIL.out HNB.out HZN.out (fun h => h.elim HO1.out HO2.out))
          have HTK : Hid (L.take k1 = L.take k ++ [zi ⟨v0, l0, h0⟩]) := Lib.hid (by rw [HK1E.out, Nat.add_comm, List.take_succ_eq_append_getElem hkL, ← HX.out]; rfl)
          obtain ⟨Lm, hm, hL1, hL2⟩ := HSr.out.kept HKI.out
          have hfd := seenN_find hL1 hL2 ⟨v0, l0, h0⟩
          have HM : Hid (∀ w', w'.heap = w4.heap → MapK znV w' w1.heap.size Lm) := Lib.hid fun w' e => hm.same (by rw [e])
          have HL12 : Hid ((Lm.map Prod.fst).map zi = L.take k ∧ ∀ p ∈ Lm, p.2 = .bool true) := Lib.hid ⟨hL1, hL2⟩
          by_cases hin : (zi ⟨v0, l0, h0⟩ : INode) ∈ L.take k
          · rw [decide_eq_true hin] at hfd
            have HFD := Lib.hid hfd
            have HE : Hid (Q = 6) := Lib.hid (HERR.out 6 (by rw [HMEM.out, if_pos hin]) (by decide))
            clear hfd hin hm hL1 hL2
            go_wp2_with (at_lookup; refine look_K znKey Try.underlying70 (.bool false) zero_bool_run rfl _ _ rfl w1.heap.size _ rfl (HM.out _ rfl) ⟨v0, l0, h0⟩ rfl ?_; rw [HFD.out])
            go_ret
            exact ⟨by rw [HE.out]; rfl, HK1.out.trans (HK4.out.drewN _)⟩
          · rw [decide_eq_false hin] at hfd
            have HFD := Lib.hid hfd
            have HE : Hid (inFst L k1 = 0) := Lib.hid (by rw [HK1E.out, Nat.add_comm, inFst, if_pos HT.out, HMEM.out, if_neg hin])
            have HIN := Lib.hid hin
            clear hfd hin hm hL1 hL2
            go_upto_region 15 with (at_lookup; refine look_K znKey Try.underlying70 (.bool false) zero_bool_run rfl _ _ rfl w1.heap.size _ rfl (HM.out _ rfl) ⟨v0, l0, h0⟩ rfl ?_; rw [HFD.out])
            go_wp2_with (at_mapUpdate; refine store_K znKey Try.underlying70 rfl _ _ _ rfl w1.heap.size Lm rfl (HM.out _ rfl) ⟨v0, l0, h0⟩ rfl (.bool true) rfl ?_; intro w9 hm9 hg9; have HM9 := Lib.hid hm9; have HG9 := Lib.hid hg9; clear hm9 hg9)
            go_roundg (n - k1)
            case measure => have := HK1E.out; omega
            case rel => exact ⟨k1, by go_num, by have := HK1E.out; omega, Nat.le_refl _, HE, Lib.hid (by rw [HTK.out]; exact seenN_put HL12.out.1 HL12.out.2 HIN.out HM9.out), Lib.hid ((OnlySb.grown HG9.out).toKept (HK4.out.drewN _) (Nat.le_refl _))⟩
    · have hlti : ¬ (k : Int) < (n : Int) := by omega
      have hke : k = n := by omega
      have hf : inFst L L.length = 0 := by rw [← HN.out, ← hke]; exact HT.out
      obtain ⟨hg, hLM⟩ := inFst_good hf
      obtain ⟨M, hM⟩ : ∃ M, M = L.map zo := ⟨_, rfl⟩
      rw [← hM] at hg hLM
      have hml : M.length = n := by rw [hM, List.length_map, HN.out]
      have HG := Lib.hid hg
      have HLM := Lib.hid hLM
      have HML := Lib.hid hml
      have hkW := HK1.out.trans HKr.out
      have HKW := Lib.hid hkW
      have HQ1 : Hid (Q = if root < 0 ∨ (n : Int) + 1 < root then 10 else if znum M root.toNat root.toNat [] = List.range' 2 M.length then 0 else 2) := Lib.hid (by
        rw [HQ.out]; unfold zchk
        have := HLE.out
        rw [if_neg (by omega), if_neg (by rw [hf]; exact fun h => h rfl), ← HN.out, ← hM, hml])
      have en1 : (1 : Int) + (n : Int) = ((1 + n : Nat) : Int) := by omega
      obtain ⟨n1, hn1⟩ : ∃ x, x = 1 + n := ⟨_, rfl⟩
      rw [← hn1] at en1
      have hn1b : n1 ≤ 140737488355329 := by omega
      have HN1 := Lib.hid hn1
      have zz := HKr.out.cell HZ0.out
      have zy := HKr.out.cell HZ1.out
      have z1 := zy
      clear hf hg hLM hM hml hkW hn1 hke hlt
      by_cases hr0 : root < 0
      · have HE : Hid (Q = 10) := Lib.hid (by rw [HQ1.out, if_pos (.inl hr0)])
        go_wp2_with fail
        go_ret
        exact ⟨by rw [HE.out]; rfl, HKW.out⟩
      by_cases hr1 : (n1 : Int) < root
      · have HE : Hid (Q = 10) := Lib.hid (by rw [HQ1.out, if_pos (.inr (by have := HN1.out; omega))])
        go_wp2_with fail
        go_ret
        exact ⟨by rw [HE.out]; rfl, HKW.out⟩
      obtain ⟨rt, rfl⟩ : ∃ r : Nat, root = (r : Int) := ⟨root.toNat, by omega⟩
      have HRT : Hid (rt ≤ 1 + M.length) := Lib.hid (by have := HN1.out; have := HML.out; omega)
      have HQ2 : Hid (Q = if zadd 24 [] (zm M rt) = (M, rt) then 0 else 2) := Lib.hid (by
        rw [HQ1.out, if_neg (by have := HN1.out; omega), Int.toNat_natCast]
        by_cases e : zadd 24 [] (zm M rt) = (M, rt)
        · rw [if_pos e, if_pos ((znum_same HG.out HRT.out).2 e)]
        · rw [if_neg e, if_neg (fun h => e ((znum_same HG.out HRT.out).1 h))])
      go_upto_region 19 with fail
      have HZW : Hid (ZeroAt wi (.agg #[.slice a n c, .int .i64 (rt : Int)]) (M.map zi) (rt : Int)) := Lib.hid ⟨_, rfl, by rw [← HLM.out]; exact HL.out.kept HKW.out⟩
      go_upto_region 20 with (go_at_call 42; (with_reducible refine (znew_any _).mono ?_); rintro e w5 ⟨t, rfl, ht5, hk5, ho5⟩; have HT5 := Lib.hid ht5; have HK5 := Lib.hid hk5; have HO5 := Lib.hid ho5; clear ht5 hk5 ho5)
      have y50 := HK5.out.cell zz
      have y51 := HK5.out.cell zy
      have ZZ := Lib.hid zz
      have ZY := Lib.hid zy
      clear zz zy z1
      obtain ⟨Z, hZ⟩ : ∃ z, z = zadd 24 [] (zm M rt) := ⟨_, rfl⟩
      rw [← hZ] at HQ2
      have HZ := Lib.hid hZ
      clear hZ
      go_upto_region 21 with first
        | (go_at_call 48; (with_reducible refine (zimport_any t [] M rt _ wi _ HT5.out HK5.out HO5.out HZW.out HG.out HRT.out (by have := HML.out; omega) (by simp)).mono ?_); rintro e w6 ⟨r, N', rfl, ⟨hput, _⟩, ht6, hf6⟩; have HP6 := Lib.hid hput; have HT6 := Lib.hid ht6; have HK6 := Lib.hid (hf6.toKept HK5.out HO5.out); clear hput ht6 hf6)
        | (go_at_call 47; (with_reducible refine (zexport_any t N' r _ HT6.out HP6.out.ref).mono ?_); rintro e w7 ⟨⟨v7, rfl, hz7⟩, hk7⟩; rw [show zm N' r = zm M rt from funext HP6.out.mem, ← HZ.out] at hz7; obtain ⟨s7, rfl, hd7⟩ := hz7; obtain ⟨a7, c7, rfl⟩ := hd7.shape; have HD7 := Lib.hid hd7; have HK7 := Lib.hid (HK6.out.trans hk7); clear hd7 hk7)
      clear y50 y51
      obtain ⟨Z1, Z2⟩ := Z
      simp only at HD7 HQ2 ⊢
      obtain ⟨m, hm⟩ : ∃ m, m = Z1.length := ⟨_, rfl⟩
      rw [← hm]
      obtain ⟨w8, hw8⟩ : ∃ w8, w8 = w7.alloc (.cells #[.slice a7 m c7, .int .i64 (Z2 : Nat)] 24) := ⟨_, rfl⟩
      have hk8 : Kept w7 w8 := by rw [hw8]; exact (Kept.refl _).alloc _
      have hx8 : RowAt w8 w7.heap.size 24 [.slice a7 m c7, .int .i64 (Z2 : Nat)] := by rw [hw8]; exact RowAt.made w7 #[.slice a7 m c7, .int .i64 (Z2 : Nat)] 24
      have x0 := hx8.cell (i := 0) (by simp)
      have x1 := hx8.cell (i := 1) (by simp)
      simp only [List.getElem_cons_succ, List.getElem_cons_zero] at x0 x1
      have HK8 := Lib.hid (HK7.out.trans hk8)
      have z0 := HK8.out.cell ZZ.out
      have z1 := HK8.out.cell ZY.out
      have HL8 : Hid (DnsAt w8 (.slice a n c) (M.map zi)) := Lib.hid (by rw [← HLM.out]; exact HL.out.kept (HKW.out.trans HK8.out))
      have HD8 : Hid (DnsAt w8 (.slice a7 m c7) (Z1.map zi)) := Lib.hid (by have := HD7.out.kept hk8; rw [List.length_map, ← hm] at this; exact this)
      rw [← hw8]
      clear hm hw8 hk8 hx8
      by_cases hrr : Z2 = rt
      · obtain rfl := hrr
        have hrsi : ((Z2 : Int) == (Z2 : Int)) = true := beq_self_eq_true _
        obtain ⟨b, hb⟩ : ∃ b, b = decide (Z1.map zi = M.map zi) := ⟨_, rfl⟩
        have HCE : Hid (Calls Try.prog 49 #[.slice a7 m c7, .slice a n c] w8 fun e w' => e = .returned (.bool b) ∧ Kept w8 w') := Lib.hid (by rw [hb]; exact zequal_any _ _ _ _ w8 HD8.out HL8.out)
        cases b
        · have HE : Hid (Q = 2) := Lib.hid (by
            rw [HQ2.out, if_neg]
            intro e
            have e1 : Z1 = M := congrArg Prod.fst e
            rw [e1, decide_eq_true rfl] at hb
            cases hb)
          clear hb
          go_wp2_with (go_at_call 49; (with_reducible refine HCE.out.mono ?_); rintro e w9 ⟨rfl, hk9⟩; have HK9 := Lib.hid (HK8.out.trans hk9); clear hk9)
          go_ret
          exact ⟨by rw [HE.out]; rfl, HKW.out.trans HK9.out⟩
        · have HE : Hid (Q = 0) := Lib.hid (by
            rw [HQ2.out, if_pos]
            have e1 : Z1.map zi = M.map zi := of_decide_eq_true hb.symm
            rw [ziN_inj e1])
          clear hb
          go_wp2_with (go_at_call 49; (with_reducible refine HCE.out.mono ?_); rintro e w9 ⟨rfl, hk9⟩; have HK9 := Lib.hid (HK8.out.trans hk9); clear hk9)
          go_ret
          exact ⟨by rw [HE.out]; rfl, HKW.out.trans HK9.out⟩
      · have hrsi : ((Z2 : Int) == (rt : Int)) = false := beq_eq_false_iff_ne.2 (by omega)
        have hrsn : ¬ (Z2 : Int) = (rt : Int) := by omega
        have HE : Hid (Q = 2) := Lib.hid (by rw [HQ2.out, if_neg (fun e => hrr (congrArg Prod.snd e))])
        clear hrr
        go_wp2_with fail
        go_ret
        exact ⟨by rw [HE.out]; rfl, HKW.out.trans HK8.out⟩
end Go.Proofs.Ytiplibgnfcdlkaa
