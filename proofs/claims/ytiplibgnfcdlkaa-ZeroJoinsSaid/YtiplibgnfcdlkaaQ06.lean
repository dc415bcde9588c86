import Derived.Test.YtiplibgnfcdlkaaQ05
/-
  Walk: Make of decision.Sets, whole.
-/
namespace Go.Proofs.Ytiplibgnfcdlkaa
open Go.RowKit

theorem node_end {W w6 w7 : World} {t : ZT} {N : List ZNode} {n : ZNode} {m : Nat} {v5 : Value} {U : List (ZNode × Value)} {M : List ((Nat × Nat × Nat) × Value)} (hmn : m = N.length) (hg : ZGood N) (hg2 : ZGood (N ++ [n])) (hU : ∀ n, findK n U = if n ∈ N then some (.int .i64 ((2 + N.idxOf n : Nat) : Int)) else none) (hn : n ∉ N)
    (hr : RowAt w6 t.tb 93 [v5, .map (some t.ub), .map (some t.mb)]) (hv : w6.ownsRow 0 63 3 v5 (m + 1) (N.flatMap znC ++ znC n)) (hu : MapK znV w6 t.ub U) (hm : MapK skV w6 t.mb M)
    (hM : ∀ k u, findK k M = some u → ∃ r : Nat, u = .int .i64 r ∧ ZMem N k r) (hne : t.ub ≠ t.mb) (hl : m < 4398046511104) (hf : TFrm t W w6) (hm7 : MapK znV w7 t.ub (putK n (.int .i64 (2 + (m : Int))) U)) (hg7 : w6.drew.grownBy w7 (some t.ub)) :
    Ending.returned (.int .i64 (2 + (m : Int))) = .returned (.int .i64 ((2 + m : Nat) : Int)) ∧ TblAt w7 t (N ++ [n]) ∧ TFrm t W w7 := by
  have hd6 : Kept w6 w6.drew := (Kept.refl _).drew
  have htu : t.tb ≠ t.ub := fun e => by obtain ⟨cur, h1, _⟩ := hr; rw [e] at h1; exact hu.notCells h1
  have hb : ∀ k, k < w6.heap.size → k ≠ t.ub → w7.heap[k]? = w6.heap[k]? := fun k hk hne2 => (hg7.block k (Nat.lt_of_lt_of_le hk hd6.size) (fun e => hne2 (by cases e; rfl))).trans (hd6.block k hk)
  have e : (2 + (m : Int)) = ((2 + N.length : Nat) : Int) := by omega
  rw [e] at hm7
  refine ⟨by rw [show ((2 + m : Nat) : Int) = 2 + (m : Int) by omega], node_done hg hg2 hU hn (hr.same (hb _ hr.lt htu)) (own_block (by rw [← hmn]; exact hv) fun k hk => ?_) hm7 (hm.same (hb _ hm.lt fun e => hne e.symm)) hM hne (by omega), hf.trans ((TFrm.kept hd6 hr.lt).trans (TFrm.grown hg7 (.inr (.inl rfl)) (Nat.lt_of_lt_of_le hr.lt hd6.size) htu))⟩
  obtain ⟨cur, h1⟩ := own_lt hv hk
  refine hb k ?_ fun e => ?_
  · rcases Nat.lt_or_ge k w6.heap.size with h | h
    · exact h
    · simp [Array.getElem?_eq_none h] at h1
  · rw [e] at h1; exact hu.notCells h1
theorem zheap_new (w : World) (O : Obj) : (w.alloc O).drew.heap[w.heap.size]? = some O :=
  (Below.block (Kept.refl (w.alloc O)).drew w.heap.size (by simp)).trans (heap_alloc_new w O)
set_option maxRecDepth 100000 in
set_option maxHeartbeats 4000000 in
theorem zmake_any (t : ZT) (N : List ZNode) (n : ZNode) (W : World) (h : TblAt W t N) (hg2 : ZGood (zput N n).1) (hl : N.length < 4398046511104) :
    Calls Try.prog 78 #[t.val, .int .i64 n.v, .int .i64 n.lo, .int .i64 n.hi] W fun e w' => e = .returned (.int .i64 (zput N n).2) ∧ TblAt w' t (zput N n).1 ∧ TFrm t W w' := by
  have HT := Lib.hid h
  obtain ⟨v, U, M, hr, hv, ⟨hu, hU⟩, ⟨hm, hM⟩, hg, hne, _⟩ := h
  obtain ⟨nv, nl, nh⟩ := n
  have c0 := hr.cell (i := 0) (by simp)
  have c1 := hr.cell (i := 1) (by simp)
  simp only [List.getElem_cons_succ, List.getElem_cons_zero] at c0 c1
  have f0 := hr.free 0
  unfold zput at hg2 ⊢
  simp only at hg2 ⊢
  unfold ZT.val
  by_cases h0 : nh = 0
  · rw [if_pos h0]
    have h0' : (nh : Int) = 0 := by omega
    have HE : Hid (TblAt W t N) := HT
    clear hr hv hu hU hm hM hg hg2 hne c0 c1 f0
    go_enter Try.func78, Try.ntmps78
    go_wp2
    go_ret
    exact ⟨rfl, HE.out, TFrm.refl _ _⟩
  · rw [if_neg h0] at hg2 ⊢
    have h0' : ¬ (nh : Int) = 0 := by omega
    obtain ⟨w1, hw1⟩ : ∃ w1, w1 = W.alloc (.cells #[.int .i64 nv, .int .i64 nl, .int .i64 nh] 63) := ⟨_, rfl⟩
    have hk1 : Kept W w1 := by rw [hw1]; exact (Kept.refl _).alloc _
    have hx1 : RowAt w1 W.heap.size 63 [.int .i64 nv, .int .i64 nl, .int .i64 nh] := by rw [hw1]; exact RowAt.made W #[.int .i64 nv, .int .i64 nl, .int .i64 nh] 63
    have x0 := hx1.cell (i := 0) (by simp)
    have x1 := hx1.cell (i := 1) (by simp)
    have x2 := hx1.cell (i := 2) (by simp)
    simp only [List.getElem_cons_succ, List.getElem_cons_zero] at x0 x1 x2
    have d1 := hk1.cell c1
    have hlook := run_lookupK znKey Try.underlying90 (hu.same (w' := w1.drew) (hk1.drew.block _ hu.lt)) ⟨nv, nl, nh⟩ (.int .i64 0) (zero_int_run _) true
    rw [if_pos rfl, hU] at hlook
    by_cases hmem : (⟨nv, nl, nh⟩ : ZNode) ∈ N
    · rw [if_pos hmem] at hlook ⊢
      simp only [Option.getD_some, Option.isSome_some, znV] at hlook
      obtain ⟨q, hq⟩ : ∃ q, q = 2 + N.idxOf (⟨nv, nl, nh⟩ : ZNode) := ⟨_, rfl⟩
      rw [← hq] at hlook ⊢
      have HW1 := Lib.hid hw1
      have HK1 := Lib.hid hk1
      have HL := Lib.hid hlook
      clear hr hv hu hU hm hM hg hg2 hne c0 c1 f0 hw1 hk1 hx1 hq hlook
      go_enter Try.func78, Try.ntmps78
      go_upto_region 4 with fail
      rw [← HW1.out]
      have hlook := HL.out
      go_region
      go_wp2
      go_ret
      exact ⟨rfl, HT.out.kept HK1.out.drew, HT.out.frm HK1.out.drew⟩
    · rw [if_neg hmem] at hlook hg2 ⊢
      simp only [Option.getD_none, Option.isSome_none, znV] at hlook
      obtain ⟨a, cp, hvs⟩ : ∃ a cp, v = .slice a N.length cp := by
        rcases hv.2 with ⟨e1, e2⟩ | ⟨g, cap, cur, e1, _⟩
        · exact ⟨none, 0, by rw [e1, e2]⟩
        · exact ⟨_, _, e1⟩
      subst hvs
      have hap := rows_apart hv hr
      obtain ⟨m, hmn⟩ : ∃ m, m = N.length := ⟨_, rfl⟩
      have hvm : w1.ownsRow 0 63 3 (.slice a m cp) m (N.flatMap znC) := by rw [hmn]; exact own_kept hv hk1
      rw [← hmn] at c0 hap hl hr hv ⊢
      obtain ⟨i0, hi0, hz0, hz1, hz2⟩ := info_parts info_zn
      have HV := Lib.hid hvm
      have HAP := Lib.hid hap
      have I0 := Lib.hid hi0
      have I1 := Lib.hid hz0
      have I2 := Lib.hid hz1
      have I3 := Lib.hid hz2
      have HW1 := Lib.hid hw1
      have HK1 := Lib.hid hk1
      have HX1 := Lib.hid hx1
      have HL := Lib.hid hlook
      have HMN := Lib.hid hmn
      have HR := Lib.hid hr
      have HR0 := Lib.hid hv
      have HU := Lib.hid hu
      have HM := Lib.hid hm
      have HUU := Lib.hid hU
      have HMM := Lib.hid hM
      have HG := Lib.hid hg
      have HG2 := Lib.hid hg2
      have HNE := Lib.hid hne
      have HMEM := Lib.hid hmem
      have HSZ : Hid (W.heap.size < w1.heap.size) := Lib.hid (by rw [hw1]; simp)
      have e0 := hk1.cell c0
      have fd := (Below.frozen hk1 (p := ⟨t.tb, 0, none⟩) hr.lt).trans f0
      clear hr hv hu hU hm hM hg hg2 hne hw1 hk1 hx1 hlook hmn hap hvm hmem hi0 hz0 hz1 hz2 f0
      go_enter Try.func78, Try.ntmps78
      go_upto_region 4 with fail
      rw [← HW1.out]
      have hlook := HL.out
      go_region
      clear hlook
      go_upto_region 7 with fail
      obtain ⟨w2, hw2⟩ : ∃ w2, w2 = w1.drew := ⟨_, rfl⟩
      have hk2 : Kept w1 w2 := by rw [hw2]; exact (Kept.refl _).drew
      have hs2 : w1.heap.size = w2.heap.size := by rw [hw2]; rfl
      have HS2 := Lib.hid hs2
      rw [← hw2]
      have HK2 := Lib.hid hk2
      have hx2 := HX1.out.kept hk2
      have y0 := ((Kept.refl w2).drew).cell (hk2.cell x0)
      have y1 := ((Kept.refl w2).drew).cell (hk2.cell x1)
      have y2 := ((Kept.refl w2).drew).cell (hk2.cell x2)
      have z0 := ((Kept.refl w2).drew).cell (hk2.cell e0)
      have hV2 := own_kept HV.out hk2
      have hfr := (Below.frozen hk2 (p := ⟨t.tb, 0, none⟩) (World.block_lt_of_cell? w1 _ e0)).trans fd
      have htl : t.tb < w2.heap.size := World.block_lt_of_cell? w2 _ (hk2.cell e0)
      have hwl : W.heap.size < w2.heap.size := by rw [← HS2.out]; exact HSZ.out
      have cB : ∀ O, ((w2.alloc O).drew).cell? ⟨t.tb, 0, none⟩ = some (.slice a m cp) := fun O => (((Kept.refl w2).alloc O).drew).cell (hk2.cell e0)
      have HO2 : Hid (∀ O, ((w2.alloc O).drew).ownsRow 0 63 3 (.slice a m cp) m (N.flatMap znC)) := Lib.hid fun O => own_kept hV2 (((Kept.refl w2).alloc O).drew)
      clear hw2 hk2 hx2 hs2 hV2 x0 x1 x2 e0 fd
      go_region_law ((refine step_append_lies _ (by rfl) _ _ _ (by rfl) 0 63 i0 _ 3 24 Try.underlying22 I0.out I1.out I2.out I3.out rfl (by omega) (.slice a m cp) m _ (by rfl) (HO2.out _) ⟨w2.heap.size, 0, none⟩ 1 1 [.int .i64 nv, .int .i64 nl, .int .i64 nh] (by rfl) (by rfl) (World.news_of_block (cs := #[.int .i64 nv, .int .i64 nl, .int .i64 nh]) (t := 63) (fr := (0, 0)) (zheap_new w2 _)) (by simp [Value.oneCell']) (by omega) (by unfold maxLen; omega) (by omega) (Nat.zero_le _) (w2.heap.size + 1) (by simp) ?_; intro gg cap w5 hown5 hgrow hat hlt5; have st5 := hgrow.cell (a := ⟨t.tb, 0, none⟩) (v := .slice a m cp) (cB _) HAP.out; have sf5 := (World.frozen?_of_block (a := ⟨t.tb, 0, none⟩) (hgrow.block t.tb (by simp; omega) HAP.out)).trans ((Below.frozen (((Kept.refl w2).alloc _).drew) (p := ⟨t.tb, 0, none⟩) htl).trans hfr)))
      all_goals
        obtain ⟨w6, hw6⟩ : ∃ w6, w6 = w5.setCell ⟨t.tb, 0, none⟩ (.slice (some ⟨gg, 0, none⟩) (m + 1) cap) := ⟨_, rfl⟩
        have hk12 := (HK1.out.trans HK2.out).trans (((Kept.refl w2).alloc (.cells #[.int .i64 nv, .int .i64 nl, .int .i64 nh] 63)).drew)
        have hs := node_step (n := ⟨nv, nl, nh⟩) HR.out HR0.out HU.out HM.out hk12 hgrow hown5 (by
          rcases hat with h | h
          · exact .inl h
          · exact .inr fun g hg => by
              have : gg = g := by simpa [Value.ownBlock] using hg
              omega) hw6
        obtain ⟨s1, s2, s3, s4, s5, s6, s7⟩ := hs
        have hno : ¬ t.own w6 W.heap.size := s7 W.heap.size (Nat.le_refl _) (by simp; omega) fun e => by
          have e : gg = W.heap.size := by simpa [Value.ownBlock] using e
          rcases hat with h | h
          · obtain ⟨cur, h4⟩ := own_lt HR0.out h
            rw [e] at h4
            simp at h4
          · omega
        have hb6 : w6.heap[W.heap.size]? = w2.heap[W.heap.size]? := (s6 W.heap.size (Nat.le_refl _) (by simp; omega) hno).trans ((((Kept.refl w2).alloc _).drew).block _ hwl)
        have hx6 : RowAt w6 W.heap.size 63 [.int .i64 nv, .int .i64 nl, .int .i64 nh] := (HX1.out.kept HK2.out).same hb6
        have hd6 : Kept w6 w6.drew := (Kept.refl _).drew
        obtain ⟨w7, hrun, hm7, hg7⟩ := run_updateK znKey Try.underlying90 (s3.same (hd6.block _ s3.lt)) ⟨nv, nl, nh⟩ (.int .i64 (2 + (m : Int)))
        simp only [znV] at hrun
        have q0 := hd6.cell (hx6.cell (i := 0) (by simp))
        have q1 := hd6.cell (hx6.cell (i := 1) (by simp))
        have q2 := hd6.cell (hx6.cell (i := 2) (by simp))
        have q3 := hd6.cell (s1.cell (i := 1) (by simp))
        simp only [List.getElem_cons_succ, List.getElem_cons_zero] at q0 q1 q2 q3
        have HRUN := Lib.hid hrun
        have HM7 := Lib.hid hm7
        have HG7 := Lib.hid hg7
        have S1 := Lib.hid s1
        have S2 := Lib.hid s2
        have S3 := Lib.hid s3
        have S4 := Lib.hid s4
        have S5 := Lib.hid s5
        rw [← hw6]
        clear hw6 hk12 s1 s2 s3 s4 s5 s6 s7 hno hb6 hx6 hrun hm7 hg7 hd6 hown5 hgrow hat st5 sf5 y0 y1 y2 z0 cB
        go_upto_region 8 with fail
        have hrun := HRUN.out
        go_region
        clear hrun
        all_goals
          go_wp2
          go_ret
          exact node_end HMN.out HG.out HG2.out HUU.out HMEM.out S1.out S2.out S3.out S4.out HMM.out HNE.out hl S5.out HM7.out HG7.out
end Go.Proofs.Ytiplibgnfcdlkaa

/-
  Walk: remember of decision.Sets: the result of an operation, computed once.
-/
namespace Go.Proofs.Ytiplibgnfcdlkaa
open Go.RowKit

/-- An operation has returned a reference of the table as it is then. -/
def GenPost (t : ZT) (W : World) (R : List ZNode → Nat → Prop) (e : Ending) (w' : World) : Prop := ∃ r N', e = .returned (.int .i64 (r : Nat)) ∧ R N' r ∧ TblAt w' t N' ∧ TFrm t W w'
theorem tbl_memo {w6 w7 : World} {t : ZT} {N : List ZNode} {k : Nat × Nat × Nat} {r : Nat} {v : Value} {U : List (ZNode × Value)} {M : List ((Nat × Nat × Nat) × Value)} (hr : RowAt w6 t.tb 93 [v, .map (some t.ub), .map (some t.mb)]) (hv : w6.ownsRow 0 63 3 v N.length (N.flatMap znC))
    (hu : MapK znV w6 t.ub U) (hU : ∀ n, findK n U = if n ∈ N then some (.int .i64 ((2 + N.idxOf n : Nat) : Int)) else none) (hm : MapK skV w6 t.mb M) (hM : ∀ k u, findK k M = some u → ∃ r : Nat, u = .int .i64 r ∧ ZMem N k r) (hg : ZGood N) (hne : t.ub ≠ t.mb) (hl : N.length ≤ 4398046511104)
    (hk : ZMem N k r) (hm7 : MapK skV w7 t.mb (putK k (.int .i64 (r : Int)) M)) (hg7 : w6.drew.grownBy w7 (some t.mb)) : TblAt w7 t N ∧ TFrm t w6 w7 := by
  have hd6 : Kept w6 w6.drew := (Kept.refl _).drew
  have htu : t.tb ≠ t.mb := fun e => by obtain ⟨cur, h1, _⟩ := hr; rw [e] at h1; exact hm.notCells h1
  have hb : ∀ k, k < w6.heap.size → k ≠ t.mb → w7.heap[k]? = w6.heap[k]? := fun k hk hne2 => (hg7.block k (Nat.lt_of_lt_of_le hk hd6.size) (fun e => hne2 (by cases e; rfl))).trans (hd6.block k hk)
  refine ⟨⟨v, U, _, hr.same (hb _ hr.lt htu), own_block hv fun k hk => ?_, ⟨hu.same (hb _ hu.lt hne), hU⟩, ⟨hm7, fun k2 u h => ?_⟩, hg, hne, hl⟩, (TFrm.kept hd6 hr.lt).trans (TFrm.grown hg7 (.inr (.inr (.inl rfl))) (Nat.lt_of_lt_of_le hr.lt hd6.size) htu)⟩
  · obtain ⟨cur, h1⟩ := own_lt hv hk
    refine hb k ?_ fun e => ?_
    · rcases Nat.lt_or_ge k w6.heap.size with h | h
      · exact h
      · simp [Array.getElem?_eq_none h] at h1
    · rw [e] at h1; exact hm.notCells h1
  · rw [findK_put] at h
    by_cases e : k2 = k
    · rw [if_pos e] at h
      cases h
      exact ⟨r, rfl, by rw [e]; exact hk⟩
    · rw [if_neg e] at h
      exact hM k2 u h
set_option maxRecDepth 100000 in
set_option maxHeartbeats 4000000 in
theorem zremember_any (t : ZT) (op a b g : Nat) (cb : Array Value) (eg : ∀ args w, (callFunc g args).run Try.prog w = .ok (.enter g args) w) (N : List ZNode) (W : World) (h : TblAt W t N) (R : List ZNode → Nat → Prop)
    (hm : ∀ r, ZMem N (op, a, b) r → R N r) (hs : ∀ N' r, R N' r → ZMem N' (op, a, b) r) (hf : ∀ W1, Kept W W1 → Calls Try.prog g cb W1 (GenPost t W1 R)) :
    Calls Try.prog 74 #[t.val, .int .u8 op, .int .i64 a, .int .i64 b, .func (.func g) #[] cb] W (GenPost t W R) := by
  have HT := Lib.hid h
  have HF := Lib.hid hf
  have HS := Lib.hid hs
  have HMR := Lib.hid hm
  clear hf hs hm
  obtain ⟨v, U, M, hr, hv, ⟨hu, hU⟩, ⟨hm, hM⟩, hg, hne, hlen⟩ := h
  have c2 := hr.cell (i := 2) (by simp)
  simp only [List.getElem_cons_succ, List.getElem_cons_zero] at c2
  obtain ⟨w1, hw1⟩ : ∃ w1, w1 = W.alloc (.cells #[.int .u8 op, .int .i64 a, .int .i64 b] 110) := ⟨_, rfl⟩
  have hk1 : Kept W w1 := by rw [hw1]; exact (Kept.refl _).alloc _
  have hx1 : RowAt w1 W.heap.size 110 [.int .u8 op, .int .i64 a, .int .i64 b] := by rw [hw1]; exact RowAt.made W #[.int .u8 op, .int .i64 a, .int .i64 b] 110
  have x0 := hx1.cell (i := 0) (by simp)
  have x1 := hx1.cell (i := 1) (by simp)
  have x2 := hx1.cell (i := 2) (by simp)
  simp only [List.getElem_cons_succ, List.getElem_cons_zero] at x0 x1 x2
  have d1 := hk1.cell c2
  have hlook := run_lookupK skKey Try.underlying91 (hm.same (w' := w1.drew) (hk1.drew.block _ hm.lt)) (op, a, b) (.int .i64 0) (zero_int_run _) true
  rw [if_pos rfl] at hlook
  simp only [skV] at hlook
  have HW1 := Lib.hid hw1
  have HK1 := Lib.hid hk1
  have HX1 := Lib.hid hx1
  unfold ZT.val
  cases hfd : findK (op, a, b) M with
  | some u =>
    obtain ⟨q, rfl, hq⟩ := hM _ _ hfd
    rw [hfd] at hlook
    simp only [Option.getD_some, Option.isSome_some] at hlook
    have HQ := Lib.hid (HMR.out q hq)
    have HL := Lib.hid hlook
    clear hr hv hu hU hm hM hg hne c2 hw1 hk1 hx1 hlook hfd hq
    go_enter Try.func74, Try.ntmps74
    go_upto_region 2 with fail
    rw [← HW1.out]
    have hlook := HL.out
    go_region
    clear hlook
    all_goals
      go_wp2
      go_ret
      exact ⟨q, N, rfl, HQ.out, HT.out.kept HK1.out.drew, HT.out.frm HK1.out.drew⟩
  | none =>
    rw [hfd] at hlook
    simp only [Option.getD_none, Option.isSome_none] at hlook
    have HL := Lib.hid hlook
    have HB0 : Hid (Box t w1.drew W.heap.size 0 (.int .u8 op) ∧ Box t w1.drew W.heap.size 1 (.int .i64 a) ∧ Box t w1.drew W.heap.size 2 (.int .i64 b)) := Lib.hid ⟨HT.out.box hk1.drew (Nat.le_refl _) ((Kept.refl w1).drew.cell x0), HT.out.box hk1.drew (Nat.le_refl _) ((Kept.refl w1).drew.cell x1), HT.out.box hk1.drew (Nat.le_refl _) ((Kept.refl w1).drew.cell x2)⟩
    clear hr hv hu hU hm hM hg hne c2 hw1 hk1 hx1 hlook hfd
    go_enter Try.func74, Try.ntmps74
    go_upto_region 2 with fail
    rw [← HW1.out]
    have hlook := HL.out
    go_region
    clear hlook
    all_goals
      go_upto_region 4 with fail
      go_wp2_with (go_at_fn g; refine (HF.out _ HK1.out.drew).mono ?_; rintro e w2 ⟨r, N2, rfl, hr2, ht2, hf2⟩)
      obtain ⟨b0, b1, b2⟩ := HB0.out
      have HR2 := Lib.hid hr2
      have HF2 := Lib.hid hf2
      obtain ⟨v2, U2, M2, r2, o2, ⟨u2, U2'⟩, ⟨m2, M2'⟩, g2, ne2, l2⟩ := ht2
      have hd : Kept w2 w2.drew := (Kept.refl _).drew
      have q0 := hd.cell (b0.frm hf2).1
      have q1 := hd.cell (b1.frm hf2).1
      have q2 := hd.cell (b2.frm hf2).1
      have q3 := hd.cell (r2.cell (i := 2) (by simp))
      simp only [List.getElem_cons_succ, List.getElem_cons_zero] at q3
      obtain ⟨w7, hrun, hm7, hg7⟩ := run_updateK skKey Try.underlying91 (m2.same (hd.block _ m2.lt)) (op, a, b) (.int .i64 (r : Int))
      simp only [skV] at hrun
      have HEND := Lib.hid (tbl_memo r2 o2 u2 U2' m2 M2' g2 ne2 l2 (HS.out N2 r hr2) hm7 hg7)
      have HRUN := Lib.hid hrun
      clear hr2 hf2 b0 b1 b2 r2 o2 u2 U2' m2 M2' g2 ne2 l2 hm7 hg7 hrun hd x0 x1 x2 d1
      have hrun := HRUN.out
      go_region
      clear hrun
      all_goals
        go_wp2
        go_ret
        exact ⟨r, N2, rfl, HR2.out, HEND.out.1, (HT.out.frm HK1.out.drew).trans (HF2.out.trans HEND.out.2)⟩
end Go.Proofs.Ytiplibgnfcdlkaa

/-
  What an operation of two references leaves.
-/
namespace Go.Proofs.Ytiplibgnfcdlkaa
open Go.RowKit

theorem ZPut.weak {N N' : List ZNode} {v v' r : Nat} {F : Nat → Bool} (h : ZPut N v F N' r) (hv : v' ≤ v) : ZPut N v' F N' r := ⟨h.ext, h.good, h.ref, Nat.le_trans hv h.ev, h.mem⟩
theorem zput_len (N : List ZNode) (n : ZNode) : (zput N n).1.length ≤ N.length + 1 := by
  unfold zput
  split
  · simp
  · split
    · simp
    · simp
theorem ZPut.self {N : List ZNode} {r v : Nat} (hg : ZGood N) (hr : r ≤ 1 + N.length) (hv : v ≤ zev N r) : ZPut N v (zm N r) N r := ⟨⟨[], by simp⟩, hg, hr, hv, fun _ => rfl⟩
theorem ZPut.of {N : List ZNode} {r v : Nat} {F : Nat → Bool} (hg : ZGood N) (hr : r ≤ 1 + N.length) (hv : v ≤ zev N r) (h : ∀ s, zm N r s = F s) : ZPut N v F N r := ⟨⟨[], by simp⟩, hg, hr, hv, h⟩
theorem ZPut.le {N N' : List ZNode} {r v : Nat} {F : Nat → Bool} (h : ZPut N v F N' r) : N.length ≤ N'.length := by obtain ⟨⟨E, rfl⟩, _⟩ := h; rw [List.length_append]; omega
theorem ZPut.zev {N N' : List ZNode} {r v a : Nat} {F : Nat → Bool} (h : ZPut N v F N' r) (ha : a ≤ 1 + N.length) : zev N' a = zev N a := by obtain ⟨⟨E, rfl⟩, _⟩ := h; exact zev_ext E ha
theorem ZPut.zm {N N' : List ZNode} {r v a : Nat} {F : Nat → Bool} (h : ZPut N v F N' r) (hg : ZGood N) (ha : a ≤ 1 + N.length) (s : Nat) : zm N' a s = zm N a s := by obtain ⟨⟨E, rfl⟩, hg2, _⟩ := h; exact zm_ext hg hg2 a ha s
theorem zm_above {N : List ZNode} (hg : ZGood N) {r v : Nat} (hr : r ≤ 1 + N.length) (hv : v ≤ Go.Proofs.Ytiplibgnfcdlkaa.zev N r) {s : Nat} (h : Go.Proofs.Ytiplibgnfcdlkaa.zm N r s = true) : ∀ j, s.testBit j = true → v ≤ j := fun j hj => Nat.le_trans hv (zm_low hg r hr s h j hj).1
/-- The closure of an operation of two references: what it may use. -/
def ZTwo (f : Nat) (op : Bool → Bool → Bool) (k : Nat) : Prop := ∀ (t : ZT) (N : List ZNode) (a b : Nat) (W : World), TblAt W t N → a ≤ 1 + N.length → b ≤ 1 + N.length → 24 - min (zev N a) (zev N b) ≤ k → N.length + 2 ^ k ≤ 4398046511104 →
  Calls Try.prog f #[t.val, .int .i64 a, .int .i64 b] W (GenPost t W fun N' r => ZPut N (min (zev N a) (zev N b)) (fun s => op (zm N a s) (zm N b s)) N' r ∧ N'.length + 1 ≤ N.length + 2 ^ k)
theorem zref_small {N : List ZNode} (hg : ZGood N) {r : Nat} (hr : r ≤ 1 + N.length) (h : 24 ≤ zev N r) : r < 2 := by
  rcases Nat.lt_or_ge r 2 with h2 | h2
  · exact h2
  · obtain ⟨i, rfl⟩ : ∃ i, r = i + 2 := ⟨r - 2, by omega⟩
    have hi : i < N.length := by omega
    rw [zev_node hi] at h
    have := hg.ev i hi
    omega
theorem boxes3 {W W3 : World} {v0 v1 v2 : Value} {e0 e1 e2 : TypeId} (h : W3 = ((W.alloc (.cells #[v0] e0)).alloc (.cells #[v1] e1)).alloc (.cells #[v2] e2)) :
    W3.cell? ⟨W.heap.size, 0, none⟩ = some v0 ∧ W3.cell? ⟨W.heap.size + 1, 0, none⟩ = some v1 ∧ W3.cell? ⟨W.heap.size + 1 + 1, 0, none⟩ = some v2 := by
  subst h
  have h0 := (RowAt.made W #[v0] e0).cell (i := 0) (by simp)
  have h1 := (RowAt.made (W.alloc (.cells #[v0] e0)) #[v1] e1).cell (i := 0) (by simp)
  have h2 := (RowAt.made ((W.alloc (.cells #[v0] e0)).alloc (.cells #[v1] e1)) #[v2] e2).cell (i := 0) (by simp)
  have k1 := ((Kept.refl (W.alloc (.cells #[v0] e0))).alloc (.cells #[v1] e1)).alloc (.cells #[v2] e2)
  have k2 := (Kept.refl ((W.alloc (.cells #[v0] e0)).alloc (.cells #[v1] e1))).alloc (.cells #[v2] e2)
  have g0 := k1.cell h0
  have g1 := k2.cell h1
  simp only [World.size_alloc, List.getElem_cons_zero] at g0 g1 h2
  exact ⟨g0, g1, h2⟩
/-- What is remembered of an operation made set by set. -/
theorem zmem_put {N : List ZNode} {op a b r k : Nat} {F : Nat → Bool} (hg : ZGood N) (hop : op ≠ 99) (hF : ∀ s, zsem N op a b s = F s) (hlow : ∀ s, F s = true → ∀ j, s.testBit j = true → min (zev N a) (zev N b) ≤ j) (h : ZMem N (op, a, b) r) :
    ZPut N (min (zev N a) (zev N b)) F N r ∧ N.length + 1 ≤ N.length + 2 ^ k := by
  obtain ⟨_, h2⟩ := h
  rw [if_neg hop] at h2
  refine ⟨ZPut.of hg h2.1 (zev_ge hg h2.1 (by have := zev_le hg a; omega) fun s hs => hlow s (by rw [← hF]; exact (h2.2 s).symm.trans hs)) fun s => (h2.2 s).trans (hF s), ?_⟩
  have : 1 ≤ 2 ^ k := Nat.one_le_two_pow
  omega
theorem zput_mem {N N' : List ZNode} {op a b r v : Nat} {F : Nat → Bool} (hg : ZGood N) (hop : op ≠ 99) (ha : ZArg N op a b) (hF : ∀ s, zsem N op a b s = F s) (h : ZPut N v F N' r) : ZMem N' (op, a, b) r := by
  obtain ⟨⟨E, rfl⟩, h2, h3, h4, h5⟩ := h
  refine ⟨⟨by have := ha.1; rw [List.length_append]; show a ≤ _; omega, ha.2.imp id (Or.imp id fun h => by rw [List.length_append]; show b ≤ _; omega)⟩, ?_⟩
  rw [if_neg hop]
  exact ⟨h3, fun s => by rw [h5, ← hF]; exact (zsem_ext hg h2 ha s).symm⟩
end Go.Proofs.Ytiplibgnfcdlkaa
