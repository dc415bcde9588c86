import Derived.Test.YtngbjdaaogbjmaaGreatY18m
import Derived.Test.YtngbjdaaogbjmaaGreatK4
import Derived.Test.YtngbjdaaogbjmaaGreatR3m
/-
  The law TruncateKeeps returns true, whatever the arguments: its walk.
-/
namespace Go.Proofs.YtngbjdaaogbjmaaGreat
open Go.RowKit Go.ChangeShapes Go.WideShapes Go.ChangeAt Go.Joins Go.Deep

/-- The answers of ByOrder, apart. -/
theorem byR_cases (V T : Nat) (f : Fm) (m : Nat) (hm : m ≤ 24) : ∃ q R F, Tr.byR V T f m = (q, R, F) ∧ ((q = 0 ∧ synK V T f = true ∧ topT V T (Tr.overP m) f.nodes = some (R, F)) ∨ ((q = 4 ∨ q = 7) ∧ R = [] ∧ F = [])) := by
  unfold Tr.byR
  cases hs : synK V T f with
  | false => exact ⟨7, [], [], by simp, .inr ⟨.inr rfl, rfl, rfl⟩⟩
  | true =>
    rw [if_neg (by simp), if_neg (by omega)]
    cases ht : topT V T (Tr.overP m) f.nodes with
    | none => exact ⟨4, [], [], rfl, .inr ⟨.inl rfl, rfl, rfl⟩⟩
    | some p => exact ⟨0, p.1, p.2, rfl, .inl ⟨rfl, rfl, rfl⟩⟩
set_option maxRecDepth 100000 in
set_option maxHeartbeats 8000000 in
theorem keeps_true (w : World) (v : Value) (f : Fm) (x : Int) (hv : NodesAt w v f.nodes) (hfo : FmOk f) (hx : (Lit.int .u8 x).wf = true) :
    Calls Tryz.prog 4 #[fmV v f, .int .u8 x] w fun e w' => e = .returned (.bool true) ∧ Kept w w' := by
  obtain ⟨x0, x9⟩ := bounds_u8 hx
  obtain ⟨X, rfl⟩ := Int.eq_ofNat_of_zero_le x0
  have hX9 : X ≤ 255 := by omega
  clear hx x0 x9
  have ht : f.top ≤ 9223372036854775807 := hfo.2.1.2
  have hh : ∀ W, Kept w W → Calls Tryz.prog 10 #[fmV v f] W fun e w' => (∃ b, e = .returned (.bool b)) ∧ Kept W w' := fun W hk => heavy_any v f W (hv.kept hk)
  have hc : ∀ W, Kept w W → Calls Tryz.prog 16 #[fmV v f] W fun e w' => e = .returned (errV (chkF f)) ∧ Kept W w' := fun W hk => check_any v f W (hv.kept hk) ht
  obtain ⟨q, hq⟩ : ∃ q, q = chkF f := ⟨_, rfl⟩
  rw [← hq] at hc
  have hsh : ∃ a n c, v = .slice a n c ∧ n = f.nodes.length := by obtain ⟨a, c, h, _⟩ := hv; exact ⟨a, _, c, h, rfl⟩
  have HQ := Lib.hid hq
  have HV := Lib.hid hv
  obtain ⟨a, n, c, rfl, hnn⟩ := hsh
  clear hnn
  obtain ⟨vars, nodes, top⟩ := f
  have HH : Hid (∀ W, Kept w W → Calls Tryz.prog 10 #[.agg #[.int .i64 vars, .slice a n c, .int .i64 top]] W fun e w' => (∃ b, e = .returned (.bool b)) ∧ Kept W w') := Lib.hid hh
  have HC : Hid (∀ W, Kept w W → Calls Tryz.prog 16 #[.agg #[.int .i64 vars, .slice a n c, .int .i64 top]] W fun e w' => e = .returned (errV q) ∧ Kept W w') := Lib.hid hc
  have HA : Hid (∀ W, Calls Tryz.prog 9 #[] W fun e w' => e = .returned (.bool true) ∧ Kept W w') := Lib.hid fun W => wawake_ok W
  show Calls _ _ #[.agg #[.int .i64 vars, .slice a n c, .int .i64 top], _] _ _
  clear hv hh hc hq ht hfo
  go_enter Tryz.func4, Tryz.ntmps4
  go_wp2_with (go_at_call 9; refine (HA.out _).mono ?_; rintro e w1 ⟨rfl, hk1⟩; obtain ⟨c0, c1, c2⟩ := fm_cells hk1)
  refine (HH.out _ (((Kept.refl _).alloc _).trans hk1)).mono ?_
  rintro e w2 ⟨⟨b, rfl⟩, hk2⟩
  have K2 := Lib.hid (hk1.trans hk2)
  clear hk1 hk2 c0 c1 c2
  obtain ⟨c0, c1, c2⟩ := fm_cells K2.out
  cases b with
  | true =>
    go_wp2_with (go_at_call 9; refine (HA.out _).mono ?_; rintro e w3 ⟨rfl, hk3⟩)
    go_ret
    exact ⟨rfl, (((Kept.refl _).alloc _).trans K2.out).trans hk3⟩
  | false =>
    go_wp2_with fail
    refine (HC.out _ (((Kept.refl _).alloc _).trans K2.out)).mono ?_
    rintro e w3 ⟨rfl, hk3⟩
    have K3 := Lib.hid (K2.out.trans hk3)
    clear hk3 c0 c1 c2
    obtain ⟨c0, c1, c2⟩ := fm_cells K3.out
    by_cases hq0 : q = 0
    · have hck := HQ.out.symm.trans hq0
      subst hq0
      rw [errV_zero]
      obtain ⟨V, T, hok⟩ := ok_of _ hck
      have e1 : vars = (V : Int) := hok.vars
      have e2 : top = (T : Int) := hok.top
      obtain ⟨m, hm⟩ : ∃ m, m = X % 6 := ⟨_, rfl⟩
      have hm5 : m ≤ 5 := by omega
      have em : (X : Int) % 6 = (m : Int) := by omega
      obtain ⟨qb, R, F, hby, hcs⟩ := byR_cases V T ⟨vars, nodes, top⟩ m (by omega)
      obtain ⟨qc, L, hcc, hcut⟩ := tcut_num (.slice a n c) ⟨vars, nodes, top⟩ V T hok hck ⟨a, n, c, rfl⟩
      subst e1 e2
      have HVK := Lib.hid (fun W (hk : Kept w3 W) => HV.out.kept (((((Kept.refl _).alloc _).trans K3.out)).trans hk))
      have HB : Hid (∀ W, Kept w3 W → Calls Tryz.prog 11 #[.agg #[.int .i64 V, .slice a n c, .int .i64 T], .int .i64 m] W fun e w' => (∃ kv fv, e = .returned (.tuple #[.agg #[kv, fv], errV qb]) ∧ IntsAt w' kv (ofN R) ∧ IntsAt w' fv (ofN F)) ∧ Kept W w') := Lib.hid fun W hk => by
        have h := Tr.tby_any (.slice a n c) ⟨V, nodes, T⟩ V T m W (HVK.out W hk) hok hck
        rw [hby] at h
        exact h
      have HT := Lib.hid (fun W (hk : Kept w3 W) => hcut W (HVK.out W hk))
      have HREF : Hid (∀ q, (q = 4 ∨ q = 7) → ∀ W, Calls Tryz.prog 18 #[.iface 64 (.int .i64 (q : Nat))] W fun e w' => e = .returned (.bool true) ∧ W = w') := Lib.hid fun q hq W => by
        have h := refused_any q hq W
        rw [errV_pos (by omega)] at h
        exact h
      obtain ⟨E1, hE1⟩ : ∃ E, E = errV qb := ⟨_, rfl⟩
      obtain ⟨E2, hE2⟩ : ∃ E, E = errV qc := ⟨_, rfl⟩
      rw [← hE1] at HB
      rw [← hE2] at HT
      have hkc : qb = 0 → qc = 0 → R = L.filter (fun r => decide (pc r ≤ m)) ∧ Good R ∧ Good F ∧ (∀ r ∈ R, Mk r) ∧ (∀ r ∈ F, Mk r) ∧ L.length ≤ 1024 ∧ (∀ r ∈ L, Mk r) := by
        intro h1 h2
        rcases hcs with ⟨_, hs, htt⟩ | ⟨h, _⟩
        · rcases hcc with ⟨_, _, p, hp, rfl⟩ | ⟨h, _⟩
          · have hT := topT_says hok hs _ htt
            obtain ⟨hg, hmk, _⟩ := topK_says hok hs hp
            refine ⟨?_, hT.goodR, hT.goodF, hT.mkR, hT.mkF, hg.2, hmk⟩
            have hRR := hT.kept_cuts hok hs (Tr.overP_mono m) hp
            simp only at hRR
            rw [hRR]
            refine List.filter_congr fun r _ => ?_
            unfold Tr.overP
            rw [Bool.eq_iff_iff]; simp
          · omega
        · omega
      have hqb : qb = 0 ∨ (qb = 4 ∨ qb = 7) := hcs.elim (fun h => .inl h.1) (fun h => .inr h.1)
      have hqc : qc = 0 ∨ (qc = 4 ∨ qc = 7) := hcc.elim (fun h => .inl h.1) (fun h => .inr h.1)
      have HKC := Lib.hid hkc
      have HE1 := Lib.hid hE1
      have HE2 := Lib.hid hE2
      clear hby hcs hcc hcut hok hck hkc hm hE1 hE2
      go_wp2_with fail
      refine (HB.out _ (Kept.refl _)).mono ?_
      rintro e w4 ⟨⟨kv, fv, rfl, hkv, hfv⟩, hk4⟩
      obtain ⟨ka, kn, kc, rfl⟩ := hkv.shape
      obtain ⟨fa, fn, fc, rfl⟩ := hfv.shape
      have K4 := Lib.hid (K3.out.trans hk4)
      have HK34 := Lib.hid hk4
      have HKV := Lib.hid hkv
      have HFV := Lib.hid hfv
      clear c0 c1 c2 hkv hfv hk4
      have c0' := (fm_cells (K4.out.alloc (.cells #[.slice ka kn kc, .slice fa fn fc] 29))).1
      have c1' := (fm_cells (K4.out.alloc (.cells #[.slice ka kn kc, .slice fa fn fc] 29))).2.1
      have c2' := (fm_cells (K4.out.alloc (.cells #[.slice ka kn kc, .slice fa fn fc] 29))).2.2
      go_wp2_with fail
      refine (HT.out _ (HK34.out.alloc _)).mono ?_
      rintro e w5 ⟨⟨tv, rfl, htv⟩, hk5⟩
      obtain ⟨ta, tn, tc, rfl⟩ := htv.1.ints.shape
      have d0 := hk5.cell (p := ⟨w4.heap.size, 0, none⟩) (v := .slice ka kn kc) (by simp)
      have d1 := hk5.cell (p := ⟨w4.heap.size, 1, none⟩) (v := .slice fa fn fc) (by simp)
      have K5 := Lib.hid ((K4.out.alloc _).trans hk5)
      have HK45 := Lib.hid (((Kept.refl w4).alloc _).trans hk5)
      have HTV := Lib.hid htv
      clear hk5 htv c0' c1' c2'
      have hE1 := HE1.out
      have hE2 := HE2.out
      clear HE1 HE2
      rcases hqb with hqb | hqb
      · rw [hqb, errV_zero] at hE1
        rcases hqc with hqc | hqc
        · rw [hqc, errV_zero] at hE2
          obtain ⟨hR, hg1, hg2, hm1, hm2, hl, hml⟩ := HKC.out hqb hqc
          subst hE1 hE2
          have HCA := Lib.hid (fun W (hk : Kept w5 W) => fcheck_good (.slice ka kn kc) R W ⟨(HKV.out.kept HK45.out).kept hk, hm1⟩ hg1)
          have HCB := Lib.hid (fun W (hk : Kept w5 W) => fcheck_good (.slice fa fn fc) F W ⟨(HFV.out.kept HK45.out).kept hk, hm2⟩ hg2)
          obtain ⟨ln, hln⟩ : ∃ ln, ln = L.length := ⟨_, rfl⟩
          have htn : tn = ln := by
            obtain ⟨_, _, h, _⟩ := HTV.out.1.ints
            injection h with _ h _
            rw [h, hln]; simp [ofN]
          subst htn
          rw [← hln] at hl
          have HLN := Lib.hid hln
          have HRR := Lib.hid hR
          have HML := Lib.hid hml
          clear hqb hqc hR hg1 hg2 hm1 hm2 hln hml
          go_wp2
          go_loopg [10, 61] tn (fun kx s10 s61 wr => ∃ (k : Nat) (vo : Value), s10 = vo ∧ s61 = .int .i64 k ∧ k ≤ tn ∧ tn - k ≤ kx ∧ Hid (OwnInts wr w5.heap.size vo (ofN ((L.take k).filter (fun r => decide (pc r ≤ m))))) ∧ Hid (Kept w5 wr))
          case atStart => exact ⟨0, _, rfl, rfl, Nat.zero_le _, by omega, Lib.hid (by simpa [ofN] using OwnInts.nil _ _), Lib.hid (Kept.refl _)⟩
          case round =>
            obtain ⟨k, vo, rfl, rfl, hk, hkx, HO, HK⟩ := hrel
            have hsz := HK.out.size
            obtain ⟨ao, no, co, hvo⟩ := HO.out.ints.shape
            subst hvo
            by_cases hlt : k < tn
            · have hkl : k < L.length := by have := HLN.out; omega
              obtain ⟨b, o, rfl, hrd⟩ := SetsAt.cell (HTV.out.sets.kept HK.out) k hkl
              have hmk := HML.out L[k] (List.getElem_mem _)
              have HCT := Lib.hid (fun W => count_any hmk W)
              have hst : (L.take (k + 1)).filter (fun r => decide (pc r ≤ m)) = (L.take k).filter (fun r => decide (pc r ≤ m)) ++ (if pc L[k] ≤ m then [L[k]] else []) := by
                rw [List.take_succ_eq_append_getElem hkl, List.filter_append]
                by_cases h : pc L[k] ≤ m <;> simp [h]
              have hlen : (ofN ((L.take k).filter (fun r => decide (pc r ≤ m)))).length ≤ 1024 := by
                simp only [ofN, List.length_map]
                exact Nat.le_trans (List.length_filter_le ..) (by rw [List.length_take]; omega)
              obtain ⟨r, hr⟩ : ∃ r, r = L[k] := ⟨_, rfl⟩
              obtain ⟨pr, hpr⟩ : ∃ pr, pr = pc L[k] := ⟨_, rfl⟩
              rw [← hpr] at hst HCT
              rw [← hr] at hst hrd HCT
              have HST := Lib.hid hst
              have HLE := Lib.hid hlen
              have hkn : (k : Int) < (tn : Int) := by omega
              clear hmk hst hlen hr hpr
              by_cases hle : pr ≤ m
              · have hb : (pr : Int) ≤ (m : Int) := by omega
                have HST2 := HST.out
                rw [if_pos hle] at HST2
                have HS2 := Lib.hid HST2
                clear HST2
                go_wp2_with (first | (go_at_call 19; refine (HCT.out _).mono ?_; rintro e w6 ⟨rfl, rfl⟩) | (at_builtin; refine app_int rfl _ _ rfl w5.heap.size _ (ofN ((L.take k).filter (fun r => decide (pc r ≤ m)))) rfl (HO.out.kept ((Kept.refl _).alloc _)) _ (r : Int) rfl (by simp) (by have := HLE.out; omega) (by simp; omega) ?_; intro v7 w7 hown7 _ hb7; have O7 := Lib.hid hown7; have HB7 := Lib.hid hb7; clear hown7 hb7))
                go_roundg (tn - (k + 1))
                case measure => omega
                case rel => exact ⟨k + 1, v7, rfl, by go_num, by omega, Nat.le_refl _, Lib.hid (by rw [HS2.out]; have := O7.out; simpa [ofN] using this), Lib.hid ((HK.out.alloc _).app HB7.out)⟩
              · have hb : ¬ (pr : Int) ≤ (m : Int) := by omega
                have HST2 := HST.out
                rw [if_neg hle, List.append_nil] at HST2
                have HS2 := Lib.hid HST2
                clear HST2
                go_wp2_with (go_at_call 19; refine (HCT.out _).mono ?_; rintro e w6 ⟨rfl, rfl⟩)
                go_roundg (tn - (k + 1))
                case measure => omega
                case rel => exact ⟨k + 1, _, rfl, by go_num, by omega, Nat.le_refl _, Lib.hid (by rw [HS2.out]; exact HO.out), HK⟩
            · have hke : k = tn := by omega
              have HW : Hid (IntsAt wr (.slice ao no co) (ofN R)) := Lib.hid (by have h := HO.out; rw [hke, HLN.out, List.take_length, ← HRR.out] at h; exact h.ints)
              have HIN : Hid (Calls Tryz.prog 20 #[.slice ka kn kc, .slice ao no co] wr fun e w' => e = .returned (.bool true) ∧ Kept wr w') := Lib.hid (ints_true _ _ wr ((HKV.out.kept HK45.out).kept HK.out) HW.out)
              have g0 := HK.out.cell d0
              have g1 := HK.out.cell d1
              clear hke HO
              go_wp2_with (first | (go_at_call 20; refine HIN.out.mono ?_; rintro e w6 ⟨rfl, hk6⟩; have h0 := hk6.cell g0; have h1 := hk6.cell g1; have HK6 := Lib.hid (HK.out.trans hk6); clear hk6) | (go_at_call 21; (with_reducible refine (HCA.out _ HK6.out).mono ?_); rintro e w7 ⟨rfl, hk7⟩; have i1 := hk7.cell h1; have HK7 := Lib.hid (HK6.out.trans hk7); clear hk7) | (go_at_call 21; (with_reducible refine (HCB.out _ HK7.out).mono ?_); rintro e w8 ⟨rfl, hk8⟩))
              go_ret
              exact ⟨rfl, (((Kept.refl _).alloc _).trans K5.out).trans (HK7.out.trans hk8)⟩
        · rw [errV_pos (by omega)] at hE2
          subst hE1 hE2
          have HR2 := Lib.hid (HREF.out qc hqc)
          clear hqb hqc
          go_wp2_with (go_at_call 18; refine (HR2.out _).mono ?_; rintro e w6 ⟨rfl, rfl⟩)
          go_ret
          exact ⟨rfl, ((Kept.refl _).alloc _).trans K5.out⟩
      · rw [errV_pos (by omega)] at hE1
        have HR1 := Lib.hid (HREF.out qb hqb)
        rcases hqc with hqc | hqc
        · rw [hqc, errV_zero] at hE2
          subst hE1 hE2
          clear hqb hqc
          go_wp2_with (go_at_call 18; refine (HR1.out _).mono ?_; rintro e w6 ⟨rfl, rfl⟩)
          go_ret
          exact ⟨rfl, ((Kept.refl _).alloc _).trans K5.out⟩
        · rw [errV_pos (by omega)] at hE2
          subst hE1 hE2
          have HR2 := Lib.hid (HREF.out qc hqc)
          clear hqb hqc
          go_wp2_with (first | (go_at_call 18; (with_reducible refine (HR1.out _).mono ?_); rintro e w6 ⟨rfl, rfl⟩) | (go_at_call 18; (with_reducible refine (HR2.out _).mono ?_); rintro e w6 ⟨rfl, rfl⟩))
          go_ret
          exact ⟨rfl, ((Kept.refl _).alloc _).trans K5.out⟩
    · have hqe : errV q = .iface 64 (.int .i64 q) := errV_pos hq0
      rw [hqe]
      clear hqe
      go_wp2_with (go_at_call 9; refine (HA.out _).mono ?_; rintro e w4 ⟨rfl, hk4⟩)
      go_ret
      exact ⟨rfl, (((Kept.refl _).alloc _).trans K3.out).trans hk4⟩
end Go.Proofs.YtngbjdaaogbjmaaGreat
