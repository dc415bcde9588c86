import Derived.Test.YtngbjdaaogbjmaaGreatY13m
import Derived.Test.YtngbjdaaogbjmaaGreatY14m
import Derived.Test.YtngbjdaaogbjmaaGreatY8m
import Derived.Test.YtngbjdaaogbjmaaGreatK4
/-
  Walks: truncate.run.
-/
namespace Go.Proofs.YtngbjdaaogbjmaaGreat.Tr
open Go.RowKit

def TRes (w : World) (e : Ending) : Option (List Nat × List Nat) → Prop
  | none => e = .returned (.tuple #[.agg #[.slice none 0 0, .slice none 0 0], errV 4])
  | some p => ∃ kv fv, e = .returned (.tuple #[.agg #[kv, fv], errV 0]) ∧ IntsAt w kv (ofN (minK (p.1.map evW))) ∧ IntsAt w fv (ofN p.2)
theorem low_kept {w L W : World} {gl : Nat} (h : Kept w L) (hb : Below gl L W) (h1 : w.heap.size ≤ gl) (_h2 : gl ≤ L.heap.size) : Kept w W :=
  ⟨hb.os.trans h.os, hb.tape.trans h.tape, hb.output.trans h.output, Nat.le_trans h.size hb.size, fun k hk => (hb.block k (by omega)).trans (h.block k hk)⟩
theorem own_one (w : World) (B c : Nat) (hB : B ≤ w.heap.size) (hc : RowLt 152 c) : OwnRws (w.alloc (.cells #[.int .i64 (evW c), .int .u64 (loW c), .int .u64 (hiW c)] 109)) B (.slice (some ⟨w.heap.size, 0, none⟩) 1 1) [c] :=
  ⟨⟨by simp [rcells], .inr ⟨w.heap.size, 1, _, rfl, hB, heap_alloc_new w _, Nat.le_refl _, by unfold maxLen; omega, by simp, by simp [rcells]⟩⟩, by simp, by simpa using hc⟩
set_option maxRecDepth 100000 in
set_option maxHeartbeats 4000000 in
theorem trun_any (v : Value) (f : Fm) (V T bk : Nat) (kk : Int) (w : World) (hv : NodesAt w v f.nodes) (hok : Ok f V T) (hs : synK V T f = true) (hbk : w.cell? ⟨bk, 0, none⟩ = some (.int .i64 kk)) :
    Calls Tryz.prog 38 #[.agg #[.int .i64 V, v, .int .i64 T], .func (.func 39) #[] #[.pointer (some ⟨bk, 0, none⟩)]] w fun e w' => TRes w' e (topT V T (overP kk) f.nodes) ∧ Kept w w' := by
  have HNR := Lib.hid (fun i (hi : i < f.nodes.length) => node_read hv i hi)
  have HOK := Lib.hid hok
  have HMO := Lib.hid (fun i (hi : i < f.nodes.length) h => kind_mono hok hs i hi h)
  have HBK := Lib.hid hbk
  have hsh : ∃ a n c, v = .slice a n c := by obtain ⟨a, c, h, _⟩ := hv; exact ⟨a, _, c, h⟩
  obtain ⟨a, n, c, rfl⟩ := hsh
  have h24 := hok.v24
  have h128 := hok.n128
  have htl := hok.tlt
  have hc0 : RowLt 152 (cond V (T : Int)) := rowLt_mono (rowLt_cond (V := V) (m := 128) (by omega) h24) (by omega)
  have HPE := Lib.hid (pend_start hok (overP kk))
  have HW0 : Hid (∀ (W' : World) (gl : Nat), W'.cell? ⟨gl, 0, none⟩ = some (.int .i64 V) → Calls Tryz.prog 76 #[.pointer (some ⟨gl, 0, none⟩), .agg #[.int .i64 0, .int .u64 0, .int .u64 0], .int .i64 T] W' fun e w' => e = .returned (rowV (cond V (T : Int))) ∧ Kept W' w') := Lib.hid fun W' gl hc => by
    have := cadd_any gl 0 V (T : Int) W' hc (fun j hj => by simp at hj) h24 (by omega)
    rw [show withC V 0 (T : Int) = cond V (T : Int) by unfold withC; simp] at this
    exact this
  obtain ⟨c0, hc00⟩ : ∃ c0, c0 = cond V (T : Int) := ⟨_, rfl⟩
  rw [← hc00] at hc0 HPE HW0
  have HC0 := Lib.hid hc0
  obtain ⟨x0, hx0⟩ : ∃ x, x = evW c0 := ⟨_, rfl⟩
  obtain ⟨x1, hx1⟩ : ∃ x, x = loW c0 := ⟨_, rfl⟩
  obtain ⟨x2, hx2⟩ : ∃ x, x = hiW c0 := ⟨_, rfl⟩
  have HOW : Hid (∀ (W : World) (B : Nat), B ≤ W.heap.size → OwnRws (W.alloc (.cells #[.int .i64 x0, .int .u64 x1, .int .u64 x2] 109)) B (.slice (some ⟨W.heap.size, 0, none⟩) 1 1) [c0]) := Lib.hid fun W B hB => by rw [hx0, hx1, hx2]; exact own_one W B c0 hB hc0
  unfold rowV at HW0
  rw [← hx0, ← hx1, ← hx2] at HW0
  clear hv hok hs hc0 hc00 hx0 hx1 hx2 htl hbk
  go_enter Tryz.func38, Tryz.ntmps38
  go_wp2_with fail
  have hr0 : ∀ W : World, RowAt (W.alloc (.cells #[.int .i64 V, .slice a n c, .int .i64 T, .func (.func 39) #[] #[.pointer (some ⟨bk, 0, none⟩)], .slice none 0 0, .slice none 0 0, .slice none 0 0] 107)) W.heap.size 107 [.int .i64 V, .slice a n c, .int .i64 T, .func (.func 39) #[] #[.pointer (some ⟨bk, 0, none⟩)], .slice none 0 0, .slice none 0 0, .slice none 0 0] := fun W => by
    have := RowAt.made W #[.int .i64 V, .slice a n c, .int .i64 T, .func (.func 39) #[] #[.pointer (some ⟨bk, 0, none⟩)], .slice none 0 0, .slice none 0 0, .slice none 0 0] 107
    simpa using this
  refine (HW0.out _ (w.heap.size + 1 + 1) ?_).mono ?_
  · have h := (hr0 ((w.alloc (.cells #[.int .i64 V, .slice a n c, .int .i64 T] 24)).alloc (.cells #[.slice none 0 0, .slice none 0 0] 29))).cell (i := 0) (by simp)
    rw [show ((w.alloc (.cells #[.int .i64 V, .slice a n c, .int .i64 T] 24)).alloc (.cells #[.slice none 0 0, .slice none 0 0] 29)).heap.size = w.heap.size + 1 + 1 by simp] at h
    exact h
  rintro e w1 ⟨rfl, hk1⟩
  obtain ⟨gl, hgl⟩ : ∃ gl, gl = w.heap.size + 1 + 1 := ⟨_, rfl⟩
  have hr1 : RowAt w1 gl 107 [.int .i64 V, .slice a n c, .int .i64 T, .func (.func 39) #[] #[.pointer (some ⟨bk, 0, none⟩)], .slice none 0 0, .slice none 0 0, .slice none 0 0] := by
    rw [hgl]
    have := (hr0 _).kept hk1
    simpa using this
  have ht4 : RowAt w1 (w.heap.size + 1) 29 [.slice none 0 0, .slice none 0 0] := by
    have h := RowAt.made (w.alloc (.cells #[.int .i64 V, .slice a n c, .int .i64 T] 24)) #[.slice none 0 0, .slice none 0 0] 29
    have := (h.kept ((Kept.refl _).alloc _)).kept hk1
    simpa using this
  have HT1 := Lib.hid ht4
  have hkw : Kept w w1 := (((Kept.refl w).alloc _).alloc _).alloc _ |>.trans hk1
  have hsz1 := hk1.size
  simp at hsz1
  have f5 := hr1.free 5
  have d5 := hr1.cell (i := 5) (by simp)
  simp only [List.getElem_cons_succ, List.getElem_cons_zero] at d5
  have HR1 := Lib.hid hr1
  have HKW := Lib.hid hkw
  have HGL : Hid (gl = w.heap.size + 1 + 1 ∧ gl < w1.heap.size) := Lib.hid ⟨hgl, hr1.lt⟩
  have hgl1 : gl < w1.heap.size := hr1.lt
  clear hr1 hkw hk1 hr0 ht4
  rw [← hgl]
  clear hgl
  go_wp2
  obtain ⟨L1, hL1⟩ : ∃ L : World, L = (w1.setCell ⟨gl, 5, none⟩ (.slice (some ⟨w1.heap.size, 0, none⟩) 1 1)).alloc (.cells #[.int .i64 x0, .int .u64 x1, .int .u64 x2] 109) := ⟨_, rfl⟩
  rw [← hL1]
  have HR2 : Hid (RowAt L1 gl 107 [.int .i64 V, .slice a n c, .int .i64 T, .func (.func 39) #[] #[.pointer (some ⟨bk, 0, none⟩)], .slice none 0 0, .slice (some ⟨w1.heap.size, 0, none⟩) 1 1, .slice none 0 0]) := Lib.hid (by
    rw [hL1]
    have := (HR1.out.store 5 (.slice (some ⟨w1.heap.size, 0, none⟩) 1 1)).kept ((Kept.refl _).alloc (.cells #[.int .i64 x0, .int .u64 x1, .int .u64 x2] 109))
    simpa using this)
  have HM2 : Hid (RwsAt L1 (.slice (some ⟨w1.heap.size, 0, none⟩) 1 1) [c0]) := Lib.hid (by
    rw [hL1]
    have h := (HOW.out (w1.setCell ⟨gl, 5, none⟩ (.slice (some ⟨w1.heap.size, 0, none⟩) 1 1)) 0 (Nat.zero_le _)).at
    simpa using h)
  have HK2 : Hid (Kept w L1) := Lib.hid (by
    rw [hL1]
    exact (HKW.out.store (by have := HGL.out.1; omega) 5 _).alloc _)
  have HT2 : Hid (RowAt L1 (w.heap.size + 1) 29 [.slice none 0 0, .slice none 0 0]) := Lib.hid (by
    rw [hL1]
    exact (HT1.out.other (by have := HGL.out.1; omega) 5 _).kept ((Kept.refl _).alloc _))
  have hglL : w.heap.size + 1 < gl ∧ gl < L1.heap.size := by
    have h1 := HGL.out.1
    have h2 := HR2.out.lt
    omega
  have HGB := Lib.hid hglL
  obtain ⟨nl, hnl⟩ : ∃ nl, nl = f.nodes.length := ⟨_, rfl⟩
  have HNL := Lib.hid hnl
  have hbkw : bk < w.heap.size := World.block_lt_of_cell? w _ HBK.out
  have HBW := Lib.hid hbkw
  clear hL1 f5 d5 hgl1 hglL hnl hbkw hsz1
  go_loopg [8] nl (fun kx s8 wr => ∃ (M F : List Nat) (m : Nat) (rv mv fv : Value), m ≤ kx ∧ Hid (Pend V T f (overP kk) M F m) ∧ Hid (RowAt wr gl 107 [.int .i64 V, .slice a n c, .int .i64 T, .func (.func 39) #[] #[.pointer (some ⟨bk, 0, none⟩)], rv, mv, fv]) ∧ Hid (RwsAt wr mv M) ∧ Hid (OwnInts wr (gl + 1) fv (ofN F)) ∧ Hid (Below gl L1 wr))
  case atStart => exact ⟨[c0], [], _, _, _, _, Nat.le_of_eq HNL.out.symm, HPE, HR2, HM2, Lib.hid (OwnInts.nil _ _), Lib.hid (Below.refl _ _)⟩
  case round =>
    obtain ⟨wo, rfl⟩ : ∃ wo : World, wo = wr := ⟨_, rfl⟩
    obtain ⟨M, F, m, rv, mv, fv, hmk, HP, HR, HM, HF, HB⟩ := hrel
    have HKW : Hid (Kept w wo) := Lib.hid (low_kept HK2.out HB.out (by have := HGB.out; omega) (by have := HGB.out; omega))
    have hglo : gl < wo.heap.size := HR.out.lt
    have HSE := Lib.hid (settle_any gl bk (gl + 1) kk M F mv fv wo HR.out HM.out HP.out.len HF.out HP.out.lenF HP.out.mkF (HKW.out.cell HBK.out) (by omega) (by omega))
    have HT4 : Hid (RowAt wo (w.heap.size + 1) 29 [.slice none 0 0, .slice none 0 0]) := Lib.hid (HT2.out.same (HB.out.block _ HGB.out.1))
    have HTT : Hid (RowAt wo gl 107 [.int .i64 V, .slice a n c, .int .i64 T, .func (.func 39) #[] #[.pointer (some ⟨bk, 0, none⟩)], rv, mv, fv] → True) := Lib.hid fun _ => trivial
    clear HTT
    go_wp2_with fail
    refine HSE.out.mono ?_
    rintro e w2 hs
    unfold SPost at hs
    by_cases hbig : 1024 < (settleR (overP kk) M).length ∨ 1024 < (settleF (overP kk) M F).length
    · rw [if_pos hbig] at hs
      obtain ⟨rfl, hb2⟩ := hs
      have HN : Hid (topT V T (overP kk) f.nodes = none) := Lib.hid (HP.out.bad hbig)
      have ht2 : RowAt w2 (w.heap.size + 1) 29 [.slice none 0 0, .slice none 0 0] := HT4.out.same (hb2.block _ HGB.out.1)
      have HK3 : Hid (Kept w w2) := Lib.hid (low_kept HKW.out hb2 (by have := HGB.out; omega) (by omega))
      have g0 := ht2.cell (i := 0) (by simp)
      have g1 := ht2.cell (i := 1) (by simp)
      have g2 := ht2.free 0
      have g3 := ht2.free 1
      simp only [List.getElem_cons_succ, List.getElem_cons_zero] at g0 g1
      rw [errV_pos (by decide)]
      clear hbig hb2 ht2 HSE
      go_wp2
      refine bodyPost_ret (v := .tuple #[.agg #[.slice none 0 0, .slice none 0 0], errV 4]) ?_ rfl ⟨by rw [HN.out]; rfl, (HK3.out.store (by omega) 0 _).store (by omega) 1 _⟩
      simp [results, Tryz.results38, go_sem, g0, g1, errV]
    · rw [if_neg hbig] at hs
      obtain ⟨rfl, rv2, fv2, R, hperm, hr2, hor, hof, hfr⟩ := hs
      have HTS : Hid (TStand V T f (overP kk) R (settleF (overP kk) M F) m) := Lib.hid (HP.out.good R hperm hbig)
      have HB2 : Hid (Below gl wo w2) := Lib.hid (frm_low hfr hglo fun g hg => by have := (HF.out.1.lt g hg).1; omega)
      have hlr : R.length ≤ 1024 := by rw [hperm.length_eq]; omega
      obtain ⟨F2, hF2⟩ : ∃ F2, F2 = settleF (overP kk) M F := ⟨_, rfl⟩
      rw [← hF2] at HTS hof
      have HR2' := Lib.hid hr2
      have HOR := Lib.hid hor
      have HOF := Lib.hid hof
      obtain ⟨va, vc, hrv⟩ := hor.at.shape
      obtain ⟨ln, hln⟩ : ∃ ln, ln = R.length := ⟨_, rfl⟩
      rw [← hln] at hrv hlr
      subst hrv
      have HLN := Lib.hid hln
      have r4 := hr2.cell (i := 4) (by simp)
      simp only [List.getElem_cons_succ, List.getElem_cons_zero] at r4
      have hgl2 : gl < w2.heap.size := hr2.lt
      have hsz2 : wo.heap.size ≤ w2.heap.size := hfr.size
      rw [errV_zero]
      clear hbig hperm hr2 hor hof hfr hF2 hln HSE HP
      go_wp2
      go_loopg [8, 40] ln (fun kx s8 s40 wq => ∃ (k : Nat) (r : Int), s8 = .int .i64 r ∧ s40 = .int .i64 k ∧ k ≤ ln ∧ ln - k ≤ kx ∧ -1 ≤ r ∧ r ≤ 1000 ∧ Hid (GTop (R.take k) r) ∧ Hid (Kept w2 wq))
      case atStart => exact ⟨0, -1, rfl, rfl, Nat.zero_le _, by omega, by omega, by omega, Lib.hid GTop.nil, Lib.hid (Kept.refl _)⟩
      case round =>
        obtain ⟨k, r, rfl, rfl, hk, hkx, hr0, hr9, HG, HK⟩ := hrel
        by_cases hlt : k < ln
        · have hkl : k < R.length := by have := HLN.out; omega
          obtain ⟨b, o, rfl, hrg⟩ := (HOR.out.at.kept HK.out).get k hkl
          have hql := HOR.out.2.2 R[k] (List.getElem_mem _)
          have HS : Hid (∀ s, TopIs R[k] s → GTop (R.take (k + 1)) (max r s)) := Lib.hid fun s hs => by
            rw [List.take_succ_eq_append_getElem hkl]; exact HG.out.snoc hs
          have HNO : Hid (∀ W, Calls Tryz.prog 78 #[rowV R[k]] W fun e w' => (∃ r : Int, e = .returned (.int .i64 r) ∧ TopIs R[k] r ∧ -1 ≤ r ∧ r ≤ 1000) ∧ Kept W w') := Lib.hid fun W => tnode_any hql W
          obtain ⟨q, hqq⟩ : ∃ q, q = R[k] := ⟨_, rfl⟩
          rw [← hqq] at HS HNO hrg
          unfold rowV at HNO
          unfold rcells at hrg
          generalize evW q = z0 at *
          generalize loW q = z1 at *
          generalize hiW q = z2 at *
          have HRG := Lib.hid hrg
          have hkn : (k : Int) < (ln : Int) := by omega
          clear hrg hql hqq
          go_wp2_with (first | (with_reducible refine wpList_load_mid rfl 109 _ rfl b (o + k * 3) rfl _ _ HRG.out Tryz.underlying109 rfl (by kernel_rfl) ?_) | (go_at_call 78; refine (HNO.out _).mono ?_; rintro e w4 ⟨⟨s, rfl, hts, hs0, hs9⟩, hk4⟩; have HTS4 := Lib.hid hts; have HK4 := Lib.hid (((Kept.refl wr).alloc _).trans hk4); clear hts hk4))
          go_roundg (ln - (k + 1))
          case measure => omega
          case rel => exact ⟨k + 1, max r s, rfl, by go_num, by omega, Nat.le_refl _, by omega, by omega, Lib.hid (HS.out s HTS4.out), Lib.hid (HK.out.trans HK4.out)⟩
        · have hke : k = ln := by omega
          have HGR : Hid (GTop R r) := Lib.hid (by have h := HG.out; rw [hke, HLN.out, List.take_length] at h; exact h)
          have HRQ : Hid (RowAt wr gl 107 [.int .i64 V, .slice a n c, .int .i64 T, .func (.func 39) #[] #[.pointer (some ⟨bk, 0, none⟩)], .slice va ln vc, mv, fv2]) := Lib.hid (HR2'.out.kept HK.out)
          have r4 := HRQ.out.cell (i := 4) (by simp)
          have f5 := HRQ.out.free 5
          have r5 := HRQ.out.cell (i := 5) (by simp)
          simp only [List.getElem_cons_succ, List.getElem_cons_zero] at r4 r5
          have hszq := HK.out.size
          clear hke
          by_cases hneg : r < 0
          · have HDN : Hid (∃ R', topT V T (overP kk) f.nodes = some (R', F2) ∧ R.Perm R') := Lib.hid (HTS.out.done fun c hc j hj => by have := HGR.out.1 c hc j hj; omega)
            go_wp2
            obtain ⟨wq, rfl⟩ : ∃ wq : World, wq = wr := ⟨_, rfl⟩
            have HKQ := HK
            go_loopg [13, 87] ln (fun kx s13 s87 wz => ∃ (k : Nat) (vo : Value), s13 = vo ∧ s87 = .int .i64 k ∧ k ≤ ln ∧ ln - k ≤ kx ∧ Hid (OwnInts wz wq.heap.size vo (ofN ((R.take k).map evW))) ∧ Hid (Kept wq wz))
            case atStart => exact ⟨0, _, rfl, rfl, Nat.zero_le _, by omega, Lib.hid (by simpa [ofN] using OwnInts.nil _ _), Lib.hid (Kept.refl _)⟩
            case round =>
              obtain ⟨k, vo, rfl, rfl, hk, hkx, HO, HKZ⟩ := hrel
              have hsz := HKZ.out.size
              obtain ⟨ao, no, co, hvo⟩ := HO.out.ints.shape
              subst hvo
              by_cases hlt : k < ln
              · have hkl : k < R.length := by have := HLN.out; omega
                obtain ⟨b, o, rfl, hrg⟩ := (HOR.out.at.kept (HKQ.out.trans HKZ.out)).get k hkl
                have hnext : ofN ((R.take (k + 1)).map evW) = ofN ((R.take k).map evW) ++ [((evW R[k] : Nat) : Int)] := by unfold ofN; rw [List.take_succ_eq_append_getElem hkl, List.map_append, List.map_append]; rfl
                have hlen : (ofN ((R.take k).map evW)).length = k := by simp [ofN]; omega
                have hkn : (k : Int) < (ln : Int) := by omega
                obtain ⟨q, hqq⟩ : ∃ q, q = R[k] := ⟨_, rfl⟩
                rw [← hqq] at hrg hnext
                unfold rcells at hrg
                have HRG := Lib.hid hrg
                generalize evW q = z0 at *
                generalize loW q = z1 at *
                generalize hiW q = z2 at *
                have HNX := Lib.hid hnext
                clear hrg hqq hnext
                go_wp2_with (first | (with_reducible refine wpList_load_mid rfl 109 _ rfl b (o + k * 3) rfl _ _ HRG.out Tryz.underlying109 rfl (by kernel_rfl) ?_) | (at_builtin; refine app_int rfl _ _ rfl wq.heap.size _ (ofN ((R.take k).map evW)) rfl (HO.out.kept (((Kept.refl _).alloc _).alloc _)) _ (z0 : Int) rfl (by simp) (by rw [hlen]; omega) (by simp; omega) ?_; intro v7 w7 hown7 _ hb7; have O7 := Lib.hid hown7; have HB7 := Lib.hid hb7; clear hown7 hb7))
                go_roundg (ln - (k + 1))
                case measure => omega
                case rel => exact ⟨k + 1, v7, rfl, by go_num, by omega, Nat.le_refl _, Lib.hid (by rw [HNX.out]; exact O7.out), Lib.hid (((HKZ.out.alloc _).alloc _).app HB7.out)⟩
              · have hke : k = ln := by omega
                have HFI : Hid (IntsAt wr (.slice ao no co) (ofN (R.map evW))) := Lib.hid (by have h := HO.out; rw [hke, HLN.out, List.take_length] at h; exact h.ints)
                have HMIN : Hid (∀ W, Kept wr W → Calls Tryz.prog 82 #[.slice ao no co] W fun e w' => ∃ v', e = .returned v' ∧ OwnSets w' W.heap.size v' (minK (R.map evW)) ∧ Kept W w') := Lib.hid fun W hk => tminimal_any _ _ W (fun t ht => by obtain ⟨r, _, rfl⟩ := List.mem_map.1 ht; exact evW_lt r) (HFI.out.kept hk) (by simp; have := HLN.out; omega)
                have HRZ : Hid (RowAt wr gl 107 [.int .i64 V, .slice a n c, .int .i64 T, .func (.func 39) #[] #[.pointer (some ⟨bk, 0, none⟩)], .slice va ln vc, mv, fv2]) := Lib.hid (HRQ.out.kept HKZ.out)
                have HTZ : Hid (RowAt wr (w.heap.size + 1) 29 [.slice none 0 0, .slice none 0 0]) := Lib.hid (((HT4.out.same (HB2.out.block _ HGB.out.1)).kept HKQ.out).kept HKZ.out)
                have HKA : Hid (Kept w wr) := Lib.hid (((low_kept HKW.out HB2.out (by have := HGB.out; omega) (by omega)).trans HKQ.out).trans HKZ.out)
                obtain ⟨f0, fn, fc, hfv⟩ := HOF.out.ints.shape
                subst hfv
                have HFV : Hid (IntsAt wr (.slice f0 fn fc) (ofN F2)) := Lib.hid ((HOF.out.ints.kept HKQ.out).kept HKZ.out)
                have r6 := HRZ.out.cell (i := 6) (by simp)
                simp only [List.getElem_cons_succ, List.getElem_cons_zero] at r6
                have r6' := (Kept.refl wr).drew.cell r6
                clear hke HO
                go_wp2
                go_region_with (go_at_call 82; (with_reducible refine (HMIN.out _ (by first | exact Kept.refl _ | exact (Kept.refl _).drew)).mono ?_); rintro e w9 ⟨v9, rfl, hs9, hk9⟩; obtain ⟨a9, n9, c9, rfl⟩ := hs9.1.ints.shape; have HS9 := Lib.hid hs9; have HK9 := Lib.hid hk9; have e6 := hk9.cell r6'; have ht9 := (HTZ.out.kept (Kept.refl _).drew).kept hk9; have g0 := ht9.cell (i := 0) (by simp); have g1 := ht9.cell (i := 1) (by simp); have g2 := ht9.free 0; have g3 := ht9.free 1; simp only [List.getElem_cons_succ, List.getElem_cons_zero] at g0 g1; clear hs9 hk9 ht9)
                all_goals go_wp2
                all_goals
                  have HW9 : Hid (Kept wr w9) := Lib.hid (by first | exact HK9.out | exact (Kept.refl _).drew.trans HK9.out)
                  have hsw := HW9.out.size
                  have hlt4 : w.heap.size + 1 < wo.heap.size := by have := HGB.out; omega
                  refine bodyPost_ret (v := .tuple #[.agg #[.slice a9 n9 c9, .slice f0 fn fc], errV 0]) ?_ rfl ⟨?_, ((HKA.out.trans HW9.out).store (by omega) 0 _).store (by omega) 1 _⟩
                  · simp [results, Tryz.results38, go_sem, g0, g1, errV]
                  · obtain ⟨R', hR, hp⟩ := HDN.out
                    rw [hR]
                    refine ⟨_, _, rfl, ?_, ?_⟩
                    · have h := HS9.out.1
                      rw [minK_perm (hp.map evW)] at h
                      exact (ints_frm (ints_frm (gl := w.heap.size + 1) h (by first | omega | (simp; omega)) (frm_store (Kept.refl _) 0 _)) (by first | omega | (simp; omega)) (frm_store (Kept.refl _) 1 _)).ints
                    · have h := ((HOF.out.kept HKQ.out).kept HKZ.out).kept HW9.out
                      exact (ints_frm (ints_frm (gl := w.heap.size + 1) h hlt4 (frm_store (Kept.refl _) 0 _)) hlt4 (frm_store (Kept.refl _) 1 _)).ints
          · obtain ⟨i, rfl, hib⟩ := HGR.out.2.resolve_left (by omega)
            obtain ⟨wq, rfl⟩ : ∃ wq : World, wq = wr := ⟨_, rfl⟩
            have HKQ := HK
            have HHI : Hid ((∃ c ∈ R, c.testBit (24 + i) = true) ∧ ∀ c ∈ R, ∀ j, c.testBit (24 + j) = true → j ≤ i) := Lib.hid ⟨hib, fun c hc j hj => by have := HGR.out.1 c hc j hj; omega⟩
            obtain ⟨him, hmk2, _⟩ := HTS.out.at hib HHI.out.2
            have hle := HTS.out.le
            have hil : i < f.nodes.length := by omega
            obtain ⟨b, o, n', c', ua, un, uc, hveq, hn', hnr⟩ := HNR.out i hil
            injection hveq with q1 q2 q3
            subst q1
            rw [← q2, ← HNL.out] at hn'
            have hkd := HMO.out i hil hmk2
            have hok := HOK.out
            have h128' := hok.n128
            have hargs : ∀ a ∈ f.nodes[i].args, 0 ≤ a ∧ a < (V : Int) + 128 := fun a ha => by have := hok.args i hil a ha; omega
            have h16 : f.nodes[i].args.length ≤ 16 := argsOk_le (hok.argc i hil)
            have hk4 : f.nodes[i].kind = 4 → 1 ≤ f.nodes[i].k ∧ f.nodes[i].k ≤ f.nodes[i].args.length := fun h4 => by
              have := hok.arity i hil
              unfold chkK at this
              rw [if_neg (by omega), if_pos h4] at this
              split at this
              · omega
              · cases this
            have hx : f.nodes.getD i noNd = f.nodes[i] := by simp [List.getD_eq_getElem?_getD, hil]
            obtain ⟨x, hxx⟩ : ∃ x, x = f.nodes[i] := ⟨_, rfl⟩
            rw [← hxx] at hnr hkd hargs h16 hk4 hx
            have HX := Lib.hid hx
            have hin : i < n := by rw [hn', HNL.out]; exact hil
            have hi128 : i < 128 := by omega
            have hwg : w.heap.size ≤ gl := by have := HGB.out; omega
            have HRE : Hid (∀ W q u LL, Kept w W → gl ≤ W.heap.size → CutAt (.int .i64 V) (.slice (some ⟨b, o, none⟩) n c) (.int .i64 T) (.func (.func 39) #[] #[.pointer (some ⟨bk, 0, none⟩)]) (.slice va ln vc) fv2 W gl gl u LL → LL.length ≤ 4097 → RowLt 152 q → Calls Tryz.prog 80 #[.pointer (some ⟨gl, 0, none⟩), rowV q, .int .i64 i] W fun e w' => e = .returned (.tuple #[]) ∧ ∃ v', CutAt (.int .i64 V) (.slice (some ⟨b, o, none⟩) n c) (.int .i64 T) (.func (.func 39) #[] #[.pointer (some ⟨bk, 0, none⟩)]) (.slice va ln vc) fv2 w' gl gl v' ((LL ++ expandK V x i q).take 4097) ∧ Frm gl u v' W w') := Lib.hid fun W q u LL hk hg2 hL hl hq =>
              replace_any gl gl V i q b o n c x ua un uc u LL W (Nat.le_refl _) h24 hg2 hL hl hq hi128 hin (hnr W hk).1 (fun w' hb => (hnr w' (low_kept hk hb hwg hg2)).2) hargs h16 hkd hk4
            clear hnr hkd hargs h16 hk4 hx hxx hok hmk2 q2 q3 hn' hib hil
            have HKWQ : Hid (Kept w wq) := Lib.hid ((low_kept HKW.out HB2.out hwg (by omega)).trans HKQ.out)
            have hglq : gl < wq.heap.size := HRQ.out.lt
            go_wp2
            obtain ⟨L3, hL3⟩ : ∃ L : World, L = wq.setCell ⟨gl, 5, none⟩ (.slice none 0 0) := ⟨_, rfl⟩
            have HFR3 : Hid (Frm gl (.slice none 0 0) (.slice none 0 0) wq L3) := Lib.hid (by rw [hL3]; exact frm_store (Kept.refl _) 5 _)
            have HR3 : Hid (RowAt L3 gl 107 [.int .i64 V, .slice (some ⟨b, o, none⟩) n c, .int .i64 T, .func (.func 39) #[] #[.pointer (some ⟨bk, 0, none⟩)], .slice va ln vc, .slice none 0 0, fv2]) := Lib.hid (by rw [hL3]; have := HRQ.out.store 5 (.slice none 0 0); simpa using this)
            rw [← hL3]
            have hsz3 := HFR3.out.size
            have HB3 : Hid (Below gl wo L3) := Lib.hid ((HB2.out.trans (HKQ.out.mono (by omega))).trans (frm_low HFR3.out hglq (by simp [Value.ownBlock])))
            have HOR3 : Hid (OwnRws L3 wo.heap.size (.slice va ln vc) R) := Lib.hid (rws_frm (HOR.out.kept HKQ.out) hglo HFR3.out)
            have HOF3 : Hid (OwnInts L3 wo.heap.size fv2 (ofN F2)) := Lib.hid (ints_frm (HOF.out.kept HKQ.out) hglo HFR3.out)
            clear hL3 r4 r5 f5
            go_loopg [59] ln (fun kx s59 wz => ∃ (k : Nat) (vk : Value), s59 = .int .i64 k ∧ k ≤ ln ∧ ln - k ≤ kx ∧ Hid (CutAt (.int .i64 V) (.slice (some ⟨b, o, none⟩) n c) (.int .i64 T) (.func (.func 39) #[] #[.pointer (some ⟨bk, 0, none⟩)]) (.slice va ln vc) fv2 wz gl gl vk ((expK V x i (R.take k)).take 4097)) ∧ Hid (Frm gl (.slice none 0 0) vk L3 wz))
            case atStart => exact ⟨0, _, rfl, Nat.zero_le _, by omega, Lib.hid ⟨HR3.out, by simpa [expK] using OwnRws.nil _ _⟩, Lib.hid (Frm.of_kept (Kept.refl _))⟩
            case round =>
              obtain ⟨k, vk, rfl, hk, hkx, HLI, HFI⟩ := hrel
              have hszi := HFI.out.size
              have HBI : Hid (Below gl wo wr) := Lib.hid (HB3.out.trans (frm_low HFI.out (by omega) (by simp [Value.ownBlock])))
              have HKI : Hid (Kept w wr) := Lib.hid (low_kept HKW.out HBI.out hwg (by omega))
              by_cases hlt : k < ln
              · have hkl : k < R.length := by have := HLN.out; omega
                have hrows := (rws_frm HOR3.out hglo HFI.out).at
                obtain ⟨b2, o2, rfl, hrg⟩ := hrows.get k hkl
                have hql := hrows.lt R[k] (List.getElem_mem _)
                have hnext := expK_take V x i R k hkl
                obtain ⟨q, hqq⟩ : ∃ q, q = R[k] := ⟨_, rfl⟩
                rw [← hqq] at hrg hql hnext
                unfold expR at hnext
                have hlen : ((expK V x i (R.take k)).take 4097).length ≤ 4097 := by rw [List.length_take]; omega
                have HHAS : Hid (∀ W, Calls Tryz.prog 79 #[rowV q, .int .i64 i] W fun e w' => e = .returned (.bool (q.testBit (24 + i))) ∧ Kept W w') := Lib.hid fun W => thas_any hql i hi128 W
                unfold rowV at HHAS
                have hkn : (k : Int) < (ln : Int) := by omega
                cases hq : q.testBit (24 + i) with
                | true =>
                  rw [hq] at hnext HHAS
                  rw [if_pos rfl] at hnext
                  have HE2 : Hid (∀ W, Kept wr W → Calls Tryz.prog 80 #[.pointer (some ⟨gl, 0, none⟩), .agg #[.int .i64 (evW q), .int .u64 (loW q), .int .u64 (hiW q)], .int .i64 i] W fun e w' => e = .returned (.tuple #[]) ∧ ∃ v', Hid (CutAt (.int .i64 V) (.slice (some ⟨b, o, none⟩) n c) (.int .i64 T) (.func (.func 39) #[] #[.pointer (some ⟨bk, 0, none⟩)]) (.slice (some ⟨b2, o2, none⟩) ln vc) fv2 w' gl gl v' ((expK V x i (R.take (k + 1))).take 4097)) ∧ Hid (Frm gl (.slice none 0 0) v' L3 w')) := Lib.hid fun W hk => by
                    have := HRE.out W q vk _ (HKI.out.trans hk) (by have := hk.size; omega) (CutAt.kept HLI.out hk) hlen hql
                    rw [take_app, ← hnext] at this
                    exact this.mono fun _ _ ⟨h1, v', h2, h3⟩ => ⟨h1, v', Lib.hid h2, Lib.hid ((HFI.out.trans (Frm.of_kept hk)).trans h3)⟩
                  have HRG : Hid (wr.rangeAt b2 (o2 + k * 3) [.int .i64 (evW q), .int .u64 (loW q), .int .u64 (hiW q)]) := Lib.hid hrg
                  generalize evW q = z0 at *
                  generalize loW q = z1 at *
                  generalize hiW q = z2 at *
                  clear hrg hql hnext hqq hrows hq HRE HLI HFI hlen
                  go_wp2_with (first | (with_reducible refine wpList_load_mid rfl 109 _ rfl b2 (o2 + k * 3) rfl _ _ HRG.out Tryz.underlying109 rfl (by kernel_rfl) ?_) | (go_at_call 79; refine (HHAS.out _).mono ?_; rintro e w4 ⟨rfl, hk4⟩; have b0 := hk4.cell (p := ⟨wr.heap.size, 0, none⟩) (v := .int .i64 z0) (by simp); have b1 := hk4.cell (p := ⟨wr.heap.size, 1, none⟩) (v := .int .u64 z1) (by simp); have b2 := hk4.cell (p := ⟨wr.heap.size, 2, none⟩) (v := .int .u64 z2) (by simp); have HK4 := Lib.hid (((Kept.refl wr).alloc _).trans hk4); clear hk4) | (go_at_call 80; refine (HE2.out _ HK4.out).mono ?_; rintro e w5 ⟨rfl, v', h3, h4⟩))
                  go_roundg (ln - (k + 1))
                  case measure => omega
                  case rel => exact ⟨k + 1, v', by go_num, by omega, Nat.le_refl _, h3, h4⟩
                | false =>
                  rw [hq] at hnext HHAS
                  rw [if_neg (by simp)] at hnext
                  have HE2 : Hid (∀ W, Kept wr W → Calls Tryz.prog 81 #[.pointer (some ⟨gl, 0, none⟩), .agg #[.int .i64 (evW q), .int .u64 (loW q), .int .u64 (hiW q)]] W fun e w' => e = .returned (.tuple #[]) ∧ ∃ v', Hid (CutAt (.int .i64 V) (.slice (some ⟨b, o, none⟩) n c) (.int .i64 T) (.func (.func 39) #[] #[.pointer (some ⟨bk, 0, none⟩)]) (.slice (some ⟨b2, o2, none⟩) ln vc) fv2 w' gl gl v' ((expK V x i (R.take (k + 1))).take 4097)) ∧ Hid (Frm gl (.slice none 0 0) v' L3 w')) := Lib.hid fun W hk => by
                    have := emit_any gl gl q vk _ W (CutAt.kept HLI.out hk) hql hlen (Nat.le_refl _)
                    rw [addK_take hlen, take_app, ← hnext] at this
                    exact this.mono fun _ _ ⟨h1, v', h2, h3⟩ => ⟨h1, v', Lib.hid h2, Lib.hid ((HFI.out.trans (Frm.of_kept hk)).trans h3)⟩
                  have HRG : Hid (wr.rangeAt b2 (o2 + k * 3) [.int .i64 (evW q), .int .u64 (loW q), .int .u64 (hiW q)]) := Lib.hid hrg
                  generalize evW q = z0 at *
                  generalize loW q = z1 at *
                  generalize hiW q = z2 at *
                  clear hrg hql hnext hqq hrows hq HRE HLI HFI hlen
                  go_wp2_with (first | (with_reducible refine wpList_load_mid rfl 109 _ rfl b2 (o2 + k * 3) rfl _ _ HRG.out Tryz.underlying109 rfl (by kernel_rfl) ?_) | (go_at_call 79; refine (HHAS.out _).mono ?_; rintro e w4 ⟨rfl, hk4⟩; have b0 := hk4.cell (p := ⟨wr.heap.size, 0, none⟩) (v := .int .i64 z0) (by simp); have b1 := hk4.cell (p := ⟨wr.heap.size, 1, none⟩) (v := .int .u64 z1) (by simp); have b2 := hk4.cell (p := ⟨wr.heap.size, 2, none⟩) (v := .int .u64 z2) (by simp); have HK4 := Lib.hid (((Kept.refl wr).alloc _).trans hk4); clear hk4) | (go_at_call 81; refine (HE2.out _ HK4.out).mono ?_; rintro e w5 ⟨rfl, v', h3, h4⟩))
                  go_roundg (ln - (k + 1))
                  case measure => omega
                  case rel => exact ⟨k + 1, v', by go_num, by omega, Nat.le_refl _, h3, h4⟩
              · have hke : k = ln := by omega
                have HLE : Hid (CutAt (.int .i64 V) (.slice (some ⟨b, o, none⟩) n c) (.int .i64 T) (.func (.func 39) #[] #[.pointer (some ⟨bk, 0, none⟩)]) (.slice va ln vc) fv2 wr gl gl vk ((expK V x i R).take 4097)) := Lib.hid (by have h := HLI.out; rw [hke, HLN.out, List.take_length] at h; rw [HLN.out]; exact h)
                have c5 := HLE.out.1.cell (i := 5) (by simp)
                simp only [List.getElem_cons_succ, List.getElem_cons_zero] at c5
                obtain ⟨vka, vkc, hvk⟩ := HLE.out.2.at.shape
                obtain ⟨n2, hn2⟩ : ∃ n2, n2 = ((expK V x i R).take 4097).length := ⟨_, rfl⟩
                rw [← hn2] at hvk
                subst hvk
                have HN2 := Lib.hid hn2
                have hn2b : n2 ≤ 4097 := by rw [hn2, List.length_take]; omega
                clear hke hn2 HLI HRE
                by_cases hbig : 4096 < n2
                · have hbig' : (n2 : Int) > 4096 := by omega
                  have HNO : Hid (topT V T (overP kk) f.nodes = none) := Lib.hid (HTS.out.full HHI.out.1 HHI.out.2 (by rw [HX.out]; have := HN2.out; rw [List.length_take] at this; omega))
                  have ht4 := HT4.out.same (HBI.out.block _ HGB.out.1)
                  have g0 := ht4.cell (i := 0) (by simp)
                  have g1 := ht4.cell (i := 1) (by simp)
                  have g2 := ht4.free 0
                  have g3 := ht4.free 1
                  simp only [List.getElem_cons_succ, List.getElem_cons_zero] at g0 g1
                  clear ht4 HLE
                  go_wp2
                  refine bodyPost_ret (v := .tuple #[.agg #[.slice none 0 0, .slice none 0 0], errV 4]) ?_ rfl ⟨by rw [HNO.out]; rfl, (HKI.out.store (by omega) 0 _).store (by omega) 1 _⟩
                  simp [results, Tryz.results38, go_sem, g0, g1, errV]
                · have hbig' : ¬ (n2 : Int) > 4096 := by omega
                  have hfull : (expK V x i R).length ≤ 4096 := by have := HN2.out; rw [List.length_take] at this; omega
                  have HPN := Lib.hid (pend_next HOK.out HTS.out HHI.out.1 HHI.out.2 (by rw [HX.out]; exact hfull))
                  rw [HX.out] at HPN
                  have HLE2 : Hid (CutAt (.int .i64 V) (.slice (some ⟨b, o, none⟩) n c) (.int .i64 T) (.func (.func 39) #[] #[.pointer (some ⟨bk, 0, none⟩)]) (.slice va ln vc) fv2 wr gl gl (.slice vka n2 vkc) (expK V x i R)) := Lib.hid (by have h := HLE.out; rw [List.take_of_length_le (by omega)] at h; exact h)
                  clear hfull HLE
                  go_wp2
                  go_roundg i
                  case measure => omega
                  case rel => exact ⟨expK V x i R, F2, i, _, _, _, Nat.le_refl _, Lib.hid HPN.out.2, Lib.hid HLE2.out.1, Lib.hid HLE2.out.2.at, Lib.hid ((ints_frm HOF3.out hglo HFI.out).mono (by omega)), Lib.hid (HB.out.trans HBI.out)⟩
end Go.Proofs.YtngbjdaaogbjmaaGreat.Tr
