import Derived.WalkKit
import Derived.WalkSpells
import Derived.WalkLawsBesides
import Derived.Deep.QuietTactic
import Derived.BigQuiet
import Derived.Lib.Hide
import Derived.Shelf.Abstract
import Derived.Deep.RegionWith
import Derived.Laws.AppendOwnNone
import Derived.Lib.AppendZerosOnto
import Derived.Lib.SliceRun
import Derived.Lib.SlicesCompact
import Derived.Shelf.SlSortCmp.NoneTotal
import Derived.Maps.OwnOps
import Derived.Maps.OwnSet
import Derived.Maps.Views
import Derived.Deep.MidRow
import Derived.Deep.RegionHeld3
import Derived.Deep.AppendLies
import Derived.Deep.RegionLaw
import Derived.IntWalk
import Derived.StillTailTactics
import Derived.RegionTactic
import Derived.BigRegion
import Derived.ChangeAlike
import Derived.Sort.LotD2
import Derived.Sort.LotA
import Derived.Shelf.SlSortCmp.PdqK
import Derived.Deep.DeepCutAuto
import Derived.Lib.ItoaNum
import Derived.Deep.LoopGhost
import Derived.ProofKit
import Derived.OpenShut
import Derived.SizedLaws
import Derived.Lib.SmallJoins
import Derived.Deep.Slices
import Derived.Deep.Fields
import Derived.Deep.Strs
import Derived.Carry
import Derived.Lib.BitFns
import Derived.Deep.CutBlock
import Derived.Test.YteodabnjkikogaaGreatQ9
import Derived.Test.YteodabnjkikogaaGreatQ8
import Derived.Test.YteodabnjkikogaaGreatQ7
import Derived.Test.YteodabnjkikogaaGreatQ4
import Derived.Test.YteodabnjkikogaaGreatQ1
import Derived.Test.YteodabnjkikogaaGreatQ3
import Derived.Test.YteodabnjkikogaaGreatRows
import Derived.Test.YteodabnjkikogaaGreatChecked
/-
  Walks: truncate.run, with ByProb's closure. Printed by conv_prob.py.
-/
namespace Go.Proofs.YteodabnjkikogaaGreat.Tr
open Go.RowKit

set_option maxRecDepth 100000 in
set_option maxHeartbeats 4000000 in
theorem trunP_any (v : Value) (f : Fm) (V T bk bl : Nat) (PP : Nat → Bool) (w : World) (hv : NodesAt w v f.nodes) (hok : Ok f V T) (hs : synK V T f = true) (hov : ∀ (W' : World), Kept w W' → ∀ e : Nat, Mk e → Calls Tryz.prog 34 #[.int .i64 e, .pointer (some ⟨bk, 0, none⟩), .pointer (some ⟨bl, 0, none⟩)] W' fun e' w' => e' = .returned (.bool (PP e)) ∧ Kept W' w') :
    Calls Tryz.prog 33 #[.agg #[.int .i64 V, v, .int .i64 T], .func (.func 34) #[] #[.pointer (some ⟨bk, 0, none⟩), .pointer (some ⟨bl, 0, none⟩)]] w fun e w' => TRes w' e (topT V T PP f.nodes) ∧ Kept w w' := by
  have HNR := Lib.hid (fun i (hi : i < f.nodes.length) => node_read hv i hi)
  have HOK := Lib.hid hok
  have HMO := Lib.hid (fun i (hi : i < f.nodes.length) h => kind_mono hok hs i hi h)
  have HBK := Lib.hid hov
  have hsh : ∃ a n c, v = .slice a n c := by obtain ⟨a, c, h, _⟩ := hv; exact ⟨a, _, c, h⟩
  obtain ⟨a, n, c, rfl⟩ := hsh
  have h24 := hok.v24
  have h128 := hok.n128
  have htl := hok.tlt
  have hc0 : RowLt 152 (cond V (T : Int)) := rowLt_mono (rowLt_cond (V := V) (m := 128) (by omega) h24) (by omega)
  have HPE := Lib.hid (pend_start hok PP)
  have HW0 : Hid (∀ (W' : World) (gl : Nat), W'.cell? ⟨gl, 0, none⟩ = some (.int .i64 V) → Calls Tryz.prog 69 #[.pointer (some ⟨gl, 0, none⟩), .agg #[.int .i64 0, .int .u64 0, .int .u64 0], .int .i64 T] W' fun e w' => e = .returned (rowV (cond V (T : Int))) ∧ Kept W' w') := Lib.hid fun W' gl hc => by
    have := cadd_any gl 0 V (T : Int) W' hc (fun j hj => by simp at hj) h24 (by omega)
    rw [show withC V 0 (T : Int) = cond V (T : Int) by unfold withC; simp] at this
    exact this
  obtain ⟨c0, hc00⟩ : ∃ c0, c0 = cond V (T : Int) := ⟨_, rfl⟩
  rw [← hc00] at hc0 HPE HW0
  have HC0 := Lib.hid hc0
  obtain ⟨x0, hx0⟩ : ∃ x, x = evW c0 := ⟨_, rfl⟩
  obtain ⟨x1, hx1⟩ : ∃ x, x = loW c0 := ⟨_, rfl⟩
  obtain ⟨x2, hx2⟩ : ∃ x, x = hiW c0 := ⟨_, rfl⟩
  have HOW : Hid (∀ (W : World) (B : Nat), B ≤ W.heap.size → OwnRws (W.alloc (.cells #[.int .i64 x0, .int .u64 x1, .int .u64 x2] 103)) B (.slice (some ⟨W.heap.size, 0, none⟩) 1 1) [c0]) := Lib.hid fun W B hB => by rw [hx0, hx1, hx2]; exact own_one W B c0 hB hc0
  unfold rowV at HW0
  rw [← hx0, ← hx1, ← hx2] at HW0
  clear hv hok hs hc0 hc00 hx0 hx1 hx2 htl hov
  go_enter Tryz.func33, Tryz.ntmps33
  go_wp2_with fail
  have hr0 : ∀ W : World, RowAt (W.alloc (.cells #[.int .i64 V, .slice a n c, .int .i64 T, .func (.func 34) #[] #[.pointer (some ⟨bk, 0, none⟩), .pointer (some ⟨bl, 0, none⟩)], .slice none 0 0, .slice none 0 0, .slice none 0 0] 101)) W.heap.size 101 [.int .i64 V, .slice a n c, .int .i64 T, .func (.func 34) #[] #[.pointer (some ⟨bk, 0, none⟩), .pointer (some ⟨bl, 0, none⟩)], .slice none 0 0, .slice none 0 0, .slice none 0 0] := fun W => by
    have := RowAt.made W #[.int .i64 V, .slice a n c, .int .i64 T, .func (.func 34) #[] #[.pointer (some ⟨bk, 0, none⟩), .pointer (some ⟨bl, 0, none⟩)], .slice none 0 0, .slice none 0 0, .slice none 0 0] 101
    simpa using this
  refine (HW0.out _ (w.heap.size + 1 + 1) ?_).mono ?_
  · have h := (hr0 ((w.alloc (.cells #[.int .i64 V, .slice a n c, .int .i64 T] 24)).alloc (.cells #[.slice none 0 0, .slice none 0 0] 34))).cell (i := 0) (by simp)
    rw [show ((w.alloc (.cells #[.int .i64 V, .slice a n c, .int .i64 T] 24)).alloc (.cells #[.slice none 0 0, .slice none 0 0] 34)).heap.size = w.heap.size + 1 + 1 by simp] at h
    exact h
  rintro e w1 ⟨rfl, hk1⟩
  obtain ⟨gl, hgl⟩ : ∃ gl, gl = w.heap.size + 1 + 1 := ⟨_, rfl⟩
  have hr1 : RowAt w1 gl 101 [.int .i64 V, .slice a n c, .int .i64 T, .func (.func 34) #[] #[.pointer (some ⟨bk, 0, none⟩), .pointer (some ⟨bl, 0, none⟩)], .slice none 0 0, .slice none 0 0, .slice none 0 0] := by
    rw [hgl]
    have := (hr0 _).kept hk1
    simpa using this
  have ht4 : RowAt w1 (w.heap.size + 1) 34 [.slice none 0 0, .slice none 0 0] := by
    have h := RowAt.made (w.alloc (.cells #[.int .i64 V, .slice a n c, .int .i64 T] 24)) #[.slice none 0 0, .slice none 0 0] 34
    have := (h.kept ((Kept.refl _).alloc _)).kept hk1
    simpa using this
  have HT1 := Lib.hid ht4
  have hkw : Kept w w1 := (((Kept.refl w).alloc _).alloc _).alloc _ |>.trans hk1
  have hsz1 := hk1.size
  simp at hsz1
  have f5 := hr1.free 5
  have d5 := hr1.cell (i := 5) (by simp)
  simp only [List.getElem_cons_succ, List.getElem_cons_zero] at d5
  have HR1 := Lib.hid hr1
  have HKW := Lib.hid hkw
  have HGL : Hid (gl = w.heap.size + 1 + 1 ∧ gl < w1.heap.size) := Lib.hid ⟨hgl, hr1.lt⟩
  have hgl1 : gl < w1.heap.size := hr1.lt
  clear hr1 hkw hk1 hr0 ht4
  rw [← hgl]
  clear hgl
  go_wp2
  obtain ⟨L1, hL1⟩ : ∃ L : World, L = (w1.setCell ⟨gl, 5, none⟩ (.slice (some ⟨w1.heap.size, 0, none⟩) 1 1)).alloc (.cells #[.int .i64 x0, .int .u64 x1, .int .u64 x2] 103) := ⟨_, rfl⟩
  rw [← hL1]
  have HR2 : Hid (RowAt L1 gl 101 [.int .i64 V, .slice a n c, .int .i64 T, .func (.func 34) #[] #[.pointer (some ⟨bk, 0, none⟩), .pointer (some ⟨bl, 0, none⟩)], .slice none 0 0, .slice (some ⟨w1.heap.size, 0, none⟩) 1 1, .slice none 0 0]) := Lib.hid (by
    rw [hL1]
    have := (HR1.out.store 5 (.slice (some ⟨w1.heap.size, 0, none⟩) 1 1)).kept ((Kept.refl _).alloc (.cells #[.int .i64 x0, .int .u64 x1, .int .u64 x2] 103))
    simpa using this)
  have HM2 : Hid (RwsAt L1 (.slice (some ⟨w1.heap.size, 0, none⟩) 1 1) [c0]) := Lib.hid (by
    rw [hL1]
    have h := (HOW.out (w1.setCell ⟨gl, 5, none⟩ (.slice (some ⟨w1.heap.size, 0, none⟩) 1 1)) 0 (Nat.zero_le _)).at
    simpa using h)
  have HK2 : Hid (Kept w L1) := Lib.hid (by
    rw [hL1]
    exact (HKW.out.store (by have := HGL.out.1; omega) 5 _).alloc _)
  have HT2 : Hid (RowAt L1 (w.heap.size + 1) 34 [.slice none 0 0, .slice none 0 0]) := Lib.hid (by
    rw [hL1]
    exact (HT1.out.other (by have := HGL.out.1; omega) 5 _).kept ((Kept.refl _).alloc _))
  have hglL : w.heap.size + 1 < gl ∧ gl < L1.heap.size := by
    have h1 := HGL.out.1
    have h2 := HR2.out.lt
    omega
  have HGB := Lib.hid hglL
  obtain ⟨nl, hnl⟩ : ∃ nl, nl = f.nodes.length := ⟨_, rfl⟩
  have HNL := Lib.hid hnl
  clear hL1 f5 d5 hgl1 hglL hnl hsz1
  go_loopg [8] nl (fun kx s8 wr => ∃ (M F : List Nat) (m : Nat) (rv mv fv : Value), m ≤ kx ∧ Hid (Pend V T f PP M F m) ∧ Hid (RowAt wr gl 101 [.int .i64 V, .slice a n c, .int .i64 T, .func (.func 34) #[] #[.pointer (some ⟨bk, 0, none⟩), .pointer (some ⟨bl, 0, none⟩)], rv, mv, fv]) ∧ Hid (RwsAt wr mv M) ∧ Hid (OwnInts wr (gl + 1) fv (ofN F)) ∧ Hid (Below gl L1 wr))
  case atStart => exact ⟨[c0], [], _, _, _, _, Nat.le_of_eq HNL.out.symm, HPE, HR2, HM2, Lib.hid (OwnInts.nil _ _), Lib.hid (Below.refl _ _)⟩
  case round =>
    obtain ⟨wo, rfl⟩ : ∃ wo : World, wo = wr := ⟨_, rfl⟩
    obtain ⟨M, F, m, rv, mv, fv, hmk, HP, HR, HM, HF, HB⟩ := hrel
    have HKW : Hid (Kept w wo) := Lib.hid (low_kept HK2.out HB.out (by have := HGB.out; omega) (by have := HGB.out; omega))
    have hglo : gl < wo.heap.size := HR.out.lt
    have HSE := Lib.hid (settleP_any gl bk bl (gl + 1) PP M F mv fv wo HR.out HM.out HP.out.len HF.out HP.out.lenF HP.out.mkF (fun W' hk e he => HBK.out W' (HKW.out.trans hk) e he) (by omega) (by omega))
    have HT4 : Hid (RowAt wo (w.heap.size + 1) 34 [.slice none 0 0, .slice none 0 0]) := Lib.hid (HT2.out.same (HB.out.block _ HGB.out.1))
    have HTT : Hid (RowAt wo gl 101 [.int .i64 V, .slice a n c, .int .i64 T, .func (.func 34) #[] #[.pointer (some ⟨bk, 0, none⟩), .pointer (some ⟨bl, 0, none⟩)], rv, mv, fv] → True) := Lib.hid fun _ => trivial
    clear HTT
    go_wp2_with fail
    refine HSE.out.mono ?_
    rintro e w2 hs
    unfold SPost at hs
    by_cases hbig : 1024 < (settleR PP M).length ∨ 1024 < (settleF PP M F).length
    · rw [if_pos hbig] at hs
      obtain ⟨rfl, hb2⟩ := hs
      have HN : Hid (topT V T PP f.nodes = none) := Lib.hid (HP.out.bad hbig)
      have ht2 : RowAt w2 (w.heap.size + 1) 34 [.slice none 0 0, .slice none 0 0] := HT4.out.same (hb2.block _ HGB.out.1)
      have HK3 : Hid (Kept w w2) := Lib.hid (low_kept HKW.out hb2 (by have := HGB.out; omega) (by omega))
      have g0 := ht2.cell (i := 0) (by simp)
      have g1 := ht2.cell (i := 1) (by simp)
      have g2 := ht2.free 0
      have g3 := ht2.free 1
      simp only [List.getElem_cons_succ, List.getElem_cons_zero] at g0 g1
      rw [errV_pos (by decide)]
      clear hbig hb2 ht2 HSE
      go_wp2
      refine bodyPost_ret (v := .tuple #[.agg #[.slice none 0 0, .slice none 0 0], errV 4]) ?_ rfl ⟨by rw [HN.out]; rfl, (HK3.out.store (by omega) 0 _).store (by omega) 1 _⟩
      simp [results, Tryz.results33, go_sem, g0, g1, errV]
    · rw [if_neg hbig] at hs
      obtain ⟨rfl, rv2, fv2, R, hperm, hr2, hor, hof, hfr⟩ := hs
      have HTS : Hid (TStand V T f PP R (settleF PP M F) m) := Lib.hid (HP.out.good R hperm hbig)
      have HB2 : Hid (Below gl wo w2) := Lib.hid (frm_low hfr hglo fun g hg => by have := (HF.out.1.lt g hg).1; omega)
      have hlr : R.length ≤ 1024 := by rw [hperm.length_eq]; omega
      obtain ⟨F2, hF2⟩ : ∃ F2, F2 = settleF PP M F := ⟨_, rfl⟩
      rw [← hF2] at HTS hof
      have HR2' := Lib.hid hr2
      have HOR := Lib.hid hor
      have HOF := Lib.hid hof
      obtain ⟨va, vc, hrv⟩ := hor.at.shape
      obtain ⟨ln, hln⟩ : ∃ ln, ln = R.length := ⟨_, rfl⟩
      rw [← hln] at hrv hlr
      subst hrv
      have HLN := Lib.hid hln
      have r4 := hr2.cell (i := 4) (by simp)
      simp only [List.getElem_cons_succ, List.getElem_cons_zero] at r4
      have hgl2 : gl < w2.heap.size := hr2.lt
      have hsz2 : wo.heap.size ≤ w2.heap.size := hfr.size
      rw [errV_zero]
      clear hbig hperm hr2 hor hof hfr hF2 hln HSE HP
      go_wp2
      go_loopg [8, 40] ln (fun kx s8 s40 wq => ∃ (k : Nat) (r : Int), s8 = .int .i64 r ∧ s40 = .int .i64 k ∧ k ≤ ln ∧ ln - k ≤ kx ∧ -1 ≤ r ∧ r ≤ 1000 ∧ Hid (GTop (R.take k) r) ∧ Hid (Kept w2 wq))
      case atStart => exact ⟨0, -1, rfl, rfl, Nat.zero_le _, by omega, by omega, by omega, Lib.hid GTop.nil, Lib.hid (Kept.refl _)⟩
      case round =>
        obtain ⟨k, r, rfl, rfl, hk, hkx, hr0, hr9, HG, HK⟩ := hrel
        by_cases hlt : k < ln
        · have hkl : k < R.length := by have := HLN.out; omega
          obtain ⟨b, o, rfl, hrg⟩ := (HOR.out.at.kept HK.out).get k hkl
          have hql := HOR.out.2.2 R[k] (List.getElem_mem _)
          have HS : Hid (∀ s, TopIs R[k] s → GTop (R.take (k + 1)) (max r s)) := Lib.hid fun s hs => by
            rw [List.take_succ_eq_append_getElem hkl]; exact HG.out.snoc hs
          have HNO : Hid (∀ W, Calls Tryz.prog 71 #[rowV R[k]] W fun e w' => (∃ r : Int, e = .returned (.int .i64 r) ∧ TopIs R[k] r ∧ -1 ≤ r ∧ r ≤ 1000) ∧ Kept W w') := Lib.hid fun W => tnode_any hql W
          obtain ⟨q, hqq⟩ : ∃ q, q = R[k] := ⟨_, rfl⟩
          rw [← hqq] at HS HNO hrg
          unfold rowV at HNO
          unfold rcells at hrg
          generalize evW q = z0 at *
          generalize loW q = z1 at *
          generalize hiW q = z2 at *
          have HRG := Lib.hid hrg
          have hkn : (k : Int) < (ln : Int) := by omega
          clear hrg hql hqq
          go_wp2_with (first | (with_reducible refine wpList_load_mid rfl 103 _ rfl b (o + k * 3) rfl _ _ HRG.out Tryz.underlying103 rfl (by kernel_rfl) ?_) | (go_at_call 71; refine (HNO.out _).mono ?_; rintro e w4 ⟨⟨s, rfl, hts, hs0, hs9⟩, hk4⟩; have HTS4 := Lib.hid hts; have HK4 := Lib.hid (((Kept.refl wr).alloc _).trans hk4); clear hts hk4))
          go_roundg (ln - (k + 1))
          case measure => omega
          case rel => exact ⟨k + 1, max r s, rfl, by go_num, by omega, Nat.le_refl _, by omega, by omega, Lib.hid (HS.out s HTS4.out), Lib.hid (HK.out.trans HK4.out)⟩
        · have hke : k = ln := by omega
          have HGR : Hid (GTop R r) := Lib.hid (by have h := HG.out; rw [hke, HLN.out, List.take_length] at h; exact h)
          have HRQ : Hid (RowAt wr gl 101 [.int .i64 V, .slice a n c, .int .i64 T, .func (.func 34) #[] #[.pointer (some ⟨bk, 0, none⟩), .pointer (some ⟨bl, 0, none⟩)], .slice va ln vc, mv, fv2]) := Lib.hid (HR2'.out.kept HK.out)
          have r4 := HRQ.out.cell (i := 4) (by simp)
          have f5 := HRQ.out.free 5
          have r5 := HRQ.out.cell (i := 5) (by simp)
          simp only [List.getElem_cons_succ, List.getElem_cons_zero] at r4 r5
          have hszq := HK.out.size
          clear hke
          by_cases hneg : r < 0
          · have HDN : Hid (∃ R', topT V T PP f.nodes = some (R', F2) ∧ R.Perm R') := Lib.hid (HTS.out.done fun c hc j hj => by have := HGR.out.1 c hc j hj; omega)
            go_wp2
            obtain ⟨wq, rfl⟩ : ∃ wq : World, wq = wr := ⟨_, rfl⟩
            have HKQ := HK
            go_loopg [13, 87] ln (fun kx s13 s87 wz => ∃ (k : Nat) (vo : Value), s13 = vo ∧ s87 = .int .i64 k ∧ k ≤ ln ∧ ln - k ≤ kx ∧ Hid (OwnInts wz wq.heap.size vo (ofN ((R.take k).map evW))) ∧ Hid (Kept wq wz))
            case atStart => exact ⟨0, _, rfl, rfl, Nat.zero_le _, by omega, Lib.hid (by simpa [ofN] using OwnInts.nil _ _), Lib.hid (Kept.refl _)⟩
            case round =>
              obtain ⟨k, vo, rfl, rfl, hk, hkx, HO, HKZ⟩ := hrel
              have hsz := HKZ.out.size
              obtain ⟨ao, no, co, hvo⟩ := HO.out.ints.shape
              subst hvo
              by_cases hlt : k < ln
              · have hkl : k < R.length := by have := HLN.out; omega
                obtain ⟨b, o, rfl, hrg⟩ := (HOR.out.at.kept (HKQ.out.trans HKZ.out)).get k hkl
                have hnext : ofN ((R.take (k + 1)).map evW) = ofN ((R.take k).map evW) ++ [((evW R[k] : Nat) : Int)] := by unfold ofN; rw [List.take_succ_eq_append_getElem hkl, List.map_append, List.map_append]; rfl
                have hlen : (ofN ((R.take k).map evW)).length = k := by simp [ofN]; omega
                have hkn : (k : Int) < (ln : Int) := by omega
                obtain ⟨q, hqq⟩ : ∃ q, q = R[k] := ⟨_, rfl⟩
                rw [← hqq] at hrg hnext
                unfold rcells at hrg
                have HRG := Lib.hid hrg
                generalize evW q = z0 at *
                generalize loW q = z1 at *
                generalize hiW q = z2 at *
                have HNX := Lib.hid hnext
                clear hrg hqq hnext
                go_wp2_with (first | (with_reducible refine wpList_load_mid rfl 103 _ rfl b (o + k * 3) rfl _ _ HRG.out Tryz.underlying103 rfl (by kernel_rfl) ?_) | (at_builtin; refine app_int rfl _ _ rfl wq.heap.size _ (ofN ((R.take k).map evW)) rfl (HO.out.kept (((Kept.refl _).alloc _).alloc _)) _ (z0 : Int) rfl (by simp) (by rw [hlen]; omega) (by simp; omega) ?_; intro v7 w7 hown7 _ hb7; have O7 := Lib.hid hown7; have HB7 := Lib.hid hb7; clear hown7 hb7))
                go_roundg (ln - (k + 1))
                case measure => omega
                case rel => exact ⟨k + 1, v7, rfl, by go_num, by omega, Nat.le_refl _, Lib.hid (by rw [HNX.out]; exact O7.out), Lib.hid (((HKZ.out.alloc _).alloc _).app HB7.out)⟩
              · have hke : k = ln := by omega
                have HFI : Hid (IntsAt wr (.slice ao no co) (ofN (R.map evW))) := Lib.hid (by have h := HO.out; rw [hke, HLN.out, List.take_length] at h; exact h.ints)
                have HMIN : Hid (∀ W, Kept wr W → Calls Tryz.prog 75 #[.slice ao no co] W fun e w' => ∃ v', e = .returned v' ∧ OwnSets w' W.heap.size v' (minK (R.map evW)) ∧ Kept W w') := Lib.hid fun W hk => tminimal_any _ _ W (fun t ht => by obtain ⟨r, _, rfl⟩ := List.mem_map.1 ht; exact evW_lt r) (HFI.out.kept hk) (by simp; have := HLN.out; omega)
                have HRZ : Hid (RowAt wr gl 101 [.int .i64 V, .slice a n c, .int .i64 T, .func (.func 34) #[] #[.pointer (some ⟨bk, 0, none⟩), .pointer (some ⟨bl, 0, none⟩)], .slice va ln vc, mv, fv2]) := Lib.hid (HRQ.out.kept HKZ.out)
                have HTZ : Hid (RowAt wr (w.heap.size + 1) 34 [.slice none 0 0, .slice none 0 0]) := Lib.hid (((HT4.out.same (HB2.out.block _ HGB.out.1)).kept HKQ.out).kept HKZ.out)
                have HKA : Hid (Kept w wr) := Lib.hid (((low_kept HKW.out HB2.out (by have := HGB.out; omega) (by omega)).trans HKQ.out).trans HKZ.out)
                obtain ⟨f0, fn, fc, hfv⟩ := HOF.out.ints.shape
                subst hfv
                have HFV : Hid (IntsAt wr (.slice f0 fn fc) (ofN F2)) := Lib.hid ((HOF.out.ints.kept HKQ.out).kept HKZ.out)
                have r6 := HRZ.out.cell (i := 6) (by simp)
                simp only [List.getElem_cons_succ, List.getElem_cons_zero] at r6
                have r6' := (Kept.refl wr).drew.cell r6
                clear hke HO
                go_wp2
                go_region_with (go_at_call 75; (with_reducible refine (HMIN.out _ (by first | exact Kept.refl _ | exact (Kept.refl _).drew)).mono ?_); rintro e w9 ⟨v9, rfl, hs9, hk9⟩; obtain ⟨a9, n9, c9, rfl⟩ := hs9.1.ints.shape; have HS9 := Lib.hid hs9; have HK9 := Lib.hid hk9; have e6 := hk9.cell r6'; have ht9 := (HTZ.out.kept (Kept.refl _).drew).kept hk9; have g0 := ht9.cell (i := 0) (by simp); have g1 := ht9.cell (i := 1) (by simp); have g2 := ht9.free 0; have g3 := ht9.free 1; simp only [List.getElem_cons_succ, List.getElem_cons_zero] at g0 g1; clear hs9 hk9 ht9)
                all_goals go_wp2
                all_goals
                  have HW9 : Hid (Kept wr w9) := Lib.hid (by first | exact HK9.out | exact (Kept.refl _).drew.trans HK9.out)
                  have hsw := HW9.out.size
                  have hlt4 : w.heap.size + 1 < wo.heap.size := by have := HGB.out; omega
                  refine bodyPost_ret (v := .tuple #[.agg #[.slice a9 n9 c9, .slice f0 fn fc], errV 0]) ?_ rfl ⟨?_, ((HKA.out.trans HW9.out).store (by omega) 0 _).store (by omega) 1 _⟩
                  · simp [results, Tryz.results33, go_sem, g0, g1, errV]
                  · obtain ⟨R', hR, hp⟩ := HDN.out
                    rw [hR]
                    refine ⟨_, _, rfl, ?_, ?_⟩
                    · have h := HS9.out.1
                      rw [minK_perm (hp.map evW)] at h
                      exact (ints_frm (ints_frm (gl := w.heap.size + 1) h (by first | omega | (simp; omega)) (frm_store (Kept.refl _) 0 _)) (by first | omega | (simp; omega)) (frm_store (Kept.refl _) 1 _)).ints
                    · have h := ((HOF.out.kept HKQ.out).kept HKZ.out).kept HW9.out
                      exact (ints_frm (ints_frm (gl := w.heap.size + 1) h hlt4 (frm_store (Kept.refl _) 0 _)) hlt4 (frm_store (Kept.refl _) 1 _)).ints
          · obtain ⟨i, rfl, hib⟩ := HGR.out.2.resolve_left (by omega)
            obtain ⟨wq, rfl⟩ : ∃ wq : World, wq = wr := ⟨_, rfl⟩
            have HKQ := HK
            have HHI : Hid ((∃ c ∈ R, c.testBit (24 + i) = true) ∧ ∀ c ∈ R, ∀ j, c.testBit (24 + j) = true → j ≤ i) := Lib.hid ⟨hib, fun c hc j hj => by have := HGR.out.1 c hc j hj; omega⟩
            obtain ⟨him, hmk2, _⟩ := HTS.out.at hib HHI.out.2
            have hle := HTS.out.le
            have hil : i < f.nodes.length := by omega
            obtain ⟨b, o, n', c', ua, un, uc, hveq, hn', hnr⟩ := HNR.out i hil
            injection hveq with q1 q2 q3
            subst q1
            rw [← q2, ← HNL.out] at hn'
            have hkd := HMO.out i hil hmk2
            have hok := HOK.out
            have h128' := hok.n128
            have hargs : ∀ a ∈ f.nodes[i].args, 0 ≤ a ∧ a < (V : Int) + 128 := fun a ha => by have := hok.args i hil a ha; omega
            have h16 : f.nodes[i].args.length ≤ 16 := argsOk_le (hok.argc i hil)
            have hk4 : f.nodes[i].kind = 4 → 1 ≤ f.nodes[i].k ∧ f.nodes[i].k ≤ f.nodes[i].args.length := fun h4 => by
              have := hok.arity i hil
              unfold chkK at this
              rw [if_neg (by omega), if_pos h4] at this
              split at this
              · omega
              · cases this
            have hx : f.nodes.getD i noNd = f.nodes[i] := by simp [List.getD_eq_getElem?_getD, hil]
            obtain ⟨x, hxx⟩ : ∃ x, x = f.nodes[i] := ⟨_, rfl⟩
            rw [← hxx] at hnr hkd hargs h16 hk4 hx
            have HX := Lib.hid hx
            have hin : i < n := by rw [hn', HNL.out]; exact hil
            have hi128 : i < 128 := by omega
            have hwg : w.heap.size ≤ gl := by have := HGB.out; omega
            have HRE : Hid (∀ W q u LL, Kept w W → gl ≤ W.heap.size → CutAt (.int .i64 V) (.slice (some ⟨b, o, none⟩) n c) (.int .i64 T) (.func (.func 34) #[] #[.pointer (some ⟨bk, 0, none⟩), .pointer (some ⟨bl, 0, none⟩)]) (.slice va ln vc) fv2 W gl gl u LL → LL.length ≤ 4097 → RowLt 152 q → Calls Tryz.prog 73 #[.pointer (some ⟨gl, 0, none⟩), rowV q, .int .i64 i] W fun e w' => e = .returned (.tuple #[]) ∧ ∃ v', CutAt (.int .i64 V) (.slice (some ⟨b, o, none⟩) n c) (.int .i64 T) (.func (.func 34) #[] #[.pointer (some ⟨bk, 0, none⟩), .pointer (some ⟨bl, 0, none⟩)]) (.slice va ln vc) fv2 w' gl gl v' ((LL ++ expandK V x i q).take 4097) ∧ Frm gl u v' W w') := Lib.hid fun W q u LL hk hg2 hL hl hq =>
              replace_any gl gl V i q b o n c x ua un uc u LL W (Nat.le_refl _) h24 hg2 hL hl hq hi128 hin (hnr W hk).1 (fun w' hb => (hnr w' (low_kept hk hb hwg hg2)).2) hargs h16 hkd hk4
            clear hnr hkd hargs h16 hk4 hx hxx hok hmk2 q2 q3 hn' hib hil
            have HKWQ : Hid (Kept w wq) := Lib.hid ((low_kept HKW.out HB2.out hwg (by omega)).trans HKQ.out)
            have hglq : gl < wq.heap.size := HRQ.out.lt
            go_wp2
            obtain ⟨L3, hL3⟩ : ∃ L : World, L = wq.setCell ⟨gl, 5, none⟩ (.slice none 0 0) := ⟨_, rfl⟩
            have HFR3 : Hid (Frm gl (.slice none 0 0) (.slice none 0 0) wq L3) := Lib.hid (by rw [hL3]; exact frm_store (Kept.refl _) 5 _)
            have HR3 : Hid (RowAt L3 gl 101 [.int .i64 V, .slice (some ⟨b, o, none⟩) n c, .int .i64 T, .func (.func 34) #[] #[.pointer (some ⟨bk, 0, none⟩), .pointer (some ⟨bl, 0, none⟩)], .slice va ln vc, .slice none 0 0, fv2]) := Lib.hid (by rw [hL3]; have := HRQ.out.store 5 (.slice none 0 0); simpa using this)
            rw [← hL3]
            have hsz3 := HFR3.out.size
            have HB3 : Hid (Below gl wo L3) := Lib.hid ((HB2.out.trans (HKQ.out.mono (by omega))).trans (frm_low HFR3.out hglq (by simp [Value.ownBlock])))
            have HOR3 : Hid (OwnRws L3 wo.heap.size (.slice va ln vc) R) := Lib.hid (rws_frm (HOR.out.kept HKQ.out) hglo HFR3.out)
            have HOF3 : Hid (OwnInts L3 wo.heap.size fv2 (ofN F2)) := Lib.hid (ints_frm (HOF.out.kept HKQ.out) hglo HFR3.out)
            clear hL3 r4 r5 f5
            go_loopg [59] ln (fun kx s59 wz => ∃ (k : Nat) (vk : Value), s59 = .int .i64 k ∧ k ≤ ln ∧ ln - k ≤ kx ∧ Hid (CutAt (.int .i64 V) (.slice (some ⟨b, o, none⟩) n c) (.int .i64 T) (.func (.func 34) #[] #[.pointer (some ⟨bk, 0, none⟩), .pointer (some ⟨bl, 0, none⟩)]) (.slice va ln vc) fv2 wz gl gl vk ((expK V x i (R.take k)).take 4097)) ∧ Hid (Frm gl (.slice none 0 0) vk L3 wz))
            case atStart => exact ⟨0, _, rfl, Nat.zero_le _, by omega, Lib.hid ⟨HR3.out, by simpa [expK] using OwnRws.nil _ _⟩, Lib.hid (Frm.of_kept (Kept.refl _))⟩
            case round =>
              obtain ⟨k, vk, rfl, hk, hkx, HLI, HFI⟩ := hrel
              have hszi := HFI.out.size
              have HBI : Hid (Below gl wo wr) := Lib.hid (HB3.out.trans (frm_low HFI.out (by omega) (by simp [Value.ownBlock])))
              have HKI : Hid (Kept w wr) := Lib.hid (low_kept HKW.out HBI.out hwg (by omega))
              by_cases hlt : k < ln
              · have hkl : k < R.length := by have := HLN.out; omega
                have hrows := (rws_frm HOR3.out hglo HFI.out).at
                obtain ⟨b2, o2, rfl, hrg⟩ := hrows.get k hkl
                have hql := hrows.lt R[k] (List.getElem_mem _)
                have hnext := expK_take V x i R k hkl
                obtain ⟨q, hqq⟩ : ∃ q, q = R[k] := ⟨_, rfl⟩
                rw [← hqq] at hrg hql hnext
                unfold expR at hnext
                have hlen : ((expK V x i (R.take k)).take 4097).length ≤ 4097 := by rw [List.length_take]; omega
                have HHAS : Hid (∀ W, Calls Tryz.prog 72 #[rowV q, .int .i64 i] W fun e w' => e = .returned (.bool (q.testBit (24 + i))) ∧ Kept W w') := Lib.hid fun W => thas_any hql i hi128 W
                unfold rowV at HHAS
                have hkn : (k : Int) < (ln : Int) := by omega
                cases hq : q.testBit (24 + i) with
                | true =>
                  rw [hq] at hnext HHAS
                  rw [if_pos rfl] at hnext
                  have HE2 : Hid (∀ W, Kept wr W → Calls Tryz.prog 73 #[.pointer (some ⟨gl, 0, none⟩), .agg #[.int .i64 (evW q), .int .u64 (loW q), .int .u64 (hiW q)], .int .i64 i] W fun e w' => e = .returned (.tuple #[]) ∧ ∃ v', Hid (CutAt (.int .i64 V) (.slice (some ⟨b, o, none⟩) n c) (.int .i64 T) (.func (.func 34) #[] #[.pointer (some ⟨bk, 0, none⟩), .pointer (some ⟨bl, 0, none⟩)]) (.slice (some ⟨b2, o2, none⟩) ln vc) fv2 w' gl gl v' ((expK V x i (R.take (k + 1))).take 4097)) ∧ Hid (Frm gl (.slice none 0 0) v' L3 w')) := Lib.hid fun W hk => by
                    have := HRE.out W q vk _ (HKI.out.trans hk) (by have := hk.size; omega) (CutAt.kept HLI.out hk) hlen hql
                    rw [take_app, ← hnext] at this
                    exact this.mono fun _ _ ⟨h1, v', h2, h3⟩ => ⟨h1, v', Lib.hid h2, Lib.hid ((HFI.out.trans (Frm.of_kept hk)).trans h3)⟩
                  have HRG : Hid (wr.rangeAt b2 (o2 + k * 3) [.int .i64 (evW q), .int .u64 (loW q), .int .u64 (hiW q)]) := Lib.hid hrg
                  generalize evW q = z0 at *
                  generalize loW q = z1 at *
                  generalize hiW q = z2 at *
                  clear hrg hql hnext hqq hrows hq HRE HLI HFI hlen
                  go_wp2_with (first | (with_reducible refine wpList_load_mid rfl 103 _ rfl b2 (o2 + k * 3) rfl _ _ HRG.out Tryz.underlying103 rfl (by kernel_rfl) ?_) | (go_at_call 72; refine (HHAS.out _).mono ?_; rintro e w4 ⟨rfl, hk4⟩; have b0 := hk4.cell (p := ⟨wr.heap.size, 0, none⟩) (v := .int .i64 z0) (by simp); have b1 := hk4.cell (p := ⟨wr.heap.size, 1, none⟩) (v := .int .u64 z1) (by simp); have b2 := hk4.cell (p := ⟨wr.heap.size, 2, none⟩) (v := .int .u64 z2) (by simp); have HK4 := Lib.hid (((Kept.refl wr).alloc _).trans hk4); clear hk4) | (go_at_call 73; refine (HE2.out _ HK4.out).mono ?_; rintro e w5 ⟨rfl, v', h3, h4⟩))
                  go_roundg (ln - (k + 1))
                  case measure => omega
                  case rel => exact ⟨k + 1, v', by go_num, by omega, Nat.le_refl _, h3, h4⟩
                | false =>
                  rw [hq] at hnext HHAS
                  rw [if_neg (by simp)] at hnext
                  have HE2 : Hid (∀ W, Kept wr W → Calls Tryz.prog 74 #[.pointer (some ⟨gl, 0, none⟩), .agg #[.int .i64 (evW q), .int .u64 (loW q), .int .u64 (hiW q)]] W fun e w' => e = .returned (.tuple #[]) ∧ ∃ v', Hid (CutAt (.int .i64 V) (.slice (some ⟨b, o, none⟩) n c) (.int .i64 T) (.func (.func 34) #[] #[.pointer (some ⟨bk, 0, none⟩), .pointer (some ⟨bl, 0, none⟩)]) (.slice (some ⟨b2, o2, none⟩) ln vc) fv2 w' gl gl v' ((expK V x i (R.take (k + 1))).take 4097)) ∧ Hid (Frm gl (.slice none 0 0) v' L3 w')) := Lib.hid fun W hk => by
                    have := emit_any gl gl q vk _ W (CutAt.kept HLI.out hk) hql hlen (Nat.le_refl _)
                    rw [addK_take hlen, take_app, ← hnext] at this
                    exact this.mono fun _ _ ⟨h1, v', h2, h3⟩ => ⟨h1, v', Lib.hid h2, Lib.hid ((HFI.out.trans (Frm.of_kept hk)).trans h3)⟩
                  have HRG : Hid (wr.rangeAt b2 (o2 + k * 3) [.int .i64 (evW q), .int .u64 (loW q), .int .u64 (hiW q)]) := Lib.hid hrg
                  generalize evW q = z0 at *
                  generalize loW q = z1 at *
                  generalize hiW q = z2 at *
                  clear hrg hql hnext hqq hrows hq HRE HLI HFI hlen
                  go_wp2_with (first | (with_reducible refine wpList_load_mid rfl 103 _ rfl b2 (o2 + k * 3) rfl _ _ HRG.out Tryz.underlying103 rfl (by kernel_rfl) ?_) | (go_at_call 72; refine (HHAS.out _).mono ?_; rintro e w4 ⟨rfl, hk4⟩; have b0 := hk4.cell (p := ⟨wr.heap.size, 0, none⟩) (v := .int .i64 z0) (by simp); have b1 := hk4.cell (p := ⟨wr.heap.size, 1, none⟩) (v := .int .u64 z1) (by simp); have b2 := hk4.cell (p := ⟨wr.heap.size, 2, none⟩) (v := .int .u64 z2) (by simp); have HK4 := Lib.hid (((Kept.refl wr).alloc _).trans hk4); clear hk4) | (go_at_call 74; refine (HE2.out _ HK4.out).mono ?_; rintro e w5 ⟨rfl, v', h3, h4⟩))
                  go_roundg (ln - (k + 1))
                  case measure => omega
                  case rel => exact ⟨k + 1, v', by go_num, by omega, Nat.le_refl _, h3, h4⟩
              · have hke : k = ln := by omega
                have HLE : Hid (CutAt (.int .i64 V) (.slice (some ⟨b, o, none⟩) n c) (.int .i64 T) (.func (.func 34) #[] #[.pointer (some ⟨bk, 0, none⟩), .pointer (some ⟨bl, 0, none⟩)]) (.slice va ln vc) fv2 wr gl gl vk ((expK V x i R).take 4097)) := Lib.hid (by have h := HLI.out; rw [hke, HLN.out, List.take_length] at h; rw [HLN.out]; exact h)
                have c5 := HLE.out.1.cell (i := 5) (by simp)
                simp only [List.getElem_cons_succ, List.getElem_cons_zero] at c5
                obtain ⟨vka, vkc, hvk⟩ := HLE.out.2.at.shape
                obtain ⟨n2, hn2⟩ : ∃ n2, n2 = ((expK V x i R).take 4097).length := ⟨_, rfl⟩
                rw [← hn2] at hvk
                subst hvk
                have HN2 := Lib.hid hn2
                have hn2b : n2 ≤ 4097 := by rw [hn2, List.length_take]; omega
                clear hke hn2 HLI HRE
                by_cases hbig : 4096 < n2
                · have hbig' : (n2 : Int) > 4096 := by omega
                  have HNO : Hid (topT V T PP f.nodes = none) := Lib.hid (HTS.out.full HHI.out.1 HHI.out.2 (by rw [HX.out]; have := HN2.out; rw [List.length_take] at this; omega))
                  have ht4 := HT4.out.same (HBI.out.block _ HGB.out.1)
                  have g0 := ht4.cell (i := 0) (by simp)
                  have g1 := ht4.cell (i := 1) (by simp)
                  have g2 := ht4.free 0
                  have g3 := ht4.free 1
                  simp only [List.getElem_cons_succ, List.getElem_cons_zero] at g0 g1
                  clear ht4 HLE
                  go_wp2
                  refine bodyPost_ret (v := .tuple #[.agg #[.slice none 0 0, .slice none 0 0], errV 4]) ?_ rfl ⟨by rw [HNO.out]; rfl, (HKI.out.store (by omega) 0 _).store (by omega) 1 _⟩
                  simp [results, Tryz.results33, go_sem, g0, g1, errV]
                · have hbig' : ¬ (n2 : Int) > 4096 := by omega
                  have hfull : (expK V x i R).length ≤ 4096 := by have := HN2.out; rw [List.length_take] at this; omega
                  have HPN := Lib.hid (pend_next HOK.out HTS.out HHI.out.1 HHI.out.2 (by rw [HX.out]; exact hfull))
                  rw [HX.out] at HPN
                  have HLE2 : Hid (CutAt (.int .i64 V) (.slice (some ⟨b, o, none⟩) n c) (.int .i64 T) (.func (.func 34) #[] #[.pointer (some ⟨bk, 0, none⟩), .pointer (some ⟨bl, 0, none⟩)]) (.slice va ln vc) fv2 wr gl gl (.slice vka n2 vkc) (expK V x i R)) := Lib.hid (by have h := HLE.out; rw [List.take_of_length_le (by omega)] at h; exact h)
                  clear hfull HLE
                  go_wp2
                  go_roundg i
                  case measure => omega
                  case rel => exact ⟨expK V x i R, F2, i, _, _, _, Nat.le_refl _, Lib.hid HPN.out.2, Lib.hid HLE2.out.1, Lib.hid HLE2.out.2.at, Lib.hid ((ints_frm HOF3.out hglo HFI.out).mono (by omega)), Lib.hid (HB.out.trans HBI.out)⟩
end Go.Proofs.YteodabnjkikogaaGreat.Tr

/-
  Plain: the example of chapter 35.
-/
namespace Go.Proofs.YteodabnjkikogaaGreat
open Go.RowKit

set_option linter.unusedSimpArgs false in
theorem top35_ex : topT 3 5 (Tr.overP 1) exN = some ([1], [3, 5, 6]) := by
  obtain ⟨h0, h1, h2, h3, h4, h5, h6, h7⟩ := pcs
  have p1 : pc 16777217 = 2 := by rw [show 16777217 = 2 * 2 ^ 23 + 1 by decide, pc_odd, pc_two]
  have p2 : pc 16777220 = 2 := by rw [show 16777220 = 2 * (2 * (2 * 2 ^ 21 + 1)) by decide, pc_even _ (by decide), pc_even _ (by decide), pc_odd, pc_two]
  have o0 : Tr.overP 1 0 = false := by unfold Tr.overP; rw [h0]; decide
  have o1 : Tr.overP 1 1 = false := by unfold Tr.overP; rw [h1]; decide
  have o3 : Tr.overP 1 3 = true := by unfold Tr.overP; rw [h3]; decide
  have o4 : Tr.overP 1 4 = false := by unfold Tr.overP; rw [h4]; decide
  have o5 : Tr.overP 1 5 = true := by unfold Tr.overP; rw [h5]; decide
  have o6 : Tr.overP 1 6 = true := by unfold Tr.overP; rw [h6]; decide
  have m0 : minK ([] : List Nat) = [] := by simp [minK, sortK, minN]
  have m1 : ∀ x, minK [x] = [x] := fun x => by simp [minK, sortK, insK, minN, keepN]
  have m2 : minK [16777217, 16777220] = [16777217, 16777220] := by simp +decide [minK, sortK, insK, minN, keepN, ltK, p1, p2]
  have m3 : minK [3, 5, 6] = [3, 5, 6] := by simp +decide [minK, sortK, insK, minN, keepN, ltK, h0, h1, h2, h3, h4, h5, h6, h7]
  have s3 : settleK (Tr.overP 1) [67108864] [] = some ([67108864], []) := by
    simp [settleK, settleR, settleF, evW, o0, m0, m1]
  have s2 : settleK (Tr.overP 1) [50331648] [] = some ([50331648], []) := by
    simp [settleK, settleR, settleF, evW, o0, m0, m1]
  have s1 : settleK (Tr.overP 1) [16777217, 16777220] [] = some ([16777217, 16777220], []) := by
    simp [settleK, settleR, settleF, evW, o1, o4, m0, m2]
  have s0 : settleK (Tr.overP 1) [1, 3, 5, 6] [] = some ([1], [3, 5, 6]) := by
    simp [settleK, settleR, settleF, evW, o1, o3, o5, o6, m1, m3]
  have r2 : runT 3 (Tr.overP 1) exN 3 [67108864] [] = runT 3 (Tr.overP 1) exN 2 [50331648] [] := by
    conv => lhs; unfold runT
    rw [if_pos (by decide), if_pos (by decide), show expK 3 (exN.getD 2 noNd) 2 [67108864] = [50331648] by decide, s2]; rfl
  have r1 : runT 3 (Tr.overP 1) exN 2 [50331648] [] = runT 3 (Tr.overP 1) exN 1 [16777217, 16777220] [] := by
    conv => lhs; unfold runT
    rw [if_pos (by decide), if_pos (by decide), show expK 3 (exN.getD 1 noNd) 1 [50331648] = [16777217, 16777220] by decide, s1]; rfl
  have r0 : runT 3 (Tr.overP 1) exN 1 [16777217, 16777220] [] = some ([1], [3, 5, 6]) := by
    conv => lhs; unfold runT
    rw [if_pos (by decide), if_pos (by decide), show expK 3 (exN.getD 0 noNd) 0 [16777217, 16777220] = [1, 3, 5, 6] by decide, s0]; rfl
  unfold topT
  rw [show cond 3 ((5 : Nat) : Int) = 67108864 by decide, show exN.length = 3 from rfl, s3]
  show runT 3 (Tr.overP 1) exN 3 [67108864] [] = _
  rw [r2, r1, r0]
end Go.Proofs.YteodabnjkikogaaGreat

/-
  Walks: truncate.ByOrder.
-/
namespace Go.Proofs.YteodabnjkikogaaGreat.Tr
open Go.RowKit

/-- What ByOrder answers to a formula that Check accepts: error, kept, frontier. -/
def byR (V T : Nat) (f : Fm) (k : Int) : Nat × List Nat × List Nat :=
  if synK V T f = false then (7, [], []) else if k < 0 ∨ 24 < k then (3, [], []) else
    match topT V T (overP k) f.nodes with
    | none => (4, [], [])
    | some p => (0, p.1, p.2)
theorem minK_evW {R : List Nat} (hg : Good R) (hm : ∀ r ∈ R, r < 16777216) : minK (R.map evW) = R := by
  have : R.map evW = R := by
    have := List.map_congr_left (l := R) (f := evW) (g := id) fun r hr => evW_of_lt (hm r hr)
    simpa using this
  rw [this]
  exact hg.1
theorem cut_row (w : World) (a b c : Obj) (h : c = .cells #[.slice none 0 0, .slice none 0 0] 34) : RowAt (((w.alloc a).alloc b).alloc c) (w.heap.size + 1 + 1) 34 [.slice none 0 0, .slice none 0 0] := by
  subst h
  have := RowAt.made ((w.alloc a).alloc b) #[.slice none 0 0, .slice none 0 0] 34
  simpa using this
theorem fm_cells3 {w w1 : World} {x y z : Value} {e : TypeId} {o2 o3 : Obj} (hk : Kept (((w.alloc (.cells #[x, y, z] e)).alloc o2).alloc o3) w1) : w1.cell? ⟨w.heap.size, 0, none⟩ = some x ∧ w1.cell? ⟨w.heap.size, 1, none⟩ = some y ∧ w1.cell? ⟨w.heap.size, 2, none⟩ = some z :=
  ⟨hk.cell ((((Kept.refl _).alloc o2).alloc o3).cell (p := ⟨w.heap.size, 0, none⟩) (by simp)), hk.cell ((((Kept.refl _).alloc o2).alloc o3).cell (p := ⟨w.heap.size, 1, none⟩) (by simp)), hk.cell ((((Kept.refl _).alloc o2).alloc o3).cell (p := ⟨w.heap.size, 2, none⟩) (by simp))⟩
theorem box_cell3 {w w1 : World} {x : Value} {e : TypeId} {o1 o3 : Obj} (hk : Kept (((w.alloc o1).alloc (.cells #[x] e)).alloc o3) w1) : w1.cell? ⟨w.heap.size + 1, 0, none⟩ = some x := by
  have h := (((RowAt.made (w.alloc o1) #[x] e).kept ((Kept.refl _).alloc o3)).kept hk).cell (i := 0) (by simp)
  simpa using h
/-- Ints stay where a row of other cells is written. -/
theorem ints_store {w : World} {g j : Nat} {e : TypeId} {cs : List Value} {v u : Value} {xs : List Int} (hr : RowAt w g e cs) (hj : j < cs.length) (hc : ∀ z, cs[j] ≠ .int .i64 z) (h : IntsAt w v xs) : IntsAt (w.setCell ⟨g, j, none⟩ u) v xs := by
  obtain ⟨a, c, h1, h2, h3, h4⟩ := h
  refine ⟨a, c, h1, h2, h3, fun i hi => ?_⟩
  obtain ⟨b, o, h5, h6⟩ := h4 i hi
  refine ⟨b, o, h5, ?_⟩
  by_cases hb : (⟨b, o + i, none⟩ : Addr) = ⟨g, j, none⟩
  · rw [hb, hr.cell hj] at h6
    exact absurd (Option.some.inj h6) (hc _)
  · rw [World.cell?_setCell_other w _ _ u (fun e => hb e.symm)]; exact h6
theorem cutoff_ints {w : World} {g : Nat} {e : TypeId} {v u0 u1 : Value} {xs : List Int} (hr : RowAt w g e [.slice none 0 0, .slice none 0 0]) (h0 : ∃ a n c, u0 = .slice a n c) (h : IntsAt w v xs) : IntsAt ((w.setCell ⟨g, 0, none⟩ u0).setCell ⟨g, 1, none⟩ u1) v xs := by
  have h1 := ints_store (j := 0) (u := u0) hr (by simp) (by simp) h
  have h2 := hr.store 0 u0
  obtain ⟨_, _, _, rfl⟩ := h0
  exact ints_store (j := 1) h2 (by simp) (by simp) h1
set_option maxRecDepth 100000 in
set_option maxHeartbeats 2000000 in
theorem tby_err (v : Value) (f : Fm) (k : Int) (w : World) (hv : NodesAt w v f.nodes) (ht : f.top ≤ 9223372036854775807) (hck : chkF f ≠ 0) :
    Calls Tryz.prog 27 #[fmV v f, .int .i64 k] w fun e w' => e = .returned (.tuple #[.agg #[.slice none 0 0, .slice none 0 0], errV (chkF f)]) ∧ Kept w w' := by
  have HC := Lib.hid (fun W (hk : Kept w W) => coher_err v f W (hv.kept hk) ht hck)
  have E2 := Lib.hid (errV_pos hck)
  obtain ⟨q, hq⟩ : ∃ q, q = chkF f := ⟨_, rfl⟩
  obtain ⟨a, c, rfl, hrest⟩ := hv
  clear hrest ht hck
  generalize f.nodes.length = n at *
  obtain ⟨vars, nodes, top⟩ := f
  unfold fmV at *
  simp only at HC E2 ⊢
  rw [← hq] at HC E2 ⊢
  clear hq
  rw [E2.out] at HC ⊢
  go_enter Tryz.func27, Tryz.ntmps27
  go_wp2_with (go_at_call 30; refine (HC.out _ ((((Kept.refl _).alloc _).alloc _).alloc _)).mono ?_; rintro e w1 ⟨rfl, hk1⟩; have ht4 := (cut_row w _ _ _ rfl).kept hk1; have g0 := ht4.cell (i := 0) (by simp); have g1 := ht4.cell (i := 1) (by simp); have g2 := ht4.free 0; have g3 := ht4.free 1; simp only [List.getElem_cons_succ, List.getElem_cons_zero] at g0 g1; have HK1 := Lib.hid (((((Kept.refl _).alloc _).alloc _).alloc _).trans hk1); clear hk1 ht4)
  refine bodyPost_ret (v := .tuple #[.agg #[.slice none 0 0, .slice none 0 0], .iface 56 (.int .i64 q)]) ?_ rfl ⟨rfl, (HK1.out.store (by omega) 0 _).store (by omega) 1 _⟩
  simp [results, Tryz.results27, go_sem, g0, g1]
set_option maxRecDepth 100000 in
set_option maxHeartbeats 4000000 in
theorem tby_any (v : Value) (f : Fm) (V T : Nat) (k : Int) (w : World) (hv : NodesAt w v f.nodes) (hok : Ok f V T) (hck : chkF f = 0) :
    Calls Tryz.prog 27 #[.agg #[.int .i64 V, v, .int .i64 T], .int .i64 k] w fun e w' => (∃ kv fv, e = .returned (.tuple #[.agg #[kv, fv], errV (byR V T f k).1]) ∧ IntsAt w' kv (ofN (byR V T f k).2.1) ∧ IntsAt w' fv (ofN (byR V T f k).2.2)) ∧ Kept w w' := by
  have HC := Lib.hid (fun W (hk : Kept w W) => coher_ok v f V T W (hv.kept hk) hok hck)
  have HV := Lib.hid hv
  have hsh : ∃ a n c, v = .slice a n c := by obtain ⟨a, c, h, _⟩ := hv; exact ⟨a, _, c, h⟩
  obtain ⟨a, n, c, rfl⟩ := hsh
  cases hsy : synK V T f with
  | false =>
    have e7 : byR V T f k = (7, [], []) := by unfold byR; rw [if_pos hsy]
    rw [e7]
    rw [hsy] at HC
    simp only [Bool.false_eq_true, if_false] at HC
    rw [errV_pos (by decide)] at HC ⊢
    clear hv hok hck hsy e7
    go_enter Tryz.func27, Tryz.ntmps27
    go_wp2_with (go_at_call 30; refine (HC.out _ ((((Kept.refl _).alloc _).alloc _).alloc _)).mono ?_; rintro e w1 ⟨rfl, hk1⟩; have ht4 := (cut_row w _ _ _ rfl).kept hk1; have g0 := ht4.cell (i := 0) (by simp); have g1 := ht4.cell (i := 1) (by simp); have g2 := ht4.free 0; have g3 := ht4.free 1; simp only [List.getElem_cons_succ, List.getElem_cons_zero] at g0 g1; have HK1 := Lib.hid (((((Kept.refl _).alloc _).alloc _).alloc _).trans hk1); clear hk1 ht4)
    refine bodyPost_ret (v := .tuple #[.agg #[.slice none 0 0, .slice none 0 0], .iface 56 (.int .i64 (7 : Nat))]) ?_ rfl ⟨⟨_, _, rfl, IntsAt.nil _, IntsAt.nil _⟩, (HK1.out.store (by omega) 0 _).store (by omega) 1 _⟩
    simp [results, Tryz.results27, go_sem, g0, g1]
  | true =>
    rw [hsy] at HC
    simp only [if_true] at HC
    rw [errV_zero] at HC
    by_cases hr : k < 0 ∨ 24 < k
    · have e3 : byR V T f k = (3, [], []) := by unfold byR; rw [if_neg (by simp [hsy]), if_pos hr]
      rw [e3]
      rw [errV_pos (by decide)]
      clear hv hok hck hsy e3
      have b0 : (decide (k < 0) || decide (24 < k)) = true := by simpa using hr
      rcases hr with hr | hr
      all_goals
        go_enter Tryz.func27, Tryz.ntmps27
        go_wp2_with (go_at_call 30; refine (HC.out _ ((((Kept.refl _).alloc _).alloc _).alloc _)).mono ?_; rintro e w1 ⟨rfl, hk1⟩; have ht4 := (cut_row w _ _ _ rfl).kept hk1; have g0 := ht4.cell (i := 0) (by simp); have g1 := ht4.cell (i := 1) (by simp); have g2 := ht4.free 0; have g3 := ht4.free 1; simp only [List.getElem_cons_succ, List.getElem_cons_zero] at g0 g1; have k0 := box_cell3 hk1; have HK1 := Lib.hid (((((Kept.refl _).alloc _).alloc _).alloc _).trans hk1); clear hk1 ht4)
        refine bodyPost_ret (v := .tuple #[.agg #[.slice none 0 0, .slice none 0 0], .iface 56 (.int .i64 (3 : Nat))]) ?_ rfl ⟨⟨_, _, rfl, IntsAt.nil _, IntsAt.nil _⟩, (HK1.out.store (by omega) 0 _).store (by omega) 1 _⟩
        simp [results, Tryz.results27, go_sem, g0, g1]
    · have hr0 : ¬ k < 0 := fun h => hr (.inl h)
      have hr1 : ¬ 24 < k := fun h => hr (.inr h)
      have HRUN : Hid (∀ W bk, Kept w W → W.cell? ⟨bk, 0, none⟩ = some (.int .i64 k) → Calls Tryz.prog 33 #[.agg #[.int .i64 V, .slice a n c, .int .i64 T], .func (.func 62) #[] #[.pointer (some ⟨bk, 0, none⟩)]] W fun e w' => TRes w' e (topT V T (overP k) f.nodes) ∧ Kept W w') := Lib.hid fun W bk hk hc => trun_any _ f V T bk k W (hv.kept hk) hok hsy hc
      have e0 : byR V T f k = match topT V T (overP k) f.nodes with | none => (4, [], []) | some p => (0, p.1, p.2) := by unfold byR; rw [if_neg (by simp [hsy]), if_neg hr]
      cases hto : topT V T (overP k) f.nodes with
      | none =>
        rw [hto] at HRUN e0
        simp only at e0
        rw [e0, errV_pos (by decide)]
        unfold TRes at HRUN
        rw [errV_pos (by decide)] at HRUN
        clear hv hok hck hsy e0 hr hto
        go_enter Tryz.func27, Tryz.ntmps27
        go_wp2_with (first | (go_at_call 30; refine (HC.out _ ((((Kept.refl _).alloc _).alloc _).alloc _)).mono ?_; rintro e w1 ⟨rfl, hk1⟩; have ht4 := (cut_row w _ _ _ rfl).kept hk1; have HT4 := Lib.hid ht4; have k0 := box_cell3 hk1; obtain ⟨c0, c1, c2⟩ := fm_cells3 hk1; have HK1 := Lib.hid (((((Kept.refl _).alloc _).alloc _).alloc _).trans hk1); clear hk1 ht4) | (go_at_call 33; refine (HRUN.out _ _ HK1.out k0).mono ?_; rintro e w2 ⟨rfl, hk2⟩; have ht4 := HT4.out.kept hk2; have g0 := ht4.cell (i := 0) (by simp); have g1 := ht4.cell (i := 1) (by simp); have g2 := ht4.free 0; have g3 := ht4.free 1; simp only [List.getElem_cons_succ, List.getElem_cons_zero] at g0 g1; have HK2 := Lib.hid (HK1.out.trans hk2); clear hk2 ht4))
        refine bodyPost_ret (v := .tuple #[.agg #[.slice none 0 0, .slice none 0 0], .iface 56 (.int .i64 (4 : Nat))]) ?_ rfl ⟨⟨_, _, rfl, IntsAt.nil _, IntsAt.nil _⟩, (HK2.out.store (by omega) 0 _).store (by omega) 1 _⟩
        simp [results, Tryz.results27, go_sem, g0, g1]
      | some p =>
        rw [hto] at HRUN e0
        simp only at e0
        rw [e0, errV_zero]
        have hT := topT_says hok hsy (overP k) hto
        unfold TRes at HRUN
        simp only [minK_evW hT.goodR hT.mkR, errV_zero] at HRUN
        clear hv hok hck hsy e0 hr hto hT
        go_enter Tryz.func27, Tryz.ntmps27
        go_wp2_with (first | (go_at_call 30; refine (HC.out _ ((((Kept.refl _).alloc _).alloc _).alloc _)).mono ?_; rintro e w1 ⟨rfl, hk1⟩; have ht4 := (cut_row w _ _ _ rfl).kept hk1; have HT4 := Lib.hid ht4; have k0 := box_cell3 hk1; obtain ⟨c0, c1, c2⟩ := fm_cells3 hk1; have HK1 := Lib.hid (((((Kept.refl _).alloc _).alloc _).alloc _).trans hk1); clear hk1 ht4) | (go_at_call 33; refine (HRUN.out _ _ HK1.out k0).mono ?_; rintro e w2 ⟨⟨kv, fv, rfl, hkv, hfv⟩, hk2⟩; obtain ⟨ka, kn, kc, rfl⟩ := hkv.shape; obtain ⟨fa, fn, fc, rfl⟩ := hfv.shape; have HKV := Lib.hid hkv; have HFV := Lib.hid hfv; have hst4 := HT4.out.kept hk2; have g0 := hst4.cell (i := 0) (by simp); have g1 := hst4.cell (i := 1) (by simp); have g2 := hst4.free 0; have g3 := hst4.free 1; simp only [List.getElem_cons_succ, List.getElem_cons_zero] at g0 g1; have HS4 := Lib.hid hst4; have HK2 := Lib.hid (HK1.out.trans hk2); clear hk2 hst4 hkv hfv))
        refine bodyPost_ret (v := .tuple #[.agg #[.slice ka kn kc, .slice fa fn fc], .nilIface]) ?_ rfl ⟨⟨_, _, rfl, ?_, ?_⟩, (HK2.out.store (by omega) 0 _).store (by omega) 1 _⟩
        · simp [results, Tryz.results27, go_sem, g0, g1]
        · exact cutoff_ints HS4.out ⟨_, _, _, rfl⟩ HKV.out
        · exact cutoff_ints HS4.out ⟨_, _, _, rfl⟩ HFV.out
end Go.Proofs.YteodabnjkikogaaGreat.Tr

/-
  Walks: truncate.ByProb's closure, ByProb. Printed by gen_Y33.py.
-/
namespace Go.Proofs.YteodabnjkikogaaGreat
open Go.RowKit

/-- Whether a set of events is less likely than a limit. -/
def overQ (ps : List Rw) (lim : Rat) (e : Nat) : Bool := decide (sgnR (prodQ e ps ps.length - lim) < 0)
/-- What ByProb answers to a formula that Check accepts: error, kept, frontier. -/
def byPR (V T : Nat) (f : Fm) (ps : List Rw) (l : Rw) : Nat × List Nat × List Nat :=
  if synK V T f = false then (7, [], []) else if ps.length ≠ V then (11, [], []) else if badR ps = true then (3, [], []) else if probR l = false then (3, [], []) else
    match topT V T (overQ ps (ratOf l)) f.nodes with
    | none => (4, [], [])
    | some p => (0, p.1, p.2)
set_option maxRecDepth 100000 in
set_option maxHeartbeats 4000000 in
theorem over_prob (ps : List Rw) (l : Rw) (e bk bl pn pc : Nat) (pa : Option Addr) (w : World) (hb : w.cell? ⟨bk, 0, none⟩ = some (.slice pa pn pc)) (hv : RatsAt w (.slice pa pn pc) ps) (h3 : ∀ r ∈ ps, r.Short 3) (h30 : ps.length ≤ 30) (hl : RatCell w bl l) (hl3 : l.Short 3) (he : Mk e) :
    Calls Tryz.prog 34 #[.int .i64 e, .pointer (some ⟨bk, 0, none⟩), .pointer (some ⟨bl, 0, none⟩)] w fun e' w' => e' = .returned (.bool (overQ ps (ratOf l) e)) ∧ Kept w w' := by
  have HP := Lib.hid (fun W (hk : Kept w W) => product_rat e _ ps W (by unfold Mk at he; omega) (hv.kept hk) h3 h30)
  have hsh := prod_short (s := e) h3 hv.ok ps.length (Nat.le_refl _)
  obtain ⟨a1, c1, a2, c2, ⟨x0, x1, x2⟩, _, hbl, hla⟩ := hl.at
  have HC : Hid (∀ W u, Kept w W → RatAt W u (canR (prodQ e ps ps.length)) → Calls Tryz.prog 24 #[u, .agg #[.bool l.neg, .slice a1 l.num.length c1, .slice a2 l.den.length c2]] W fun e' w' => e' = .returned (.int .i64 (sgnR (prodQ e ps ps.length - ratOf l))) ∧ Kept W w') := Lib.hid fun W u hk hu => by
    have h := rcmp_any u _ _ l W hu (hla.kept hk) ⟨Nat.le_trans hsh.1 (by omega), Nat.le_trans hsh.2 (by omega)⟩ ⟨Nat.le_trans hl3.1 (by omega), Nat.le_trans hl3.2 (by omega)⟩
    rw [ratOf_can] at h
    exact h
  unfold overQ
  generalize sgnR (prodQ e ps ps.length - ratOf l) = S at *
  generalize canR (prodQ e ps ps.length) = R at *
  generalize l.neg = z1 at *
  generalize l.num.length = z2 at *
  generalize l.den.length = z3 at *
  have y0 := ((Kept.refl w).drew).cell hb
  have y1 := ((Kept.refl w).drew).cell x0
  have y2 := ((Kept.refl w).drew).cell x1
  have y3 := ((Kept.refl w).drew).cell x2
  clear hv hl h3 hl3 he hsh hla
  go_enter Tryz.func34, Tryz.ntmps34
  go_wp2
  go_region_with (first
    | (go_at_call 35; (with_reducible refine (HP.out _ (Kept.refl _).drew).mono ?_); rintro e w3 ⟨⟨v3, rfl, hv3⟩, hk3⟩; have hkd := (Kept.refl w).drew.trans hk3; have i1 := hkd.cell x0; have i2 := hkd.cell x1; have i3 := hkd.cell x2; have HV3 := Lib.hid hv3; have HKD := Lib.hid hkd; clear hv3 hk3 hkd)
    | (go_at_call 24; (with_reducible refine (HC.out _ _ HKD.out HV3.out).mono ?_); rintro e w4 ⟨rfl, hk4⟩; have HK4 := Lib.hid (HKD.out.trans hk4); clear hk4))
  all_goals
    go_wp2
    go_ret
    exact ⟨rfl, HK4.out⟩
set_option maxRecDepth 100000 in
set_option maxHeartbeats 8000000 in
theorem tbyP_any (v pv lv : Value) (f : Fm) (V T : Nat) (ps : List Rw) (l : Rw) (w : World) (hv : NodesAt w v f.nodes) (hok : Ok f V T) (hck : chkF f = 0) (hp : RatsAt w pv ps) (h3 : ∀ r ∈ ps, r.Short 3) (h30 : ps.length ≤ 30) (hl : RatAt w lv l) (hl3 : l.Short 3) :
    Calls Tryz.prog 10 #[.agg #[.int .i64 V, v, .int .i64 T], pv, lv] w fun e w' => (∃ kv fv, e = .returned (.tuple #[.agg #[kv, fv], errV (byPR V T f ps l).1]) ∧ IntsAt w' kv (ofN (byPR V T f ps l).2.1) ∧ IntsAt w' fv (ofN (byPR V T f ps l).2.2)) ∧ Kept w w' := by
  have HC := Lib.hid (fun W (hk : Kept w W) => Tr.coher_ok v f V T W (hv.kept hk) hok hck)
  have hsh : ∃ a n c, v = .slice a n c := by obtain ⟨a, c, h, _⟩ := hv; exact ⟨a, _, c, h⟩
  have HV := Lib.hid hv
  have HP := Lib.hid hp
  have H3 := Lib.hid h3
  have HL3 := Lib.hid hl3
  have HOK := Lib.hid hok
  have HBA := Lib.hid (fun W (h : Kept w W) => bad_any pv ps W (hp.kept h) (fun r hr => ⟨Nat.le_trans (h3 r hr).1 (by omega), Nat.le_trans (h3 r hr).2 (by omega)⟩))
  have HPR := Lib.hid (fun W (h : Kept w W) => rprob_any lv l W (hl.kept h) ⟨Nat.le_trans hl3.1 (by omega), Nat.le_trans hl3.2 (by omega)⟩)
  obtain ⟨a, n, c, rfl⟩ := hsh
  obtain ⟨pa, pc, hps⟩ := hp.shape
  obtain ⟨pn, hpn⟩ : ∃ pn, pn = ps.length := ⟨_, rfl⟩
  rw [← hpn] at hps h30
  subst hps
  obtain ⟨u1, u2, rfl, k1, k2⟩ := hl
  obtain ⟨a1, c1, rfl⟩ := k1.shape
  obtain ⟨a2, c2, rfl⟩ := k2.shape
  obtain ⟨w4, hw4⟩ : ∃ w4, w4 = (((w.alloc (.cells #[.int .i64 V, .slice a n c, .int .i64 T] 24)).alloc (.cells #[.slice pa pn pc] 25)).alloc (.cells #[.bool l.neg, .slice a1 l.num.length c1, .slice a2 l.den.length c2] 28)).alloc (.cells #[.slice none 0 0, .slice none 0 0] 34) := ⟨_, rfl⟩
  have HBF : Hid (RowAt w4 w.heap.size 24 [.int .i64 V, .slice a n c, .int .i64 T]) := Lib.hid (by rw [hw4]; exact (RowAt.made w #[.int .i64 V, .slice a n c, .int .i64 T] 24).kept ((((Kept.refl _).alloc _).alloc _).alloc _))
  have HBP : Hid (RowAt w4 (w.heap.size + 1) 25 [.slice pa pn pc]) := Lib.hid (by
    have h := (RowAt.made (w.alloc (.cells #[.int .i64 V, .slice a n c, .int .i64 T] 24)) #[.slice pa pn pc] 25).kept (((Kept.refl _).alloc (.cells #[.bool l.neg, .slice a1 l.num.length c1, .slice a2 l.den.length c2] 28)).alloc (.cells #[.slice none 0 0, .slice none 0 0] 34))
    rw [← hw4] at h
    simpa using h)
  have HRC : Hid (RatCell w4 (w.heap.size + 1 + 1) l) := Lib.hid (by
    have h := (RatCell.made (w := (w.alloc (.cells #[.int .i64 V, .slice a n c, .int .i64 T] 24)).alloc (.cells #[.slice pa pn pc] 25)) (r := l) (k1.kept (((Kept.refl _).alloc _).alloc _)) (k2.kept (((Kept.refl _).alloc _).alloc _))).kept ((Kept.refl _).alloc (.cells #[.slice none 0 0, .slice none 0 0] 34))
    rw [← hw4] at h
    simpa using h)
  have HLC : Hid (RowAt w4 (w.heap.size + 1 + 1) 28 [.bool l.neg, .slice a1 l.num.length c1, .slice a2 l.den.length c2]) := Lib.hid (by
    have h := (RowAt.made ((w.alloc (.cells #[.int .i64 V, .slice a n c, .int .i64 T] 24)).alloc (.cells #[.slice pa pn pc] 25)) #[.bool l.neg, .slice a1 l.num.length c1, .slice a2 l.den.length c2] 28).kept ((Kept.refl _).alloc (.cells #[.slice none 0 0, .slice none 0 0] 34))
    rw [← hw4] at h
    simpa using h)
  have HRS : Hid (RowAt w4 (w.heap.size + 1 + 1 + 1) 34 [.slice none 0 0, .slice none 0 0]) := Lib.hid (by
    have h := RowAt.made (((w.alloc (.cells #[.int .i64 V, .slice a n c, .int .i64 T] 24)).alloc (.cells #[.slice pa pn pc] 25)).alloc (.cells #[.bool l.neg, .slice a1 l.num.length c1, .slice a2 l.den.length c2] 28)) #[.slice none 0 0, .slice none 0 0] 34
    rw [← hw4] at h
    simpa using h)
  have HK0 : Hid (Kept w w4) := Lib.hid (by rw [hw4]; exact ((((Kept.refl w).alloc _).alloc _).alloc _).alloc _)
  have HW4 := Lib.hid hw4
  have HPN := Lib.hid hpn
  generalize hz1 : l.neg = z1 at *
  generalize hz2 : l.num.length = z2 at *
  generalize hz3 : l.den.length = z3 at *
  have HZ := Lib.hid (And.intro hz1 (And.intro hz2 hz3))
  clear hz1 hz2 hz3 hv hp h3 hl3 hok hck k1 k2 hw4 hpn
  have b0 := HBF.out.cell (i := 0) (by simp)
  have b1 := HBF.out.cell (i := 1) (by simp)
  have b2 := HBF.out.cell (i := 2) (by simp)
  have bp := HBP.out.cell (i := 0) (by simp)
  simp only [List.getElem_cons_zero] at bp
  simp only [List.getElem_cons_succ, List.getElem_cons_zero] at b0 b1 b2
  have l0 := HLC.out.cell (i := 0) (by simp)
  have l1 := HLC.out.cell (i := 1) (by simp)
  have l2 := HLC.out.cell (i := 2) (by simp)
  simp only [List.getElem_cons_succ, List.getElem_cons_zero] at l0 l1 l2
  cases hsy : synK V T f with
  | false =>
    have e7 : byPR V T f ps l = (7, [], []) := by unfold byPR; rw [if_pos hsy]
    rw [e7]
    rw [hsy] at HC
    simp only [Bool.false_eq_true, if_false] at HC
    rw [errV_pos (by decide)] at HC ⊢
    clear hsy e7
    go_enter Tryz.func10, Tryz.ntmps10
    go_wp2_with fail
    rw [← HW4.out]
    refine (HC.out _ HK0.out).mono ?_
    rintro e w5 ⟨rfl, hk5⟩
    have HT := Lib.hid (HRS.out.kept hk5)
    have HKE := Lib.hid (HK0.out.trans hk5)
    clear hk5
    have g0 := HT.out.cell (i := 0) (by simp)
    have g1 := HT.out.cell (i := 1) (by simp)
    have g2 := HT.out.free 0
    have g3 := HT.out.free 1
    have hlt := HT.out.lt
    simp only [List.getElem_cons_succ, List.getElem_cons_zero] at g0 g1
    go_wp2
    refine bodyPost_ret (v := .tuple #[.agg #[.slice none 0 0, .slice none 0 0], .iface 56 (.int .i64 (7 : Nat))]) ?_ rfl ⟨⟨_, _, rfl, IntsAt.nil _, IntsAt.nil _⟩, (HKE.out.store (by omega) 0 _).store (by omega) 1 _⟩
    simp [results, Tryz.results10, go_sem, g0, g1]
  | true =>
    rw [hsy] at HC
    simp only [if_true] at HC
    rw [errV_zero] at HC
    by_cases hlen : pn = V
    · cases hbad : badR ps with
      | true =>
        have e3 : byPR V T f ps l = (3, [], []) := by unfold byPR; rw [if_neg (by simp [hsy]), if_neg (by have := HPN.out; omega), if_pos hbad]
        rw [e3]
        rw [errV_pos (by decide)]
        rw [hbad] at HBA
        have hne : ((pn : Int) == (V : Int)) = true := by simp; omega
        have hne2 : ((pn : Int) != (V : Int)) = false := by simp [bne]; omega
        clear hsy e3 hbad hlen
        go_enter Tryz.func10, Tryz.ntmps10
        go_wp2_with fail
        rw [← HW4.out]
        refine (HC.out _ HK0.out).mono ?_
        rintro e w5 ⟨rfl, hk5⟩
        have HT5 := Lib.hid (HRS.out.kept hk5)
        have HK5 := Lib.hid (HK0.out.trans hk5)
        have HK05 := Lib.hid hk5
        have b50 := hk5.cell b0
        have b51 := hk5.cell b1
        have b52 := hk5.cell b2
        have l50 := hk5.cell l0
        have l51 := hk5.cell l1
        have l52 := hk5.cell l2
        have b5p := hk5.cell bp
        clear hk5
        go_wp2_with fail
        refine (HBA.out _ HK5.out).mono ?_
        rintro e w6 ⟨rfl, hk6⟩
        have HT := Lib.hid (HT5.out.kept hk6)
        have HKE := Lib.hid (HK5.out.trans hk6)
        clear hk6
        have g0 := HT.out.cell (i := 0) (by simp)
        have g1 := HT.out.cell (i := 1) (by simp)
        have g2 := HT.out.free 0
        have g3 := HT.out.free 1
        have hlt := HT.out.lt
        simp only [List.getElem_cons_succ, List.getElem_cons_zero] at g0 g1
        go_wp2
        refine bodyPost_ret (v := .tuple #[.agg #[.slice none 0 0, .slice none 0 0], .iface 56 (.int .i64 (3 : Nat))]) ?_ rfl ⟨⟨_, _, rfl, IntsAt.nil _, IntsAt.nil _⟩, (HKE.out.store (by omega) 0 _).store (by omega) 1 _⟩
        simp [results, Tryz.results10, go_sem, g0, g1]
      | false =>
        rw [hbad] at HBA
        cases hpr : probR l with
        | false =>
          have e3 : byPR V T f ps l = (3, [], []) := by unfold byPR; rw [if_neg (by simp [hsy]), if_neg (by have := HPN.out; omega), if_neg (by simp [hbad]), if_pos hpr]
          rw [e3]
          rw [errV_pos (by decide)]
          rw [hpr] at HPR
          have hne : ((pn : Int) == (V : Int)) = true := by simp; omega
          have hne2 : ((pn : Int) != (V : Int)) = false := by simp [bne]; omega
          clear hsy e3 hbad hpr hlen
          go_enter Tryz.func10, Tryz.ntmps10
          go_wp2_with fail
          rw [← HW4.out]
          refine (HC.out _ HK0.out).mono ?_
          rintro e w5 ⟨rfl, hk5⟩
          have HT5 := Lib.hid (HRS.out.kept hk5)
          have HK5 := Lib.hid (HK0.out.trans hk5)
          have HK05 := Lib.hid hk5
          have b50 := hk5.cell b0
          have b51 := hk5.cell b1
          have b52 := hk5.cell b2
          have l50 := hk5.cell l0
          have l51 := hk5.cell l1
          have l52 := hk5.cell l2
          have b5p := hk5.cell bp
          clear hk5
          go_wp2_with fail
          refine (HBA.out _ HK5.out).mono ?_
          rintro e w6 ⟨rfl, hk6⟩
          have m0 := hk6.cell l50
          have m1 := hk6.cell l51
          have m2 := hk6.cell l52
          have HT6 := Lib.hid (HT5.out.kept hk6)
          have HK6 := Lib.hid (HK5.out.trans hk6)
          clear hk6
          go_wp2_with fail
          refine (HPR.out _ HK6.out).mono ?_
          rintro e w7 ⟨rfl, hk7⟩
          have HT := Lib.hid (HT6.out.kept hk7)
          have HKE := Lib.hid (HK6.out.trans hk7)
          clear hk7
          have g0 := HT.out.cell (i := 0) (by simp)
          have g1 := HT.out.cell (i := 1) (by simp)
          have g2 := HT.out.free 0
          have g3 := HT.out.free 1
          have hlt := HT.out.lt
          simp only [List.getElem_cons_succ, List.getElem_cons_zero] at g0 g1
          go_wp2
          refine bodyPost_ret (v := .tuple #[.agg #[.slice none 0 0, .slice none 0 0], .iface 56 (.int .i64 (3 : Nat))]) ?_ rfl ⟨⟨_, _, rfl, IntsAt.nil _, IntsAt.nil _⟩, (HKE.out.store (by omega) 0 _).store (by omega) 1 _⟩
          simp [results, Tryz.results10, go_sem, g0, g1]
        | true =>
          rw [hpr] at HPR
          have eP : byPR V T f ps l = match topT V T (overQ ps (ratOf l)) f.nodes with | none => (4, [], []) | some p => (0, p.1, p.2) := by unfold byPR; rw [if_neg (by simp [hsy]), if_neg (by have := HPN.out; omega), if_neg (by simp [hbad]), if_neg (by simp [hpr])] <;> rfl
          have HRUN : Hid (∀ W, Kept w4 W → Kept w W → Calls Tryz.prog 33 #[.agg #[.int .i64 V, .slice a n c, .int .i64 T], .func (.func 34) #[] #[.pointer (some ⟨w.heap.size + 1, 0, none⟩), .pointer (some ⟨w.heap.size + 1 + 1, 0, none⟩)]] W fun e w' => Tr.TRes w' e (topT V T (overQ ps (ratOf l)) f.nodes) ∧ Kept W w') := Lib.hid fun W hk hk0 =>
            Tr.trunP_any _ f V T (w.heap.size + 1) (w.heap.size + 1 + 1) (overQ ps (ratOf l)) W (HV.out.kept hk0) HOK.out hsy fun W' hk' e he => by
              have hc0 := (hk.trans hk').cell bp
              exact over_prob ps l e _ _ _ _ pa W' hc0 (HP.out.kept (hk0.trans hk')) H3.out (by have := HPN.out; omega) (HRC.out.kept (hk.trans hk')) HL3.out he
          have hne : ((pn : Int) == (V : Int)) = true := by simp; omega
          have hne2 : ((pn : Int) != (V : Int)) = false := by simp [bne]; omega
          have HSY := Lib.hid hsy
          clear hbad hpr hsy hlen
          cases hto : topT V T (overQ ps (ratOf l)) f.nodes with
          | none =>
            rw [hto] at HRUN eP
            simp only at eP
            rw [eP]
            rw [errV_pos (by decide)]
            clear eP hto
            go_enter Tryz.func10, Tryz.ntmps10
            go_wp2_with fail
            rw [← HW4.out]
            refine (HC.out _ HK0.out).mono ?_
            rintro e w5 ⟨rfl, hk5⟩
            have HT5 := Lib.hid (HRS.out.kept hk5)
            have HK5 := Lib.hid (HK0.out.trans hk5)
            have HK05 := Lib.hid hk5
            have b50 := hk5.cell b0
            have b51 := hk5.cell b1
            have b52 := hk5.cell b2
            have l50 := hk5.cell l0
            have l51 := hk5.cell l1
            have l52 := hk5.cell l2
            have b5p := hk5.cell bp
            clear hk5
            go_wp2_with fail
            refine (HBA.out _ HK5.out).mono ?_
            rintro e w6 ⟨rfl, hk6⟩
            have m0 := hk6.cell l50
            have m1 := hk6.cell l51
            have m2 := hk6.cell l52
            have c60 := hk6.cell b50
            have c61 := hk6.cell b51
            have c62 := hk6.cell b52
            have HT6 := Lib.hid (HT5.out.kept hk6)
            have HK6 := Lib.hid (HK5.out.trans hk6)
            have HK06 := Lib.hid (HK05.out.trans hk6)
            clear hk6
            go_wp2_with fail
            refine (HPR.out _ HK6.out).mono ?_
            rintro e w7 ⟨rfl, hk7⟩
            have c70 := hk7.cell c60
            have c71 := hk7.cell c61
            have c72 := hk7.cell c62
            have m70 := hk7.cell m0
            have m71 := hk7.cell m1
            have m72 := hk7.cell m2
            have HT7 := Lib.hid (HT6.out.kept hk7)
            have HK7 := Lib.hid (HK6.out.trans hk7)
            have HK07 := Lib.hid (HK06.out.trans hk7)
            clear hk7 b50 b51 b52 c60 c61 c62 l50 l51 l52 m0 m1 m2
            go_wp2_with fail
            refine (HRUN.out _ HK07.out HK7.out).mono ?_
            rintro e w8 ⟨hres, hk8⟩
            have HT := Lib.hid (HT7.out.kept hk8)
            have HKE := Lib.hid (HK7.out.trans hk8)
            clear hk8
            have HE := hres
            unfold Tr.TRes at HE
            rw [errV_pos (by decide)] at HE
            subst HE
            have g0 := HT.out.cell (i := 0) (by simp)
            have g1 := HT.out.cell (i := 1) (by simp)
            have g2 := HT.out.free 0
            have g3 := HT.out.free 1
            have hlt := HT.out.lt
            simp only [List.getElem_cons_succ, List.getElem_cons_zero] at g0 g1
            go_wp2
            refine bodyPost_ret (v := .tuple #[.agg #[.slice none 0 0, .slice none 0 0], .iface 56 (.int .i64 (4 : Nat))]) ?_ rfl ⟨⟨_, _, rfl, IntsAt.nil _, IntsAt.nil _⟩, (HKE.out.store (by omega) 0 _).store (by omega) 1 _⟩
            simp [results, Tryz.results10, go_sem, g0, g1]
          | some p =>
            rw [hto] at HRUN eP
            simp only at eP
            rw [eP]
            rw [errV_zero]
            have HTT := Lib.hid (topT_says HOK.out HSY.out (overQ ps (ratOf l)) hto)
            clear eP hto
            go_enter Tryz.func10, Tryz.ntmps10
            go_wp2_with fail
            rw [← HW4.out]
            refine (HC.out _ HK0.out).mono ?_
            rintro e w5 ⟨rfl, hk5⟩
            have HT5 := Lib.hid (HRS.out.kept hk5)
            have HK5 := Lib.hid (HK0.out.trans hk5)
            have HK05 := Lib.hid hk5
            have b50 := hk5.cell b0
            have b51 := hk5.cell b1
            have b52 := hk5.cell b2
            have l50 := hk5.cell l0
            have l51 := hk5.cell l1
            have l52 := hk5.cell l2
            have b5p := hk5.cell bp
            clear hk5
            go_wp2_with fail
            refine (HBA.out _ HK5.out).mono ?_
            rintro e w6 ⟨rfl, hk6⟩
            have m0 := hk6.cell l50
            have m1 := hk6.cell l51
            have m2 := hk6.cell l52
            have c60 := hk6.cell b50
            have c61 := hk6.cell b51
            have c62 := hk6.cell b52
            have HT6 := Lib.hid (HT5.out.kept hk6)
            have HK6 := Lib.hid (HK5.out.trans hk6)
            have HK06 := Lib.hid (HK05.out.trans hk6)
            clear hk6
            go_wp2_with fail
            refine (HPR.out _ HK6.out).mono ?_
            rintro e w7 ⟨rfl, hk7⟩
            have c70 := hk7.cell c60
            have c71 := hk7.cell c61
            have c72 := hk7.cell c62
            have m70 := hk7.cell m0
            have m71 := hk7.cell m1
            have m72 := hk7.cell m2
            have HT7 := Lib.hid (HT6.out.kept hk7)
            have HK7 := Lib.hid (HK6.out.trans hk7)
            have HK07 := Lib.hid (HK06.out.trans hk7)
            clear hk7 b50 b51 b52 c60 c61 c62 l50 l51 l52 m0 m1 m2
            go_wp2_with fail
            refine (HRUN.out _ HK07.out HK7.out).mono ?_
            rintro e w8 ⟨hres, hk8⟩
            have HT := Lib.hid (HT7.out.kept hk8)
            have HKE := Lib.hid (HK7.out.trans hk8)
            clear hk8
            unfold Tr.TRes at hres
            simp only [Tr.minK_evW HTT.out.goodR HTT.out.mkR, errV_zero] at hres
            obtain ⟨kv, fv, rfl, hkv, hfv⟩ := hres
            obtain ⟨ka, kn, kc, rfl⟩ := hkv.shape
            obtain ⟨fa, fn, fc, rfl⟩ := hfv.shape
            have HKV := Lib.hid hkv
            have HFV := Lib.hid hfv
            have g0 := HT.out.cell (i := 0) (by simp)
            have g1 := HT.out.cell (i := 1) (by simp)
            have g2 := HT.out.free 0
            have g3 := HT.out.free 1
            have hlt := HT.out.lt
            simp only [List.getElem_cons_succ, List.getElem_cons_zero] at g0 g1
            clear hkv hfv
            go_wp2
            refine bodyPost_ret (v := .tuple #[.agg #[.slice ka kn kc, .slice fa fn fc], .nilIface]) ?_ rfl ⟨⟨_, _, rfl, ?_, ?_⟩, (HKE.out.store (by omega) 0 _).store (by omega) 1 _⟩
            · simp [results, Tryz.results10, go_sem, g0, g1]
            · exact Tr.cutoff_ints HT.out ⟨_, _, _, rfl⟩ HKV.out
            · exact Tr.cutoff_ints HT.out ⟨_, _, _, rfl⟩ HFV.out
    · have e11 : byPR V T f ps l = (11, [], []) := by unfold byPR; rw [if_neg (by simp [hsy]), if_pos (by have := HPN.out; omega)]
      rw [e11]
      rw [errV_pos (by decide)]
      have hne : ((pn : Int) == (V : Int)) = false := by simp; omega
      have hne2 : ((pn : Int) != (V : Int)) = true := by simp [bne]; omega
      have hne3 : ¬ (pn : Int) = (V : Int) := by omega
      clear hsy e11 hlen
      go_enter Tryz.func10, Tryz.ntmps10
      go_wp2_with fail
      rw [← HW4.out]
      refine (HC.out _ HK0.out).mono ?_
      rintro e w5 ⟨rfl, hk5⟩
      have HT := Lib.hid (HRS.out.kept hk5)
      have HKE := Lib.hid (HK0.out.trans hk5)
      have b50 := hk5.cell b0
      have b51 := hk5.cell b1
      have b52 := hk5.cell b2
      have b5p := hk5.cell bp
      clear hk5
      have g0 := HT.out.cell (i := 0) (by simp)
      have g1 := HT.out.cell (i := 1) (by simp)
      have g2 := HT.out.free 0
      have g3 := HT.out.free 1
      have hlt := HT.out.lt
      simp only [List.getElem_cons_succ, List.getElem_cons_zero] at g0 g1
      go_wp2
      refine bodyPost_ret (v := .tuple #[.agg #[.slice none 0 0, .slice none 0 0], .iface 56 (.int .i64 (11 : Nat))]) ?_ rfl ⟨⟨_, _, rfl, IntsAt.nil _, IntsAt.nil _⟩, (HKE.out.store (by omega) 0 _).store (by omega) 1 _⟩
      simp [results, Tryz.results10, go_sem, g0, g1]
end Go.Proofs.YteodabnjkikogaaGreat

/-
  Slices of the reference's rows: an int and a slice of ints each.
-/
namespace Go.Proofs.YteodabnjkikogaaGreat
open Go.RowKit
variable {Z : Option Nat}

/-- The nodes of a row, as a slice of the call's own. -/
def NdsAt (Z : Option Nat) (w : World) (u : Value) (r : Nat) : Prop := OwnInts w 0 u (ofN (nodesOf r)) ∧ ∀ g, u.ownBlock = some g → Z ≠ some g
/-- A slice of rows of the call's own. -/
def OwnRfs (Z : Option Nat) (w : World) (B : Nat) (v : Value) (L : List Nat) : Prop :=
  ∃ cells : List Value, w.ownsRow B 113 2 v L.length cells ∧ (L.length ≤ 20000 ∧ ∀ c ∈ L, RowLt 152 c) ∧
    ∀ i (h : i < L.length), ∃ u, cells[i * 2]? = some (.int .i64 (evW L[i])) ∧ cells[i * 2 + 1]? = some u ∧ NdsAt Z w u L[i]
end Go.Proofs.YteodabnjkikogaaGreat

/-
  Walks: faultlineref31.Minimal.
-/
namespace Go.Proofs.YteodabnjkikogaaGreat
open Go.RowKit
variable {Z : Option Nat}

def keptTo (L : List Nat) (i m : Nat) : Bool := (List.range m).all fun j => !outAt L i j
end Go.Proofs.YteodabnjkikogaaGreat

/-
  Walks: faultlineref06.Plus, Product.
-/
namespace Go.Proofs.YteodabnjkikogaaGreat
open Go.RowKit

/-- What a reference returns: a list and 0, or no list and ErrLarge. -/
def RRes (w' : World) (e : Ending) (r : Option (List Nat)) : Prop :=
  match r with
  | some l => ∃ v, e = .returned (.tuple #[v, .int .i64 0]) ∧ OwnSets w' 0 v l
  | none => e = .returned (.tuple #[.slice none 0 0, .int .i64 4])
end Go.Proofs.YteodabnjkikogaaGreat

/-
  Walks: faultlineref31.Run.
-/
namespace Go.Proofs.YteodabnjkikogaaGreat
open Go.RowKit
variable {Z : Option Nat}

/-- What the reference's Run answers. -/
def RefRun (w' : World) (e : Ending) (r : Option (List Nat × List Nat)) : Prop :=
  match r with
  | some p => ∃ Z v1 v2 L, e = .returned (.tuple #[v1, v2, .int .i64 0]) ∧ OwnRfs Z w' 0 v1 L ∧ L.Perm p.1 ∧ OwnInts w' 0 v2 (ofN p.2)
  | none => e = .returned (.tuple #[.slice none 0 0, .slice none 0 0, .int .i64 4])
end Go.Proofs.YteodabnjkikogaaGreat

/-
  The reference's rows while a list is parted: what stays. Plain: where the reference's search with a limit stands.
-/
namespace Go.Proofs.YteodabnjkikogaaGreat
open Go.RowKit
variable {Z : Option Nat}

/-- Where the reference's search with a limit stands. -/
def RefAt (V T : Nat) (f : Fm) (P : Nat → Bool) (L F : List Nat) (j : Int) (kx : Nat) : Prop :=
  (j = -1 ∧ L = [cond V (T : Int)] ∧ F = [] ∧ f.nodes.length + 1 ≤ kx) ∨ ∃ m i : Nat, j = (i : Int) ∧ m ≤ kx ∧ TStand V T f P L F m ∧ (∃ c ∈ L, c.testBit (24 + i) = true) ∧ ∀ c ∈ L, ∀ j, c.testBit (24 + j) = true → j ≤ i
/-- The limit's value, and what it decides. -/
def BeyAt (w : World) (lim : Value) (bp : Bool) (P : Nat → Bool) : Prop :=
  ∀ e W, Kept w W → Mk e → Calls Tryz.prog 78 #[lim, .bool bp, .int .i64 (e : Nat)] W fun e' w' => e' = .returned (.bool (P e)) ∧ Kept W w'
end Go.Proofs.YteodabnjkikogaaGreat

/-
  Walks: faultlineref35.run.
-/
namespace Go.Proofs.YteodabnjkikogaaGreat
open Go.RowKit

/-- What the reference's search with a limit answers. -/
def SRes (w : World) (e : Ending) : Option (List Nat × List Nat) → Prop
  | none => e = .returned (.tuple #[.agg #[.slice none 0 0, .slice none 0 0], .int .i64 4])
  | some p => ∃ kv fv, e = .returned (.tuple #[.agg #[kv, fv], .int .i64 0]) ∧ IntsAt w kv (ofN p.1) ∧ IntsAt w fv (ofN p.2)
end Go.Proofs.YteodabnjkikogaaGreat

/-
  Walk: faultlineref35.run, its limit asked for sets of known events only. Printed by conv_prob.py.
-/
namespace Go.Proofs.YteodabnjkikogaaGreat
open Go.RowKit

/-- The limit's value, and what it decides of sets of V events. -/
def BeyV (w : World) (lim : Value) (bp : Bool) (V : Nat) (P : Nat → Bool) : Prop :=
  ∀ e W, Kept w W → e < 2 ^ V → Calls Tryz.prog 78 #[lim, .bool bp, .int .i64 (e : Nat)] W fun e' w' => e' = .returned (.bool (P e)) ∧ Kept W w'
/-- A row's events are known ones. -/
def EvLt (V c : Nat) : Prop := ∀ j, j < 24 → c.testBit j = true → j < V
end Go.Proofs.YteodabnjkikogaaGreat

/-
  The law TopdownTyped returns true, whatever the formula.
-/
namespace Go.Proofs.YteodabnjkikogaaGreat
open Go.RowKit

theorem is_all (q c : Nat) (w : World) (hc : c ≠ 0) : Calls Tryz.prog 21 #[errV q, .int .i64 c] w fun e w' => e = .returned (.bool (q == c)) ∧ w = w' := by
  by_cases h : q = 0
  · subst h
    rw [errV_zero, show ((0 : Nat) == c) = false by simp; omega]
    exact is_nil c w
  · exact is_any q c h w
def negK (ks : List Int) : Bool := ks.any fun k => k == 1 || k == 5
end Go.Proofs.YteodabnjkikogaaGreat

/-
  Walks: faultlinelaw35.awake, refused, same; topdown.Cuts by its error number.
-/
namespace Go.Proofs.YteodabnjkikogaaGreat
open Go.RowKit

theorem refused_any (q : Nat) (hq : q = 4 ∨ q = 7) (w : World) : Calls Tryz.prog 20 #[errV q] w fun e w' => e = .returned (.bool true) ∧ w = w' := by
  have H7 : Hid (Calls Tryz.prog 21 #[errV q, .int .i64 7] w fun e w' => e = .returned (.bool (q == 7)) ∧ w = w') := Lib.hid (is_all q 7 w (by omega))
  have H4 : Hid (Calls Tryz.prog 21 #[errV q, .int .i64 4] w fun e w' => e = .returned (.bool (q == 4)) ∧ w = w') := Lib.hid (is_all q 4 w (by omega))
  have hb : ((q == 7) = true) ∨ ((q == 7) = false ∧ (q == 4) = true) := by rcases hq with rfl | rfl <;> simp
  rw [errV_pos (by omega)] at *
  clear hq
  rcases hb with h | ⟨h, h2⟩
  · rw [h] at H7
    go_enter Tryz.func20, Tryz.ntmps20
    go_wp2_with (go_at_call 21; (with_reducible refine H7.out.mono ?_); rintro e w1 ⟨rfl, rfl⟩)
    go_ret
    exact ⟨rfl, rfl⟩
  · rw [h] at H7
    rw [h2] at H4
    go_enter Tryz.func20, Tryz.ntmps20
    go_wp2_with (first | (go_at_call 21; (with_reducible refine H7.out.mono ?_); rintro e w1 ⟨rfl, rfl⟩) | (go_at_call 21; (with_reducible refine H4.out.mono ?_); rintro e w1 ⟨rfl, rfl⟩))
    go_ret
    exact ⟨rfl, rfl⟩
theorem by_ex : Tr.byR 3 5 exF 1 = (0, [1], [3, 5, 6]) := by
  unfold Tr.byR
  rw [if_neg (by rw [syn_ex]; decide), if_neg (by omega), show exF.nodes = exN from rfl, top35_ex]
theorem ex_by (v : Value) (w : World) (hv : NodesAt w v exN) :
    Calls Tryz.prog 27 #[.agg #[.int .i64 3, v, .int .i64 5], .int .i64 1] w fun e w' => (∃ kv fv, e = .returned (.tuple #[.agg #[kv, fv], .nilIface]) ∧ IntsAt w' kv (ofN [1]) ∧ IntsAt w' fv (ofN [3, 5, 6])) ∧ Kept w w' := by
  have h := Tr.tby_any v exF 3 5 1 w hv ok_ex chk_ex
  rw [by_ex] at h
  exact h
theorem one_new (w : World) (x : Int) : IntsAt (w.alloc (.cells #[.int .i64 x] 3)) (.slice (some ⟨w.heap.size, 0, none⟩) 1 1) [x] := by
  refine ⟨_, 1, rfl, ⟨Nat.le_refl _, fun h => by cases h⟩, by simp, fun i hi => ⟨w.heap.size, 0, rfl, ?_⟩⟩
  match i, hi with
  | 0, _ => exact alloc_cell rfl rfl
theorem one_new2 (w : World) (x : Int) (o : Obj) : IntsAt ((w.alloc o).alloc (.cells #[.int .i64 x] 3)) (.slice (some ⟨w.heap.size + 1, 0, none⟩) 1 1) [x] := by
  have := one_new (w.alloc o) x
  simpa using this
set_option maxRecDepth 100000 in
set_option maxHeartbeats 1000000 in
theorem wawake_ok (w : World) : Calls Tryz.prog 6 #[] w fun e w' => e = .returned (.bool true) ∧ Kept w w' := by
  go_enter Tryz.func6, Tryz.ntmps6
  go_wp2_with (first
    | (go_at_call 28; refine (example_ok _).mono ?_; rintro e w1 ⟨⟨v1, rfl, ⟨a1, n1, c1, rfl⟩, hn1⟩, hk1⟩; have HN1 := Lib.hid hn1; clear hn1)
    | (go_at_call 27; refine (ex_by _ _ HN1.out).mono ?_; rintro e w2 ⟨⟨kv, fv, rfl, hkv, hfv⟩, hk2⟩; obtain ⟨ka, kn, kc, rfl⟩ := hkv.shape; obtain ⟨fa, fn, fc, rfl⟩ := hfv.shape; have HKV := Lib.hid hkv; have HFV := Lib.hid hfv; have HK2 := Lib.hid (hk1.trans hk2); clear hkv hfv hk1 hk2)
    | (go_at_call 26; refine Calls.mono (ints_true (l := [1]) _ _ _ (HKV.out.kept (((Kept.refl _).alloc _).alloc _)) (one_new2 _ _ _)) ?_; rintro e w3 ⟨rfl, hk3⟩; have hc3 := hk3.cell (((Kept.refl _).alloc (.cells #[.int .i64 1] 3)).cell (p := ⟨w2.heap.size, 1, none⟩) (v := .slice fa fn fc) (by simp)); have HK3 := Lib.hid ((((Kept.refl _).alloc _).alloc _).trans hk3); clear hk3)
    | (go_at_call 26; refine Calls.mono (ints_true (l := [3, 5, 6]) _ _ _ ((HFV.out.kept HK3.out).kept ((Kept.refl _).alloc _)) (three_new _ _ _ _)) ?_; rintro e w4 ⟨rfl, hk4⟩))
  go_ret
  exact ⟨rfl, HK2.out.trans (HK3.out.trans (((Kept.refl _).alloc _).trans hk4))⟩
/-- topdown.Cuts by its error number. -/
theorem tcut_num (v : Value) (f : Fm) (V T : Nat) (hok : Ok f V T) (hck : chkF f = 0) (hs : ∃ a n c, v = .slice a n c) :
    ∃ (q : Nat) (R : List Nat), ((q = 0 ∧ synK V T f = true ∧ ∃ p, topK V T f.nodes = some p ∧ R = p.1) ∨ ((q = 4 ∨ q = 7) ∧ R = [])) ∧
      ∀ W, NodesAt W v f.nodes → Calls Tryz.prog 19 #[.agg #[.int .i64 V, v, .int .i64 T]] W fun e w' => (∃ v', e = .returned (.tuple #[v', errV q]) ∧ OwnSets w' 0 v' R) ∧ Kept W w' := by
  have hfm : fmV v f = .agg #[.int .i64 V, v, .int .i64 T] := by unfold fmV; rw [hok.vars, hok.top]
  have hnil : ∀ W : World, OwnSets W 0 (.slice none 0 0) [] := fun W => ⟨by simpa [ofN] using OwnInts.nil W 0, by simp⟩
  cases hsy : synK V T f with
  | false =>
    refine ⟨7, [], .inr ⟨.inr rfl, rfl⟩, fun W hW => ?_⟩
    have h := tcuts_err v f 7 (by omega) W hs (fun W' hk => by
      rw [hfm]
      refine run_typed v V T W' hs fun W2 hk2 => ?_
      have := syntax_ok v f V T W2 ((hW.kept hk).kept hk2) hok hck
      rw [hsy] at this
      exact this)
    rw [hfm] at h
    exact h.mono fun e w' ⟨h1, h2⟩ => ⟨⟨_, h1, hnil w'⟩, h2⟩
  | true =>
    cases hl : topK V T f.nodes with
    | none =>
      refine ⟨4, [], .inr ⟨.inl rfl, rfl⟩, fun W hW => ?_⟩
      have h := tcuts_err v f 4 (by omega) W hs (fun W' hk => by
        have := run_ok v f V T W' (hW.kept hk) hok hck hsy
        rw [hl, ← hfm] at this
        exact this)
      rw [hfm] at h
      exact h.mono fun e w' ⟨h1, h2⟩ => ⟨⟨_, h1, hnil w'⟩, h2⟩
    | some p =>
      obtain ⟨hg, hm, _⟩ := topK_says hok hsy hl
      exact ⟨0, p.1, .inl ⟨rfl, rfl, p, rfl, rfl⟩, fun W hW => tcuts_ok v V T p W hg hm hs fun W' hk => by
        have := run_ok v f V T W' (hW.kept hk) hok hck hsy
        rw [hl] at this
        exact this⟩
end Go.Proofs.YteodabnjkikogaaGreat

/-
  Walks: faultlinelaw35.broad; truncate.ByProb of a formula that Check refuses; a fraction that came in.
-/
namespace Go.Proofs.YteodabnjkikogaaGreat
open Go.RowKit Go.ChangeShapes Go.WideShapes Go.ChangeAt Go.Joins Go.Deep

/-- Some bool. -/
def IsB (u : Value) : Prop := ∃ b, u = .bool b
set_option maxRecDepth 100000 in
set_option maxHeartbeats 2000000 in
theorem broad_any (v : Value) (f : Fm) (w : World) (hv : NodesAt w v f.nodes) :
    Calls Tryz.prog 8 #[fmV v f] w fun e w' => (∃ u, e = .returned u ∧ IsB u) ∧ Kept w w' := by
  obtain ⟨a, c, rfl, _, hl, hx⟩ := hv
  obtain ⟨n, hn⟩ : ∃ n, n = f.nodes.length := ⟨_, rfl⟩
  rw [← hn] at hl ⊢
  obtain ⟨vars, nodes, top⟩ := f
  have HX := Lib.hid hx
  have HN := Lib.hid hn
  clear hx hn
  show Calls _ _ #[.agg #[.int .i64 vars, .slice a n c, .int .i64 top]] _ _
  go_enter Tryz.func8, Tryz.ntmps8
  go_wp2_with fail
  go_loopg [3, 9] n (fun kx s3 s9 wr => ∃ (k : Nat) (x : Int), k ≤ n ∧ s9 = .int .i64 k ∧ n - k ≤ kx ∧ s3 = .int .i64 x ∧ Hid (Kept w wr))
  case atStart => exact ⟨0, 0, Nat.zero_le _, rfl, by omega, rfl, Lib.hid ((Kept.refl _).alloc _)⟩
  case round =>
    obtain ⟨k, x, hk, rfl, hkx, rfl, HK⟩ := hrel
    by_cases hlt : k < n
    · obtain ⟨b, o, rfl, u, h1, h2, h3, h4⟩ := HX.out k (by have := HN.out; omega)
      obtain ⟨ax, cx, rfl, _, hlx, hcx⟩ := h4
      have HRG := Lib.hid (node_range (HK.out.cell h1) (HK.out.cell h2) (HK.out.cell h3))
      clear hcx h1 h2 h3
      generalize nodes[k].kind = kd at HRG
      generalize nodes[k].k = kk at HRG
      generalize nodes[k].args.length = na at HRG hlx
      have hkn : (k : Int) < (n : Int) := by omega
      go_wp2_with (with_reducible refine wpList_load_mid rfl 64 _ rfl b (o + k * 3) rfl _ _ HRG.out Tryz.underlying64 rfl (by kernel_rfl) ?_)
      go_roundg (n - (k + 1))
      case measure => omega
      case rel => exact ⟨k + 1, _, by omega, by go_num, Nat.le_refl _, rfl, Lib.hid (HK.out.alloc _)⟩
    · have hkn : ¬ (k : Int) < (n : Int) := by omega
      go_wp2
      go_ret
      exact ⟨⟨_, rfl, _, rfl⟩, HK.out⟩
/-- A fraction, however long. -/
def RatRaw (w : World) (v : Value) (r : Rw) : Prop := ∃ u1 u2, v = .agg #[.bool r.neg, u1, u2] ∧ WdRaw w u1 r.num ∧ WdRaw w u2 r.den
theorem RatRaw.small {w : World} {v : Value} {r : Rw} (h : RatRaw w v r) (hs : r.Short 1099511627776) : RatAt w v r := by
  obtain ⟨u1, u2, h1, h2, h3⟩ := h
  exact ⟨u1, u2, h1, h2.small hs.1, h3.small hs.2⟩
theorem rats_one {w : World} {r : Rw} {u1 u2 : Value} (h1 : WdRaw w u1 r.num) (h2 : WdRaw w u2 r.den) : RatsRaw (w.alloc (.cells #[.bool r.neg, u1, u2] 28)) (.slice (some ⟨w.heap.size, 0, none⟩) 1 1) [r] := by
  refine ⟨_, 1, rfl, ⟨Nat.le_refl _, fun h => by cases h⟩, by simp, fun i hi => ?_⟩
  have hi0 : i = 0 := by simp at hi; exact hi
  subst hi0
  refine ⟨w.heap.size, 0, u1, u2, rfl, ?_, h1.kept ((Kept.refl _).alloc _), h2.kept ((Kept.refl _).alloc _)⟩
  intro j v hj
  have hr := RowAt.made w #[.bool r.neg, u1, u2] 28
  match j, hj with
  | 0, hj => simp at hj; subst hj; exact hr.cell (i := 0) (by simp)
  | 1, hj => simp at hj; subst hj; exact hr.cell (i := 1) (by simp)
  | 2, hj => simp at hj; subst hj; exact hr.cell (i := 2) (by simp)
set_option maxRecDepth 100000 in
/-- A fraction that came in. -/
theorem rat_open {H : Type} {enc : TypeId × Value → H} {W : World} {base : Nat} {v : Value} {d : DataW H} {p : List MemPlace} (hv : Value.okWide Tryz.prog W .any base 28 v) (hb : ∀ n ∈ d.weights Tryz.prog 28, n ≤ reachBytes)
    (h : DataW.Trod enc Tryz.prog W 0 (fun _ => true) true 28 v d p) : ∃ r, RatRaw W v r := by
  obtain ⟨v0, v1, v2, y0, y1, y2, n, rfl, hd, _, t0, t1, t2⟩ := open_agg3 Tryz.underlying28 (by kernel_rfl) cells_rat hv h
  obtain ⟨ng, e0, _⟩ := DataW.trod_bool Tryz.underlying4 t0
  obtain ⟨u1, xs, e1, hu1⟩ := words_open (fun n hn => hb n (by
    rw [hd]
    simp only [DataW.weights, Tryz.underlying28]
    simp only [List.map_cons, DataW.weightsEach, List.mem_append]
    exact .inr (.inl hn))) t1
  obtain ⟨u2, ys, e2, hu2⟩ := words_open (fun n hn => hb n (by
    rw [hd]
    simp only [DataW.weights, Tryz.underlying28]
    simp only [List.map_cons, DataW.weightsEach, List.mem_append]
    exact .inr (.inr (.inl hn)))) t2
  simp at e0 e1 e2
  subst e0 e1 e2
  exact ⟨⟨ng, xs, ys⟩, _, _, rfl, hu1, hu2⟩
end Go.Proofs.YteodabnjkikogaaGreat

/-
  Plain: a set with more events is less likely. Walk: the law's own product.
-/
namespace Go.Proofs.YteodabnjkikogaaGreat
open Go.RowKit

theorem le_zero {a b : Rat} : a - b ≤ 0 ↔ a ≤ b := by
  constructor
  · intro h
    have h2 := Rat.neg_le_neg h
    rw [Rat.le_iff_sub_nonneg]
    have e : - (a - b) = b - a := by rw [Rat.neg_sub]
    rw [e] at h2
    simpa using h2
  · intro h
    have h2 := (Rat.le_iff_sub_nonneg a b).1 h
    have h3 := Rat.neg_le_neg h2
    have e : - (b - a) = a - b := by rw [Rat.neg_sub]
    rw [e] at h3
    simpa using h3
theorem prob_unit {r : Rw} (hw : r.Ok) (h : probR r = true) : 0 ≤ ratOf r ∧ ratOf r ≤ 1 := by
  rw [prob_sgn hw] at h
  simp only [Bool.and_eq_true, decide_eq_true_eq] at h
  exact ⟨(sgn_ge _).1 h.2.1, le_zero.1 ((sgn_le _).1 h.2.2)⟩
theorem prodQ_mono {a b : Nat} {ps : List Rw} (h : subN a b = true) (hp : ∀ r ∈ ps, 0 ≤ ratOf r ∧ ratOf r ≤ 1) : ∀ n, n ≤ ps.length → 0 ≤ prodQ b ps n ∧ prodQ b ps n ≤ prodQ a ps n := by
  intro n
  induction n with
  | zero => intro _; exact ⟨by show (0 : Rat) ≤ 1; decide, Rat.le_refl⟩
  | succ n ih =>
    intro hn
    obtain ⟨h0, h1⟩ := ih (by omega)
    have hx : ps.getD n default = ps[n] := by simp [List.getD_eq_getElem?_getD, show n < ps.length by omega]
    obtain ⟨x0, x1⟩ := hp _ (List.getElem_mem (show n < ps.length by omega))
    rw [← hx] at x0 x1
    rw [prodQ_succ, prodQ_succ]
    have hs := subN_iff.1 h n
    cases hb : b.testBit n with
    | true =>
      rw [if_pos rfl]
      refine ⟨Rat.mul_nonneg h0 x0, ?_⟩
      split
      · exact Rat.mul_le_mul_of_nonneg_right h1 x0
      · have h2 := Rat.mul_le_mul_of_nonneg_left x1 h0
        rw [Rat.mul_one] at h2
        exact Rat.le_trans h2 h1
    | false =>
      rw [if_neg (by simp)]
      have ha : a.testBit n = false := by
        cases hc : a.testBit n with
        | false => rfl
        | true => rw [hs hc] at hb; cases hb
      rw [ha, if_neg (by simp)]
      exact ⟨h0, h1⟩
theorem overQ_iff (ps : List Rw) (l : Rat) (e : Nat) : overQ ps l e = true ↔ prodQ e ps ps.length < l := by
  unfold overQ
  rw [decide_eq_true_eq]
  have h1 : ¬ sgnR (prodQ e ps ps.length - l) < 0 ↔ ¬ prodQ e ps ps.length < l := by
    rw [Int.not_lt, Rat.not_lt]
    refine (sgn_ge _).trans ?_
    rw [← Rat.le_iff_sub_nonneg]
  exact Decidable.not_iff_not.1 h1
theorem overQ_mono {ps : List Rw} (hok : ∀ r ∈ ps, r.Ok) (hb : badR ps = false) (l : Rat) : ∀ a b, subN a b = true → overQ ps l a = true → overQ ps l b = true := by
  intro a b h ha
  have hp : ∀ r ∈ ps, 0 ≤ ratOf r ∧ ratOf r ≤ 1 := fun r hr => prob_unit (hok r hr) (by
    unfold badR at hb
    rw [List.any_eq_false] at hb
    have := hb r hr
    simpa using this)
  rw [overQ_iff] at ha ⊢
  exact Rat.not_le.1 fun hle => (Rat.not_le.2 ha) (Rat.le_trans hle (prodQ_mono h hp ps.length (Nat.le_refl _)).2)
set_option maxRecDepth 100000 in
set_option maxHeartbeats 4000000 in
theorem product_law (s : Nat) (v : Value) (ps : List Rw) (w : World) (hs : s < 16777216) (hv : RatsAt w v ps) (hp3 : ∀ r ∈ ps, r.Short 3) (hp30 : ps.length ≤ 24) :
    Calls Tryz.prog 25 #[v, .int .i64 s] w fun e w' => (∃ v', e = .returned v' ∧ RatAt w' v' (canR (prodQ s ps ps.length))) ∧ Kept w w' := by
  have HOF : Hid (∀ W, Calls Tryz.prog 59 #[.int .i64 1] W fun e w' => (∃ v', e = .returned v' ∧ RatAt w' v' (canR (prodQ s ps 0))) ∧ Kept W w') := Lib.hid fun W => rof_any 1 W (by omega) (by omega)
  have HH := Lib.hid (fun (i : Nat) W => hasS_any s i hs W)
  have HSH := Lib.hid (fun n hn => prod_short (s := s) hp3 hv.ok n hn)
  have HV := Lib.hid hv
  have HP3 := Lib.hid hp3
  obtain ⟨a, c, rfl⟩ := hv.shape
  obtain ⟨n, hn⟩ : ∃ n, n = ps.length := ⟨_, rfl⟩
  rw [← hn] at HV hp30 ⊢
  have HN := Lib.hid hn
  have emin : min (n : Int) 24 = (n : Int) := by omega
  obtain ⟨R, hR⟩ : ∃ R, R = canR (prodQ s ps n) := ⟨_, rfl⟩
  rw [← hR]
  have HRR := Lib.hid hR
  clear hR
  obtain ⟨w2, hw2⟩ : ∃ w2, w2 = w.alloc (.cells #[.bool false, .slice none 0 0, .slice none 0 0] 28) := ⟨_, rfl⟩
  have HR : Hid (RowAt w2 w.heap.size 28 [.bool false, .slice none 0 0, .slice none 0 0]) := Lib.hid (by rw [hw2]; exact RowAt.made w #[.bool false, .slice none 0 0, .slice none 0 0] 28)
  have HFX : Hid (FixAt w2 w.heap.size [.bool false, .slice none 0 0, .slice none 0 0]) := Lib.hid (by rw [hw2]; exact FixAt.made w #[.bool false, .slice none 0 0, .slice none 0 0] 28)
  have HK0 : Hid (Kept w w2) := Lib.hid (by rw [hw2]; exact (Kept.refl w).alloc _)
  have HW2 := Lib.hid hw2
  clear hn hv hp3 hs hw2
  go_enter Tryz.func25, Tryz.ntmps25
  go_wp2_with fail
  rw [← HW2.out]
  refine (HOF.out _).mono ?_
  rintro e w3 ⟨⟨v3, rfl, hv3⟩, hk3⟩
  have HR3 := Lib.hid (HR.out.kept hk3)
  have HF3 := Lib.hid (HFX.out.kept hk3)
  have HK3 := Lib.hid (HK0.out.trans hk3)
  obtain ⟨u1, u2, rfl, h1, h2⟩ := hv3
  obtain ⟨a1, c1, rfl⟩ := h1.shape
  obtain ⟨a2, c2, rfl⟩ := h2.shape
  have HC := Lib.hid (RatCell.made h1 h2)
  obtain ⟨w4, hw4⟩ : ∃ w4, w4 = w3.alloc (.cells #[.bool (canR (prodQ s ps 0)).neg, .slice a1 (canR (prodQ s ps 0)).num.length c1, .slice a2 (canR (prodQ s ps 0)).den.length c2] 28) := ⟨_, rfl⟩
  have HW4 := Lib.hid hw4
  rw [← hw4] at HC
  have HK4 : Hid (Kept w3 w4) := Lib.hid (by rw [hw4]; exact (Kept.refl _).alloc _)
  generalize (canR (prodQ s ps 0)).neg = b0 at *
  generalize (canR (prodQ s ps 0)).num.length = l1 at *
  generalize (canR (prodQ s ps 0)).den.length = l2 at *
  clear h1 h2 hk3 hw4
  go_wp2_with fail
  rw [← HW4.out]
  go_loopg [11] n (fun kx s10 wr => ∃ k : Nat, k ≤ n ∧ s10 = .int .i64 k ∧ n - k ≤ kx ∧ Hid (RatCell wr w3.heap.size (canR (prodQ s ps k))) ∧ Hid (Kept w3 wr))
  case atStart => exact ⟨0, Nat.zero_le _, rfl, by omega, HC, HK4⟩
  case round =>
    obtain ⟨k, hk, rfl, hkx, HX, HKr⟩ := hrel
    by_cases hlt : k < n
    · have hkn : (k : Int) < (n : Int) := by omega
      cases hb : s.testBit k with
      | false =>
        have HCH : Hid (∀ W, Calls Tryz.prog 60 #[.int .i64 s, .int .i64 k] W fun e w' => e = .returned (.bool false) ∧ w' = W) := Lib.hid fun W => by have h := HH.out k W; rw [hb] at h; exact h
        have HST : Hid (prodQ s ps (k + 1) = prodQ s ps k) := Lib.hid (by rw [prodQ_succ, if_neg (by rw [hb]; simp)])
        clear hb
        go_wp2_with (go_at_call 60; refine (HCH.out _).mono ?_; rintro e w5 ⟨rfl, rfl⟩)
        go_roundg (n - (k + 1))
        case measure => omega
        case rel => exact ⟨k + 1, by omega, by go_num, Nat.le_refl _, Lib.hid (by rw [HST.out]; exact HX.out), HKr⟩
      | true =>
        have HCH : Hid (∀ W, Calls Tryz.prog 60 #[.int .i64 s, .int .i64 k] W fun e w' => e = .returned (.bool true) ∧ w' = W) := Lib.hid fun W => by have h := HH.out k W; rw [hb] at h; exact h
        have HST : Hid (canR (prodQ s ps (k + 1)) = canR (ratOf (canR (prodQ s ps k)) * ratOf (ps.getD k default))) := Lib.hid (by rw [prodQ_succ, if_pos hb, ratOf_can])
        have hkl : k < ps.length := by have := HN.out; omega
        have hsk := HSH.out k (by have := HN.out; omega)
        have hx3 : (ps.getD k default).Short 3 := by
          have e : ps.getD k default = ps[k] := by simp [List.getD_eq_getElem?_getD, hkl]
          rw [e]; exact HP3.out _ (List.getElem_mem _)
        obtain ⟨b, o, u1, u2, rfl, hrg, hw1, hw2⟩ := HV.out.get k hkl
        obtain ⟨a3, c3, rfl⟩ := hw1.shape
        obtain ⟨a4, c4, rfl⟩ := hw2.shape
        have HKw := Lib.hid (HK3.out.trans HKr.out)
        have hrg2 := range_same hrg HKw.out
        have y0 := hrg2 0 _ rfl
        have y1 := hrg2 1 _ rfl
        have y2 := hrg2 2 _ rfl
        rw [Nat.add_zero] at y0
        obtain ⟨a5, c5, a6, c6, ⟨x0, x1, x2⟩, ⟨f0, f1, f2⟩, hgl, hxa⟩ := HX.out.at
        have HML : Hid (∀ W, Kept wr W → Calls Tryz.prog 61 #[.agg #[.bool (canR (prodQ s ps k)).neg, .slice a5 (canR (prodQ s ps k)).num.length c5, .slice a6 (canR (prodQ s ps k)).den.length c6], .agg #[.bool (ps.getD k default).neg, .slice a3 (ps.getD k default).num.length c3, .slice a4 (ps.getD k default).den.length c4]] W fun e w' => (∃ v', e = .returned v' ∧ RatAt w' v' (canR (prodQ s ps (k + 1)))) ∧ Kept W w') := Lib.hid fun W hk => by
          rw [HST.out]
          exact rmul_any _ _ _ _ W (hxa.kept hk) ⟨_, _, rfl, hw1.kept (HKw.out.trans hk), hw2.kept (HKw.out.trans hk)⟩ ⟨Nat.le_trans hsk.1 (by omega), Nat.le_trans hsk.2 (by omega)⟩ ⟨Nat.le_trans hx3.1 (by omega), Nat.le_trans hx3.2 (by omega)⟩
        generalize (ps.getD k default).neg = z0 at *
        generalize (ps.getD k default).num.length = z1 at *
        generalize (ps.getD k default).den.length = z2 at *
        generalize (canR (prodQ s ps k)).neg = z3 at *
        generalize (canR (prodQ s ps k)).num.length = z4 at *
        generalize (canR (prodQ s ps k)).den.length = z5 at *
        clear hb hsk hx3 hrg hrg2 hw1 hw2 hxa hkl
        go_wp2_with (go_at_call 60; refine (HCH.out _).mono ?_; rintro e w5 ⟨rfl, rfl⟩)
        go_region_with (go_at_call 61; (with_reducible refine (HML.out _ (Kept.refl _).drew).mono ?_); rintro e w6 ⟨⟨v6, rfl, hv6⟩, hk6⟩; have hkd := (Kept.refl _).drew.trans hk6; have HX6 := Lib.hid (HX.out.kept hkd); have HK6 := Lib.hid (HKr.out.trans hkd); obtain ⟨u7, u8, rfl, k7, k8⟩ := hv6; obtain ⟨a7, c7, rfl⟩ := k7.shape; obtain ⟨a8, c8, rfl⟩ := k8.shape; have K7 := Lib.hid k7; have K8 := Lib.hid k8; obtain ⟨_, _, _, _, ⟨i0, i1, i2⟩, ⟨j0, j1, j2⟩, hgl6, _⟩ := HX6.out.at; clear k7 k8 hk6 hkd)
        all_goals
          have HS := Lib.hid (HX6.out.store K7.out K8.out)
          generalize (canR (prodQ s ps (k + 1))).num.length = n7 at *
          generalize (canR (prodQ s ps (k + 1))).den.length = n8 at *
          go_wp2_with fail
          go_roundg (n - (k + 1))
          case measure => omega
          case rel => exact ⟨k + 1, by omega, by go_num, Nat.le_refl _, HS, Lib.hid (((HK6.out.store (Nat.le_refl _) _ _).store (Nat.le_refl _) _ _).store (Nat.le_refl _) _ _)⟩
    · have hke : k = n := by omega
      have hkn : ¬ (k : Int) < (n : Int) := by omega
      have HX2 : Hid (RatCell wr w3.heap.size R) := Lib.hid (by rw [HRR.out, ← hke]; exact HX.out)
      have hrr := HR3.out.kept HKr.out
      have HFF := Lib.hid (HF3.out.kept HKr.out)
      obtain ⟨a5, c5, a6, c6, ⟨x0, x1, x2⟩, _, hgl, u7, u8, e9, k7, k8⟩ := HX2.out.at
      simp only [Value.agg.injEq] at e9
      have e9' := congrArg Array.toList e9
      simp at e9'
      obtain ⟨rfl, rfl⟩ := e9'
      obtain ⟨y0, y1, y2, hra⟩ := rat_stored hrr HFF.out k7 k8
      have g0 := hrr.cell (i := 0) (by simp)
      have g1 := hrr.cell (i := 1) (by simp)
      have g2 := hrr.cell (i := 2) (by simp)
      have f0 := hrr.free 0
      have f1 := hrr.free 1
      have f2 := hrr.free 2
      have HRA := Lib.hid hra
      have Y0 := Lib.hid y0
      have Y1 := Lib.hid y1
      have Y2 := Lib.hid y2
      have HKw := Lib.hid (HK3.out.trans HKr.out)
      clear hra y0 y1 y2 k7 k8 hrr e9 hke
      generalize R.num.length = n7 at *
      generalize R.den.length = n8 at *
      go_wp2
      refine bodyPost_ret (v := .agg #[.bool R.neg, .slice a5 n7 c5, .slice a6 n8 c6]) ?_ rfl ⟨⟨_, rfl, HRA.out⟩, ?_⟩
      · simp [results, Tryz.results25, go_sem, Y0.out, Y1.out, Y2.out]
      · exact ((HKw.out.store (Nat.le_refl _) _ _).store (Nat.le_refl _) _ _).store (Nat.le_refl _) _ _
end Go.Proofs.YteodabnjkikogaaGreat

/-
  Walk: the law TruncateLikely returns true, whatever the arguments. Printed by gen_Y39.py.
-/
namespace Go.Proofs.YteodabnjkikogaaGreat
open Go.RowKit Go.ChangeShapes Go.WideShapes Go.ChangeAt Go.Joins Go.Deep

theorem byPR_cases (V T : Nat) (f : Fm) (ps : List Rw) (l : Rw) : ∃ q R F, byPR V T f ps l = (q, R, F) ∧ ((q = 0 ∧ synK V T f = true ∧ ps.length = V ∧ badR ps = false ∧ topT V T (overQ ps (ratOf l)) f.nodes = some (R, F)) ∨ (q ≠ 0 ∧ R = [] ∧ F = [] ∧ ((q = 4 ∨ q = 7) ∨ (q = 11 ∧ ps.length ≠ V) ∨ (q = 3 ∧ (badR ps = true ∨ probR l = false))))) := by
  unfold byPR
  by_cases hs : synK V T f = false
  · rw [if_pos hs]; exact ⟨_, _, _, rfl, .inr ⟨by omega, rfl, rfl, .inl (.inr rfl)⟩⟩
  · rw [if_neg hs]
    by_cases hl : ps.length ≠ V
    · rw [if_pos hl]; exact ⟨_, _, _, rfl, .inr ⟨by omega, rfl, rfl, .inr (.inl ⟨rfl, hl⟩)⟩⟩
    · rw [if_neg hl]
      by_cases hb : badR ps = true
      · rw [if_pos hb]; exact ⟨_, _, _, rfl, .inr ⟨by omega, rfl, rfl, .inr (.inr ⟨rfl, .inl hb⟩)⟩⟩
      · rw [if_neg hb]
        by_cases hp : probR l = false
        · rw [if_pos hp]; exact ⟨_, _, _, rfl, .inr ⟨by omega, rfl, rfl, .inr (.inr ⟨rfl, .inr hp⟩)⟩⟩
        · rw [if_neg hp]
          cases ht : topT V T (overQ ps (ratOf l)) f.nodes with
          | none => exact ⟨_, _, _, rfl, .inr ⟨by omega, rfl, rfl, .inl (.inl rfl)⟩⟩
          | some p => exact ⟨_, _, _, rfl, .inl ⟨rfl, by simpa using hs, by omega, by simpa using hb, rfl⟩⟩
theorem refused_no (q : Nat) (hq : q ≠ 0 ∧ q ≠ 4 ∧ q ≠ 7) (w : World) : Calls Tryz.prog 20 #[errV q] w fun e w' => e = .returned (.bool false) ∧ w = w' := by
  have H7 : Hid (Calls Tryz.prog 21 #[errV q, .int .i64 7] w fun e w' => e = .returned (.bool (q == 7)) ∧ w = w') := Lib.hid (is_all q 7 w (by omega))
  have H4 : Hid (Calls Tryz.prog 21 #[errV q, .int .i64 4] w fun e w' => e = .returned (.bool (q == 4)) ∧ w = w') := Lib.hid (is_all q 4 w (by omega))
  have h7 : (q == 7) = false := by simp; omega
  have h4 : (q == 4) = false := by simp; omega
  rw [errV_pos (by omega)] at *
  rw [h7] at H7
  rw [h4] at H4
  clear hq h7 h4
  go_enter Tryz.func20, Tryz.ntmps20
  go_wp2_with (first | (go_at_call 21; (with_reducible refine H7.out.mono ?_); rintro e w1 ⟨rfl, rfl⟩) | (go_at_call 21; (with_reducible refine H4.out.mono ?_); rintro e w1 ⟨rfl, rfl⟩))
  go_ret
  exact ⟨rfl, rfl⟩
set_option maxRecDepth 100000 in
set_option maxHeartbeats 16000000 in
theorem likely_true (w : World) (v pv lv : Value) (f : Fm) (ps : List Rw) (l : Rw) (hv : NodesAt w v f.nodes) (hfo : FmOk f) (hp : RatsRaw w pv ps) (hl : RatRaw w lv l) :
    Calls Tryz.prog 5 #[fmV v f, pv, lv] w fun e w' => e = .returned (.bool true) ∧ Kept w w' := by
  have ht : f.top ≤ 9223372036854775807 := hfo.2.1.2
  have hh : ∀ W, Kept w W → Calls Tryz.prog 7 #[fmV v f] W fun e w' => (∃ b, e = .returned (.bool b)) ∧ Kept W w' := fun W hk => heavy_any v f W (hv.kept hk)
  have hbr : ∀ W, Kept w W → Calls Tryz.prog 8 #[fmV v f] W fun e w' => (∃ u, e = .returned u ∧ IsB u) ∧ Kept W w' := fun W hk => broad_any v f W (hv.kept hk)
  have hc : ∀ W, Kept w W → Calls Tryz.prog 18 #[fmV v f] W fun e w' => e = .returned (errV (chkF f)) ∧ Kept W w' := fun W hk => check_any v f W (hv.kept hk) ht
  have HLP := Lib.hid (fun W (h : Kept w W) => large_any pv ps W (hp.kept h))
  obtain ⟨q, hq⟩ : ∃ q, q = chkF f := ⟨_, rfl⟩
  rw [← hq] at hc
  have hsh : ∃ a n c, v = .slice a n c := by obtain ⟨a, c, h, _⟩ := hv; exact ⟨a, _, c, h⟩
  have HQ := Lib.hid hq
  have HV := Lib.hid hv
  have HP := Lib.hid hp
  have HLR := Lib.hid hl
  obtain ⟨a, n, c, rfl⟩ := hsh
  obtain ⟨pa, pc, hps, _⟩ := id hp
  obtain ⟨pn, hpn⟩ : ∃ pn, pn = ps.length := ⟨_, rfl⟩
  have HPN := Lib.hid hpn
  rw [← hpn] at hps
  subst hps
  obtain ⟨u1, u2, hlv, k1, k2⟩ := id hl
  have HL2 : Hid (∀ W, Kept w W → Calls Tryz.prog 9 #[.slice (some ⟨W.heap.size, 0, none⟩) 1 1] (W.alloc (.cells #[.bool l.neg, u1, u2] 28)) fun e w' => (∃ u, e = .returned u ∧ LargeV u [l]) ∧ Kept (W.alloc (.cells #[.bool l.neg, u1, u2] 28)) w') := Lib.hid fun W hk => large_any _ [l] _ (rats_one (k1.kept hk) (k2.kept hk))
  obtain ⟨a1, c1, hu1, _⟩ := k1.shape
  obtain ⟨a2, c2, hu2, _⟩ := k2.shape
  subst hlv hu1 hu2
  obtain ⟨vars, nodes, top⟩ := f
  obtain ⟨w2, hw2⟩ : ∃ w2, w2 = (w.alloc (.cells #[.int .i64 vars, .slice a n c, .int .i64 top] 24)).alloc (.cells #[.bool l.neg, .slice a1 l.num.length c1, .slice a2 l.den.length c2] 28) := ⟨_, rfl⟩
  have HBX : Hid (∀ W, Kept w2 W → (W.cell? ⟨w.heap.size, 0, none⟩ = some (.int .i64 vars) ∧ W.cell? ⟨w.heap.size, 1, none⟩ = some (.slice a n c) ∧ W.cell? ⟨w.heap.size, 2, none⟩ = some (.int .i64 top)) ∧ (W.cell? ⟨w.heap.size + 1, 0, none⟩ = some (.bool l.neg) ∧ W.cell? ⟨w.heap.size + 1, 1, none⟩ = some (.slice a1 l.num.length c1) ∧ W.cell? ⟨w.heap.size + 1, 2, none⟩ = some (.slice a2 l.den.length c2))) := Lib.hid fun W hk => by
    have h1 := ((RowAt.made w #[.int .i64 vars, .slice a n c, .int .i64 top] 24).kept ((Kept.refl _).alloc (.cells #[.bool l.neg, .slice a1 l.num.length c1, .slice a2 l.den.length c2] 28)))
    have h2 := RowAt.made (w.alloc (.cells #[.int .i64 vars, .slice a n c, .int .i64 top] 24)) #[.bool l.neg, .slice a1 l.num.length c1, .slice a2 l.den.length c2] 28
    rw [World.size_alloc] at h2
    rw [← hw2] at h1 h2
    have h1 := h1.kept hk
    have h2 := h2.kept hk
    exact ⟨⟨h1.cell (i := 0) (by simp), h1.cell (i := 1) (by simp), h1.cell (i := 2) (by simp)⟩, h2.cell (i := 0) (by simp), h2.cell (i := 1) (by simp), h2.cell (i := 2) (by simp)⟩
  have HK0 : Hid (Kept w w2) := Lib.hid (by rw [hw2]; exact ((Kept.refl w).alloc _).alloc _)
  have HW2 := Lib.hid hw2
  have HH : Hid (∀ W, Kept w W → Calls Tryz.prog 7 #[.agg #[.int .i64 vars, .slice a n c, .int .i64 top]] W fun e w' => (∃ b, e = .returned (.bool b)) ∧ Kept W w') := Lib.hid hh
  have HBR : Hid (∀ W, Kept w W → Calls Tryz.prog 8 #[.agg #[.int .i64 vars, .slice a n c, .int .i64 top]] W fun e w' => (∃ u, e = .returned u ∧ IsB u) ∧ Kept W w') := Lib.hid hbr
  have HC : Hid (∀ W, Kept w W → Calls Tryz.prog 18 #[.agg #[.int .i64 vars, .slice a n c, .int .i64 top]] W fun e w' => e = .returned (errV q) ∧ Kept W w') := Lib.hid hc
  have HA : Hid (∀ W, Calls Tryz.prog 6 #[] W fun e w' => e = .returned (.bool true) ∧ Kept W w') := Lib.hid fun W => wawake_ok W
  show Calls _ _ #[.agg #[.int .i64 vars, .slice a n c, .int .i64 top], _, _] _ _
  generalize hz1 : l.neg = z1 at *
  generalize hz2 : l.num.length = z2 at *
  generalize hz3 : l.den.length = z3 at *
  clear hv hh hbr hc hq ht hfo hp hl k1 k2 hpn hw2 hz1 hz2 hz3
  go_enter Tryz.func5, Tryz.ntmps5
  go_wp2_with fail
  rw [← HW2.out]
  refine (HA.out _).mono ?_
  rintro e w3 ⟨rfl, hk3⟩
  have K3 := Lib.hid hk3
  obtain ⟨⟨c0, c1', c2'⟩, l0, l1, l2⟩ := HBX.out _ K3.out
  clear hk3
  go_wp2_with fail
  refine (HH.out _ (HK0.out.trans K3.out)).mono ?_
  rintro e w4 ⟨⟨b, rfl⟩, hk4⟩
  have K4 := Lib.hid (K3.out.trans hk4)
  clear hk4 c0 c1' c2' l0 l1 l2
  obtain ⟨⟨c0, c1', c2'⟩, l0, l1, l2⟩ := HBX.out _ K4.out
  cases b with
  | true =>
    go_wp2_with (go_at_call 6; refine (HA.out _).mono ?_; rintro e w5 ⟨rfl, hk5⟩)
    go_ret
    exact ⟨rfl, (HK0.out.trans K4.out).trans hk5⟩
  | false =>
    go_wp2_with fail
    refine (HBR.out _ (HK0.out.trans K4.out)).mono ?_
    rintro e w5 ⟨⟨u5, rfl, hu5⟩, hk5⟩
    obtain ⟨b, rfl⟩ := hu5
    have K5 := Lib.hid (K4.out.trans hk5)
    clear hk5 c0 c1' c2' l0 l1 l2
    obtain ⟨⟨c0, c1', c2'⟩, l0, l1, l2⟩ := HBX.out _ K5.out
    cases b with
    | true =>
      go_wp2_with (go_at_call 6; refine (HA.out _).mono ?_; rintro e w6 ⟨rfl, hk6⟩)
      go_ret
      exact ⟨rfl, (HK0.out.trans K5.out).trans hk6⟩
    | false =>
      go_wp2_with fail
      refine (HLP.out _ (HK0.out.trans K5.out)).mono ?_
      rintro e w6 ⟨⟨u6, rfl, hu6⟩, hk6⟩
      obtain ⟨b, rfl, hb6⟩ := hu6
      have K6 := Lib.hid (K5.out.trans hk6)
      have HB6 := Lib.hid hb6
      clear hk6 hb6 c0 c1' c2' l0 l1 l2
      obtain ⟨⟨c0, c1', c2'⟩, l0, l1, l2⟩ := HBX.out _ K6.out
      cases b with
      | true =>
        go_wp2_with (go_at_call 6; refine (HA.out _).mono ?_; rintro e w7 ⟨rfl, hk7⟩)
        go_ret
        exact ⟨rfl, (HK0.out.trans K6.out).trans hk7⟩
      | false =>
        go_wp2_with fail
        refine (HL2.out _ (HK0.out.trans K6.out)).mono ?_
        rintro e w7 ⟨⟨u7, rfl, hu7⟩, hk7⟩
        obtain ⟨b, rfl, hb7⟩ := hu7
        have K7 := Lib.hid ((K6.out.alloc _).trans hk7)
        have HB7 := Lib.hid hb7
        clear hk7 hb7 c0 c1' c2' l0 l1 l2
        obtain ⟨⟨c0, c1', c2'⟩, l0, l1, l2⟩ := HBX.out _ K7.out
        cases b with
        | true =>
          go_wp2_with (go_at_call 6; refine (HA.out _).mono ?_; rintro e w8 ⟨rfl, hk8⟩)
          go_ret
          exact ⟨rfl, (HK0.out.trans K7.out).trans hk8⟩
        | false =>
          obtain ⟨h30, hs3⟩ := HB6.out (by first | rfl | trivial)
          obtain ⟨_, hl3⟩ := HB7.out (by first | rfl | trivial)
          have hl3 : l.Short 3 := hl3 l (by simp)
          have HPA : Hid (RatsAt w (.slice pa pn pc) ps) := Lib.hid (HP.out.small fun r hr => ⟨Nat.le_trans (hs3 r hr).1 (by omega), Nat.le_trans (hs3 r hr).2 (by omega)⟩)
          have HLA := Lib.hid (HLR.out.small ⟨Nat.le_trans hl3.1 (by omega), Nat.le_trans hl3.2 (by omega)⟩)
          have HS3 := Lib.hid hs3
          have HL3 := Lib.hid hl3
          have H30 := Lib.hid h30
          clear hs3 hl3 h30
          by_cases hq0 : q = 0
          · have hck := HQ.out.symm.trans hq0
            subst hq0
            obtain ⟨V, T, hok⟩ := ok_of _ hck
            have e1 : vars = (V : Int) := hok.vars
            have e2 : top = (T : Int) := hok.top
            subst e1 e2
            have HCK : Hid (∀ W, Kept w W → Calls Tryz.prog 18 #[.agg #[.int .i64 V, .slice a n c, .int .i64 T]] W fun e w' => e = .returned .nilIface ∧ Kept W w') := Lib.hid HC.out
            obtain ⟨qb, R, F, hby, hcs⟩ := byPR_cases V T ⟨V, nodes, T⟩ ps l
            obtain ⟨qc, L, hcc, hcut⟩ := tcut_num (.slice a n c) ⟨V, nodes, T⟩ V T hok hck ⟨a, n, c, rfl⟩
            have HBY0 : Hid (∀ W, Kept w W → Calls Tryz.prog 10 #[.agg #[.int .i64 V, .slice a n c, .int .i64 T], .slice pa pn pc, .agg #[.bool z1, .slice a1 z2 c1, .slice a2 z3 c2]] W fun e w' => (∃ kv fv, e = .returned (.tuple #[.agg #[kv, fv], errV qb]) ∧ IntsAt w' kv (ofN R) ∧ IntsAt w' fv (ofN F)) ∧ Kept W w') := Lib.hid fun W hk => by
              have h := tbyP_any (.slice a n c) _ _ ⟨V, nodes, T⟩ V T ps l W (HV.out.kept hk) hok hck (HPA.out.kept hk) HS3.out H30.out (HLA.out.kept hk) HL3.out
              rw [hby] at h
              exact h
            have HT0 : Hid (∀ W, Kept w W → Calls Tryz.prog 19 #[.agg #[.int .i64 V, .slice a n c, .int .i64 T]] W fun e w' => (∃ v', e = .returned (.tuple #[v', errV qc]) ∧ OwnSets w' 0 v' L) ∧ Kept W w') := Lib.hid fun W hk => hcut W (HV.out.kept hk)
            have HOK := Lib.hid hok
            clear hby hcut hck
            go_wp2_with fail
            refine (HCK.out _ (HK0.out.trans K7.out)).mono ?_
            rintro e w8 ⟨rfl, hk8⟩
            have K8 := Lib.hid (K7.out.trans hk8)
            clear hk8 c0 c1' c2' l0 l1 l2
            obtain ⟨⟨c0, c1', c2'⟩, l0, l1, l2⟩ := HBX.out _ K8.out
            obtain ⟨E2, hE2⟩ : ∃ E, E = errV qc := ⟨_, rfl⟩
            have HT : Hid (∀ W, Kept w W → Calls Tryz.prog 19 #[.agg #[.int .i64 V, .slice a n c, .int .i64 T]] W fun e w' => (∃ v', e = .returned (.tuple #[v', E2]) ∧ OwnSets w' 0 v' L) ∧ Kept W w') := Lib.hid (by rw [hE2]; exact HT0.out)
            have HE2 := Lib.hid hE2
            clear hE2
            rcases hcs with ⟨rfl, hsy, hlen, hbad, htt⟩ | ⟨hqb0, rfl, rfl, hcs⟩
            · have HBY : Hid (∀ W, Kept w W → Calls Tryz.prog 10 #[.agg #[.int .i64 V, .slice a n c, .int .i64 T], .slice pa pn pc, .agg #[.bool z1, .slice a1 z2 c1, .slice a2 z3 c2]] W fun e w' => (∃ kv fv, e = .returned (.tuple #[.agg #[kv, fv], .nilIface]) ∧ IntsAt w' kv (ofN R) ∧ IntsAt w' fv (ofN F)) ∧ Kept W w') := Lib.hid HBY0.out
              rcases hcc with ⟨rfl, hsy2, p, hp, rfl⟩ | ⟨hqc, rfl⟩
              · have hT := topT_says HOK.out hsy (overQ ps (ratOf l)) htt
                have hRR := hT.kept_cuts HOK.out hsy (overQ_mono HPA.out.ok hbad (ratOf l)) hp
                simp only at hRR
                obtain ⟨hg, hmk, _⟩ := topK_says HOK.out hsy hp
                have hV24 := HOK.out.v24
                have HMK := Lib.hid hmk
                have HLL := Lib.hid hg.2
                have HRR := Lib.hid hRR
                have HOU := Lib.hid hT.outs
                have HMF := Lib.hid hT.mkF
                have hE2 : E2 = .nilIface := HE2.out
                subst hE2
                have HPD := Lib.hid (fun (s : Nat) W (hs : s < 16777216) (h : Kept w W) => product_law s (.slice pa pn pc) ps W hs (HPA.out.kept h) HS3.out (by omega))
                have HPS := Lib.hid (fun s => prod_short (s := s) HS3.out HPA.out.ok ps.length (Nat.le_refl _))
                have HCM : Hid (∀ (s : Nat) W u, Kept w W → RatAt W u (canR (prodQ s ps ps.length)) → Calls Tryz.prog 24 #[u, .agg #[.bool z1, .slice a1 z2 c1, .slice a2 z3 c2]] W fun e' w' => e' = .returned (.int .i64 (sgnR (prodQ s ps ps.length - ratOf l))) ∧ Kept W w') := Lib.hid fun s W u hk hu => by
                  have h := rcmp_any u _ _ l W hu (HLA.out.kept hk) ⟨Nat.le_trans (HPS.out s).1 (by have := H30.out; omega), Nat.le_trans (HPS.out s).2 (by have := H30.out; omega)⟩ ⟨Nat.le_trans HL3.out.1 (by omega), Nat.le_trans HL3.out.2 (by omega)⟩
                  rw [ratOf_can] at h
                  exact h
                obtain ⟨m, hm⟩ : ∃ m, m = p.1.length := ⟨_, rfl⟩
                have HM := Lib.hid hm
                have hm9 : m ≤ 1024 := by rw [hm]; exact hg.2
                obtain ⟨mf, hmf⟩ : ∃ mf, mf = F.length := ⟨_, rfl⟩
                have HFM := Lib.hid hmf
                have hmf9 : mf ≤ 1024 := by rw [hmf]; exact hT.goodF.2
                clear hsy hlen hbad htt hsy2 hp hT hRR hg hmk hm hmf hok
                go_wp2_with fail
                refine (HBY.out _ (HK0.out.trans K8.out)).mono ?_
                rintro e w9 ⟨⟨kv, fv, rfl, hkv, hfv⟩, hk9⟩
                obtain ⟨ka, kn, kc, rfl⟩ := hkv.shape
                obtain ⟨fa, fc, hfs, _⟩ := id hfv
                rw [show (ofN F).length = mf by rw [HFM.out]; simp [ofN]] at hfs
                subst hfs
                have K9 := Lib.hid ((K8.out.trans hk9).alloc (.cells #[.slice ka kn kc, .slice fa mf fc] 34))
                have HKV := Lib.hid (hkv.kept ((Kept.refl _).alloc (.cells #[.slice ka kn kc, .slice fa mf fc] 34)))
                have HFV := Lib.hid (hfv.kept ((Kept.refl _).alloc (.cells #[.slice ka kn kc, .slice fa mf fc] 34)))
                have hxr := RowAt.made w9 #[.slice ka kn kc, .slice fa mf fc] 34
                have HXR := Lib.hid hxr
                clear c0 c1' c2' l0 l1 l2 hkv hfv hk9 hxr
                obtain ⟨⟨c0, c1', c2'⟩, l0, l1, l2⟩ := HBX.out _ K9.out
                go_wp2_with fail
                refine (HT.out _ (HK0.out.trans K9.out)).mono ?_
                rintro e w10 ⟨⟨v10, rfl, hv10⟩, hk10⟩
                obtain ⟨a10, c10, hv10s, _⟩ := id hv10.sets.1
                rw [show (ofN p.1).length = m by rw [HM.out]; simp [ofN]] at hv10s
                subst hv10s
                have HL10 := Lib.hid hv10.sets.1
                have K10 := Lib.hid (K9.out.trans hk10)
                have HKV10 := Lib.hid (HKV.out.kept hk10)
                have HFV10 := Lib.hid (HFV.out.kept hk10)
                have HXR10 := Lib.hid (HXR.out.kept hk10)
                clear c0 c1' c2' l0 l1 l2 hv10 hk10
                go_wp2_with fail
                go_loopg [11, 91] m (fun kx s11 s91 wr => ∃ (k : Nat), k ≤ m ∧ s91 = .int .i64 k ∧ m - k ≤ kx ∧ Hid (OwnInts wr w10.heap.size s11 (ofN ((p.1.take k).filter fun r => !overQ ps (ratOf l) r))) ∧ Hid (Kept w10 wr))
                case atStart => exact ⟨0, Nat.zero_le _, rfl, by omega, Lib.hid (by simpa [ofN] using OwnInts.nil _ _), Lib.hid (Kept.refl _)⟩
                case round =>
                  obtain ⟨k, hk, rfl, hkx, HO, HKr⟩ := hrel
                  obtain ⟨ao, no, co, hvo⟩ := HO.out.ints.shape
                  subst hvo
                  have HKw := Lib.hid (K10.out.trans HKr.out)
                  obtain ⟨⟨c0, c1', c2'⟩, l0, l1, l2⟩ := HBX.out _ HKw.out
                  by_cases hlt : k < m
                  · have hkl : k < p.1.length := by have := HM.out; omega
                    obtain ⟨a', c', he1, _, _, he2⟩ := (HL10.out.kept HKr.out)
                    injection he1 with he3 he4 he5
                    subst he3
                    obtain ⟨b, o, rfl, hce⟩ := he2 k (by simpa [ofN] using hkl)
                    obtain ⟨s, hs⟩ : ∃ s, s = p.1[k] := ⟨_, rfl⟩
                    have e1 : (ofN p.1)[k]'(by simpa [ofN] using hkl) = (s : Int) := by rw [hs]; simp [ofN]
                    rw [e1] at hce
                    have hs24 : s < 16777216 := HMK.out s (by rw [hs]; exact List.getElem_mem _)
                    have HP1 := Lib.hid (fun W (h : Kept w W) => HPD.out s W hs24 h)
                    have HC1 := Lib.hid (HCM.out s)
                    have HNX : Hid ((p.1.take (k + 1)).filter (fun r => !overQ ps (ratOf l) r) = (p.1.take k).filter (fun r => !overQ ps (ratOf l) r) ++ (if overQ ps (ratOf l) s = true then [] else [s])) := Lib.hid (by
                      rw [List.take_succ_eq_append_getElem hkl, List.filter_append, ← hs]
                      congr 1
                      cases h : overQ ps (ratOf l) s <;> simp [h])
                    have hfl : ((p.1.take k).filter (fun r => !overQ ps (ratOf l) r)).length ≤ 1024 := by
                      refine Nat.le_trans (List.length_filter_le ..) ?_
                      rw [List.length_take]; omega
                    have HFL := Lib.hid hfl
                    have hov : overQ ps (ratOf l) s = decide (sgnR (prodQ s ps ps.length - ratOf l) < 0) := rfl
                    obtain ⟨S, hS⟩ : ∃ S, S = sgnR (prodQ s ps ps.length - ratOf l) := ⟨_, rfl⟩
                    rw [← hS] at HC1 hov
                    rw [hov] at HNX
                    generalize canR (prodQ s ps ps.length) = RC at *
                    obtain ⟨W1, hW1⟩ : ∃ W1, W1 = (p.1.take k).filter (fun r => !overQ ps (ratOf l) r) := ⟨_, rfl⟩
                    rw [← hW1] at HO HFL HNX
                    have hki : (k : Int) < (m : Int) := by omega
                    clear he2 he4 he5 e1 hs hs24 hov hS hfl hW1
                    by_cases hS0 : S < 0
                    · have dS : decide (0 ≤ S) = false := decide_eq_false (by omega)
                      have gS : ¬ 0 ≤ S := by omega
                      rw [decide_eq_true hS0, if_pos rfl, List.append_nil] at HNX
                      go_wp2_with fail
                      go_region_with (first
                        | (go_at_call 25; (with_reducible refine (HP1.out _ ((HK0.out.trans HKw.out).drew)).mono ?_); rintro e w11 ⟨⟨v11, rfl, hv11⟩, hk11⟩; have hkd := (Kept.refl _).drew.trans hk11; have i0 := hkd.cell l0; have i1 := hkd.cell l1; have i2 := hkd.cell l2; have HV11 := Lib.hid hv11; have HK11 := Lib.hid (HKr.out.trans hkd); have HO11 := Lib.hid (HO.out.kept hkd); clear hk11 hkd hv11)
                        | (go_at_call 24; (with_reducible refine (HC1.out _ _ (((HK0.out.trans K10.out).trans HK11.out)) HV11.out).mono ?_); rintro e w12 ⟨rfl, hk12⟩; have HK12 := Lib.hid (HK11.out.trans hk12); have HO12 := Lib.hid (HO11.out.kept hk12); clear hk12))
                      all_goals
                        go_wp2_with fail
                        go_roundg (m - (k + 1))
                        case measure => omega
                        case rel => exact ⟨k + 1, by omega, by go_num, Nat.le_refl _, Lib.hid (by rw [HNX.out]; exact HO12.out), HK12⟩
                    · have dS : decide (0 ≤ S) = true := decide_eq_true (by omega)
                      have gS : 0 ≤ S := by omega
                      rw [decide_eq_false hS0, if_neg (by simp)] at HNX
                      go_wp2_with fail
                      go_region_with (first
                        | (go_at_call 25; (with_reducible refine (HP1.out _ ((HK0.out.trans HKw.out).drew)).mono ?_); rintro e w11 ⟨⟨v11, rfl, hv11⟩, hk11⟩; have hkd := (Kept.refl _).drew.trans hk11; have i0 := hkd.cell l0; have i1 := hkd.cell l1; have i2 := hkd.cell l2; have HV11 := Lib.hid hv11; have HK11 := Lib.hid (HKr.out.trans hkd); have HO11 := Lib.hid (HO.out.kept hkd); clear hk11 hkd hv11)
                        | (go_at_call 24; (with_reducible refine (HC1.out _ _ (((HK0.out.trans K10.out).trans HK11.out)) HV11.out).mono ?_); rintro e w12 ⟨rfl, hk12⟩; have HK12 := Lib.hid (HK11.out.trans hk12); have HO12 := Lib.hid (HO11.out.kept hk12); clear hk12))
                      all_goals
                        go_wp2_with (at_builtin; refine app_int rfl _ _ rfl w10.heap.size _ (ofN W1) rfl (HO12.out.kept ((Kept.refl _).alloc _)) _ (s : Int) rfl (by simp) (by have := HFL.out; simp [ofN]; omega) (by have := HK12.out.size; simp; omega) ?_; intro v13 w13 h13 _ hb13; have O13 := Lib.hid h13; have HB13 := Lib.hid hb13; clear h13 hb13)
                        go_roundg (m - (k + 1))
                        case measure => omega
                        case rel => exact ⟨k + 1, by omega, by go_num, Nat.le_refl _, Lib.hid (by rw [HNX.out]; simpa [ofN] using O13.out), Lib.hid ((HK12.out.alloc _).app HB13.out)⟩
                  · have hki : ¬ (k : Int) < (m : Int) := by omega
                    have HWN : Hid (IntsAt wr (.slice ao no co) (ofN R)) := Lib.hid (by
                      have h := HO.out.ints
                      rw [List.take_of_length_le (by have := HM.out; omega), ← HRR.out] at h
                      exact h)
                    have HKV11 := Lib.hid (HKV10.out.kept HKr.out)
                    have HFV11 := Lib.hid (HFV10.out.kept HKr.out)
                    have hx11 := HXR10.out.kept HKr.out
                    have HX11 := Lib.hid hx11
                    have x0 := hx11.cell (i := 0) (by simp)
                    have x1 := hx11.cell (i := 1) (by simp)
                    simp only [List.getElem_cons_succ, List.getElem_cons_zero] at x0 x1
                    obtain ⟨w11, rfl⟩ : ∃ w11 : World, w11 = wr := ⟨_, rfl⟩
                    clear hx11
                    go_wp2_with fail
                    go_loopg [109] mf (fun kx s109 wq => ∃ (j : Nat), j ≤ mf ∧ s109 = .int .i64 j ∧ mf - j ≤ kx ∧ Hid (Kept w11 wq))
                    case atStart => exact ⟨0, Nat.zero_le _, rfl, by omega, Lib.hid (Kept.refl _)⟩
                    case round =>
                      obtain ⟨j, hj, rfl, hjx, HKq⟩ := hrel
                      have HKw2 := Lib.hid (HKw.out.trans HKq.out)
                      clear c0 c1' c2' l0 l1 l2
                      obtain ⟨⟨c0, c1', c2'⟩, l0, l1, l2⟩ := HBX.out _ HKw2.out
                      have y0 := HKq.out.cell x0
                      by_cases hjm : j < mf
                      · have hjl : j < F.length := by have := HFM.out; omega
                        obtain ⟨a', c', he1, _, _, he2⟩ := (HFV11.out.kept HKq.out)
                        injection he1 with he3 he4 he5
                        subst he3
                        obtain ⟨b, o, rfl, hce⟩ := he2 j (by simpa [ofN] using hjl)
                        obtain ⟨s, hs⟩ : ∃ s, s = F[j] := ⟨_, rfl⟩
                        have e1 : (ofN F)[j]'(by simpa [ofN] using hjl) = (s : Int) := by rw [hs]; simp [ofN]
                        rw [e1] at hce
                        have hs24 : s < 16777216 := HMF.out s (by rw [hs]; exact List.getElem_mem _)
                        have HP1 := Lib.hid (fun W (h : Kept w W) => HPD.out s W hs24 h)
                        have HC1 := Lib.hid (HCM.out s)
                        have hov : overQ ps (ratOf l) s = true := HOU.out s (by rw [hs]; exact List.getElem_mem _)
                        have hov2 : sgnR (prodQ s ps ps.length - ratOf l) < 0 := of_decide_eq_true hov
                        generalize sgnR (prodQ s ps ps.length - ratOf l) = S at *
                        generalize canR (prodQ s ps ps.length) = RC at *
                        have hji : (j : Int) < (mf : Int) := by omega
                        have dS : decide (0 ≤ S) = false := decide_eq_false (by omega)
                        have gS : ¬ 0 ≤ S := by omega
                        clear he2 he4 he5 e1 hs hs24 hov hov2
                        go_wp2_with fail
                        go_region_with (first
                          | (go_at_call 25; (with_reducible refine (HP1.out _ ((HK0.out.trans HKw2.out).drew)).mono ?_); rintro e w12 ⟨⟨v12, rfl, hv12⟩, hk12⟩; have hkd := (Kept.refl _).drew.trans hk12; have i0 := hkd.cell l0; have i1 := hkd.cell l1; have i2 := hkd.cell l2; have HV12 := Lib.hid hv12; have HK12 := Lib.hid (HKq.out.trans hkd); have HK012 := Lib.hid ((HK0.out.trans HKw2.out).trans hkd); clear hk12 hkd hv12)
                          | (go_at_call 24; (with_reducible refine (HC1.out _ _ HK012.out HV12.out).mono ?_); rintro e w13 ⟨rfl, hk13⟩; have HK13 := Lib.hid (HK12.out.trans hk13); clear hk13))
                        all_goals
                          go_wp2_with fail
                          go_roundg (mf - (j + 1))
                          case measure => omega
                          case rel => exact ⟨j + 1, by omega, by go_num, Nat.le_refl _, HK13⟩
                      · have hji : ¬ (j : Int) < (mf : Int) := by omega
                        have HIN := Lib.hid (ints_true _ _ _ (HKV11.out.kept HKq.out) (HWN.out.kept HKq.out))
                        clear x0 x1
                        go_wp2_with (go_at_call 26; (with_reducible refine HIN.out.mono ?_); rintro e w14 ⟨rfl, hk14⟩)
                        go_ret
                        exact ⟨rfl, (HK0.out.trans HKw2.out).trans hk14⟩
              · have hqc0 : qc ≠ 0 := by omega
                have hE2 : E2 = .iface 56 (.int .i64 qc) := by rw [HE2.out]; exact errV_pos hqc0
                subst hE2
                clear hsy hlen hbad htt hqc hqc0 hok
                go_wp2_with fail
                refine (HBY.out _ (HK0.out.trans K8.out)).mono ?_
                rintro e w9 ⟨⟨kv, fv, rfl, hkv, hfv⟩, hk9⟩
                obtain ⟨ka, kn, kc, rfl⟩ := hkv.shape
                obtain ⟨fa, fn, fc, rfl⟩ := hfv.shape
                have K9 := Lib.hid ((K8.out.trans hk9).alloc (.cells #[.slice ka kn kc, .slice fa fn fc] 34))
                clear c0 c1' c2' l0 l1 l2 hkv hfv hk9
                obtain ⟨⟨c0, c1', c2'⟩, l0, l1, l2⟩ := HBX.out _ K9.out
                go_wp2_with fail
                refine (HT.out _ (HK0.out.trans K9.out)).mono ?_
                rintro e w10 ⟨⟨v10, rfl, hv10⟩, hk10⟩
                have K10 := Lib.hid (K9.out.trans hk10)
                clear c0 c1' c2' l0 l1 l2 hv10 hk10
                obtain ⟨⟨c0, c1', c2'⟩, l0, l1, l2⟩ := HBX.out _ K10.out
                go_wp2
                go_ret
                exact ⟨rfl, HK0.out.trans K10.out⟩
            · have HBY : Hid (∀ W, Kept w W → Calls Tryz.prog 10 #[.agg #[.int .i64 V, .slice a n c, .int .i64 T], .slice pa pn pc, .agg #[.bool z1, .slice a1 z2 c1, .slice a2 z3 c2]] W fun e w' => (∃ kv fv, e = .returned (.tuple #[.agg #[kv, fv], .iface 56 (.int .i64 qb)]) ∧ IntsAt w' kv (ofN []) ∧ IntsAt w' fv (ofN [])) ∧ Kept W w') := Lib.hid (by rw [← errV_pos hqb0]; exact HBY0.out)
              have hplen : pn = ps.length := HPN.out
              clear hcc hok
              rcases hcs with h47 | ⟨h11, hlen⟩ | ⟨h3q, hbp⟩
              · clear hplen
                have HRE : Hid (∀ W, Calls Tryz.prog 20 #[.iface 56 (.int .i64 qb)] W fun e w' => e = .returned (.bool true) ∧ W = w') := Lib.hid fun W => by
                  have h := refused_any qb h47 W
                  rw [errV_pos hqb0] at h
                  exact h
                clear hqb0 h47
                go_wp2_with fail
                refine (HBY.out _ (HK0.out.trans K8.out)).mono ?_
                rintro e w9 ⟨⟨kv, fv, rfl, hkv, hfv⟩, hk9⟩
                obtain ⟨ka, kn, kc, rfl⟩ := hkv.shape
                obtain ⟨fa, fn, fc, rfl⟩ := hfv.shape
                have K9 := Lib.hid ((K8.out.trans hk9).alloc (.cells #[.slice ka kn kc, .slice fa fn fc] 34))
                clear c0 c1' c2' l0 l1 l2 hkv hfv hk9
                obtain ⟨⟨c0, c1', c2'⟩, l0, l1, l2⟩ := HBX.out _ K9.out
                go_wp2_with fail
                refine (HT.out _ (HK0.out.trans K9.out)).mono ?_
                rintro e w10 ⟨⟨v10, rfl, hv10⟩, hk10⟩
                have K10 := Lib.hid (K9.out.trans hk10)
                clear c0 c1' c2' l0 l1 l2 hv10 hk10
                obtain ⟨⟨c0, c1', c2'⟩, l0, l1, l2⟩ := HBX.out _ K10.out
                go_wp2_with (go_at_call 20; (with_reducible refine (HRE.out _).mono ?_); rintro e w11 ⟨rfl, rfl⟩)
                go_ret
                exact ⟨rfl, HK0.out.trans K10.out⟩
              · have hlen : pn ≠ V := by omega
                clear hplen
                have HRE : Hid (∀ W, Calls Tryz.prog 20 #[.iface 56 (.int .i64 qb)] W fun e w' => e = .returned (.bool false) ∧ W = w') := Lib.hid fun W => by
                  have h := refused_no qb (by omega) W
                  rw [errV_pos hqb0] at h
                  exact h
                have HI11 : Hid (∀ W, Calls Tryz.prog 21 #[.iface 56 (.int .i64 qb), .int .i64 11] W fun e w' => e = .returned (.bool true) ∧ W = w') := Lib.hid fun W => by
                  have h := is_all qb 11 W (by omega)
                  rw [errV_pos hqb0, show (qb == 11) = true by simp; omega] at h
                  exact h
                have hne : ((pn : Int) == (V : Int)) = false := by simp; omega
                have hne2 : ((pn : Int) != (V : Int)) = true := by simp [bne]; omega
                have hne3 : ¬ (pn : Int) = (V : Int) := by omega
                clear hqb0 h11 hlen
                go_wp2_with fail
                refine (HBY.out _ (HK0.out.trans K8.out)).mono ?_
                rintro e w9 ⟨⟨kv, fv, rfl, hkv, hfv⟩, hk9⟩
                obtain ⟨ka, kn, kc, rfl⟩ := hkv.shape
                obtain ⟨fa, fn, fc, rfl⟩ := hfv.shape
                have K9 := Lib.hid ((K8.out.trans hk9).alloc (.cells #[.slice ka kn kc, .slice fa fn fc] 34))
                clear c0 c1' c2' l0 l1 l2 hkv hfv hk9
                obtain ⟨⟨c0, c1', c2'⟩, l0, l1, l2⟩ := HBX.out _ K9.out
                go_wp2_with fail
                refine (HT.out _ (HK0.out.trans K9.out)).mono ?_
                rintro e w10 ⟨⟨v10, rfl, hv10⟩, hk10⟩
                have K10 := Lib.hid (K9.out.trans hk10)
                clear c0 c1' c2' l0 l1 l2 hv10 hk10
                obtain ⟨⟨c0, c1', c2'⟩, l0, l1, l2⟩ := HBX.out _ K10.out
                go_wp2_with (first | (go_at_call 20; (with_reducible refine (HRE.out _).mono ?_); rintro e w11 ⟨rfl, rfl⟩) | (go_at_call 21; (with_reducible refine (HI11.out _).mono ?_); rintro e w12 ⟨rfl, rfl⟩))
                go_ret
                exact ⟨rfl, HK0.out.trans K10.out⟩
              · clear hplen
                by_cases hbad : badR ps = true
                · clear hbp
                  have HRE : Hid (∀ W, Calls Tryz.prog 20 #[.iface 56 (.int .i64 qb)] W fun e w' => e = .returned (.bool false) ∧ W = w') := Lib.hid fun W => by
                    have h := refused_no qb (by omega) W
                    rw [errV_pos hqb0] at h
                    exact h
                  have HI11 : Hid (∀ W, Calls Tryz.prog 21 #[.iface 56 (.int .i64 qb), .int .i64 11] W fun e w' => e = .returned (.bool false) ∧ W = w') := Lib.hid fun W => by
                    have h := is_all qb 11 W (by omega)
                    rw [errV_pos hqb0, show (qb == 11) = false by simp; omega] at h
                    exact h
                  have HI3 : Hid (∀ W, Calls Tryz.prog 21 #[.iface 56 (.int .i64 qb), .int .i64 3] W fun e w' => e = .returned (.bool true) ∧ W = w') := Lib.hid fun W => by
                    have h := is_all qb 3 W (by omega)
                    rw [errV_pos hqb0, show (qb == 3) = true by simp; omega] at h
                    exact h
                  have HBA : Hid (∀ W, Kept w W → Calls Tryz.prog 22 #[.slice pa pn pc] W fun e w' => e = .returned (.bool true) ∧ Kept W w') := Lib.hid fun W hk => by
                    have h := refbad_any (.slice pa pn pc) ps W (HPA.out.kept hk) (fun r hr => ⟨Nat.le_trans (HS3.out r hr).1 (by omega), Nat.le_trans (HS3.out r hr).2 (by omega)⟩)
                    rw [hbad] at h
                    exact h
                  clear hqb0 h3q
                  go_wp2_with fail
                  refine (HBY.out _ (HK0.out.trans K8.out)).mono ?_
                  rintro e w9 ⟨⟨kv, fv, rfl, hkv, hfv⟩, hk9⟩
                  obtain ⟨ka, kn, kc, rfl⟩ := hkv.shape
                  obtain ⟨fa, fn, fc, rfl⟩ := hfv.shape
                  have K9 := Lib.hid ((K8.out.trans hk9).alloc (.cells #[.slice ka kn kc, .slice fa fn fc] 34))
                  clear c0 c1' c2' l0 l1 l2 hkv hfv hk9
                  obtain ⟨⟨c0, c1', c2'⟩, l0, l1, l2⟩ := HBX.out _ K9.out
                  go_wp2_with fail
                  refine (HT.out _ (HK0.out.trans K9.out)).mono ?_
                  rintro e w10 ⟨⟨v10, rfl, hv10⟩, hk10⟩
                  have K10 := Lib.hid (K9.out.trans hk10)
                  clear c0 c1' c2' l0 l1 l2 hv10 hk10
                  obtain ⟨⟨c0, c1', c2'⟩, l0, l1, l2⟩ := HBX.out _ K10.out
                  go_wp2_with (first | (go_at_call 20; (with_reducible refine (HRE.out _).mono ?_); rintro e w11 ⟨rfl, rfl⟩) | (go_at_call 21; (with_reducible refine (HI11.out _).mono ?_); rintro e w12 ⟨rfl, rfl⟩) | (go_at_call 21; (with_reducible refine (HI3.out _).mono ?_); rintro e w13 ⟨rfl, rfl⟩) | (go_at_call 22; (with_reducible refine (HBA.out _ (HK0.out.trans K10.out)).mono ?_); rintro e w14 ⟨rfl, hk14⟩; have m0 := hk14.cell l0; have m1 := hk14.cell l1; have m2 := hk14.cell l2))
                  go_ret
                  exact ⟨rfl, (HK0.out.trans K10.out).trans hk14⟩
                · have hpr : probR l = false := hbp.resolve_left hbad
                  have hbad : badR ps = false := by simpa using hbad
                  clear hbp
                  have HRE : Hid (∀ W, Calls Tryz.prog 20 #[.iface 56 (.int .i64 qb)] W fun e w' => e = .returned (.bool false) ∧ W = w') := Lib.hid fun W => by
                    have h := refused_no qb (by omega) W
                    rw [errV_pos hqb0] at h
                    exact h
                  have HI11 : Hid (∀ W, Calls Tryz.prog 21 #[.iface 56 (.int .i64 qb), .int .i64 11] W fun e w' => e = .returned (.bool false) ∧ W = w') := Lib.hid fun W => by
                    have h := is_all qb 11 W (by omega)
                    rw [errV_pos hqb0, show (qb == 11) = false by simp; omega] at h
                    exact h
                  have HI3 : Hid (∀ W, Calls Tryz.prog 21 #[.iface 56 (.int .i64 qb), .int .i64 3] W fun e w' => e = .returned (.bool true) ∧ W = w') := Lib.hid fun W => by
                    have h := is_all qb 3 W (by omega)
                    rw [errV_pos hqb0, show (qb == 3) = true by simp; omega] at h
                    exact h
                  have HBA : Hid (∀ W, Kept w W → Calls Tryz.prog 22 #[.slice pa pn pc] W fun e w' => e = .returned (.bool false) ∧ Kept W w') := Lib.hid fun W hk => by
                    have h := refbad_any (.slice pa pn pc) ps W (HPA.out.kept hk) (fun r hr => ⟨Nat.le_trans (HS3.out r hr).1 (by omega), Nat.le_trans (HS3.out r hr).2 (by omega)⟩)
                    rw [hbad] at h
                    exact h
                  have HPR : Hid (∀ W, Kept w W → Calls Tryz.prog 23 #[.agg #[.bool z1, .slice a1 z2 c1, .slice a2 z3 c2]] W fun e w' => e = .returned (.bool false) ∧ Kept W w') := Lib.hid fun W hk => by
                    have h := refprob_any _ l W (HLA.out.kept hk) ⟨Nat.le_trans HL3.out.1 (by omega), Nat.le_trans HL3.out.2 (by omega)⟩
                    rw [hpr] at h
                    exact h
                  clear hqb0 h3q
                  go_wp2_with fail
                  refine (HBY.out _ (HK0.out.trans K8.out)).mono ?_
                  rintro e w9 ⟨⟨kv, fv, rfl, hkv, hfv⟩, hk9⟩
                  obtain ⟨ka, kn, kc, rfl⟩ := hkv.shape
                  obtain ⟨fa, fn, fc, rfl⟩ := hfv.shape
                  have K9 := Lib.hid ((K8.out.trans hk9).alloc (.cells #[.slice ka kn kc, .slice fa fn fc] 34))
                  clear c0 c1' c2' l0 l1 l2 hkv hfv hk9
                  obtain ⟨⟨c0, c1', c2'⟩, l0, l1, l2⟩ := HBX.out _ K9.out
                  go_wp2_with fail
                  refine (HT.out _ (HK0.out.trans K9.out)).mono ?_
                  rintro e w10 ⟨⟨v10, rfl, hv10⟩, hk10⟩
                  have K10 := Lib.hid (K9.out.trans hk10)
                  clear c0 c1' c2' l0 l1 l2 hv10 hk10
                  obtain ⟨⟨c0, c1', c2'⟩, l0, l1, l2⟩ := HBX.out _ K10.out
                  go_wp2_with (first | (go_at_call 20; (with_reducible refine (HRE.out _).mono ?_); rintro e w11 ⟨rfl, rfl⟩) | (go_at_call 21; (with_reducible refine (HI11.out _).mono ?_); rintro e w12 ⟨rfl, rfl⟩) | (go_at_call 21; (with_reducible refine (HI3.out _).mono ?_); rintro e w13 ⟨rfl, rfl⟩) | (go_at_call 22; (with_reducible refine (HBA.out _ (HK0.out.trans K10.out)).mono ?_); rintro e w14 ⟨rfl, hk14⟩; have m0 := hk14.cell l0; have m1 := hk14.cell l1; have m2 := hk14.cell l2) | (go_at_call 23; (with_reducible refine (HPR.out _ ((HK0.out.trans K10.out).trans hk14)).mono ?_); rintro e w15 ⟨rfl, hk15⟩))
                  go_ret
                  exact ⟨rfl, ((HK0.out.trans K10.out).trans hk14).trans hk15⟩
          · have HCE : Hid (∀ W, Kept w W → Calls Tryz.prog 18 #[.agg #[.int .i64 vars, .slice a n c, .int .i64 top]] W fun e w' => e = .returned (.iface 56 (.int .i64 q)) ∧ Kept W w') := Lib.hid (by rw [← errV_pos hq0]; exact HC.out)
            clear hq0
            go_wp2_with fail
            refine (HCE.out _ (HK0.out.trans K7.out)).mono ?_
            rintro e w8 ⟨rfl, hk8⟩
            have K8 := Lib.hid (K7.out.trans hk8)
            clear hk8 c0 c1' c2' l0 l1 l2
            go_wp2_with (go_at_call 6; refine (HA.out _).mono ?_; rintro e w9 ⟨rfl, hk9⟩)
            go_ret
            exact ⟨rfl, (HK0.out.trans K8.out).trans hk9⟩
end Go.Proofs.YteodabnjkikogaaGreat

/-
  The law TruncateProbs: for every formula, list of fractions and limit the call returns true, and its arguments read as before.
-/
namespace Go.Proofs.YteodabnjkikogaaGreat
open Go.RowKit Go.ChangeShapes Go.WideShapes Go.ChangeAt Go.Joins Go.Deep

set_option maxRecDepth 100000 in
/-- A law of a formula, a list of fractions and a fraction: from its walk to its row's step. -/
theorem liftP {s : ChangeSpec} (F : FuncId) (fn : Func) (hs1 : s.vars = []) (hs2 : ∀ (H : Type) (d1 d2 d3 : DataW H), s.fn H [d1, d2, d3] = { results := [.lit (.bool true)], args := [d1, d2, d3] })
    (hp : fn.params = #[24, 25, 28]) (hr : fn.resultTypes = #[4])
    (walk : ∀ (W : World) (u pv lv : Value) (f : Fm) (ps : List Rw) (l : Rw), NodesAt W u f.nodes → FmOk f → RatsRaw W pv ps → RatRaw W lv l → Calls Tryz.prog F #[fmV u f, pv, lv] W fun e w' => e = .returned (.bool true) ∧ Kept W w')
    {H : Type} {enc : TypeId × Value → H} (W : World) (base : Nat) (args : Array Value) (ds gs : List (DataW H)) (before : List MemPlace)
    (hval : ∀ (j : Nat) t v, fn.params[j]? = some t → args[j]? = some v → Value.okWide Tryz.prog W .any base t v)
    (hW : DataW.Whole enc Tryz.prog fn.params.toList s.vars false W args.toList ds gs before)
    (hsz : (DataW.weightsEach Tryz.prog (fn.params.toList ++ s.plain.varTypes Tryz.prog) (ds ++ gs)).all (· ≤ reachBytes) = true) :
    Calls Tryz.prog F args W fun e W' => ∃ v, e = .returned v ∧ s.post enc Tryz.prog fn false true false false W args v W' := by
  have hW' := hW
  obtain ⟨p, q, hA, hV, rfl, hfz, _⟩ := hW
  rw [hs1] at hV
  obtain ⟨rfl, rfl⟩ := trodVars_none hV
  rw [hp] at hA hval hsz
  obtain ⟨v0, v1, v2, d0, d1, d2, p0, p1, p2, rfl, rfl, rfl, h0, h1, h2⟩ := trodAll_three hA
  have h0k := h0
  have h1k := h1
  have h2k := h2
  obtain ⟨u, f, rfl, hn, hok⟩ := fm_open (hval 0 _ _ rfl rfl) (fun n hn => by
    have := List.all_eq_true.1 hsz n (DataW.weights_mem_each (j := 0) rfl rfl n hn)
    simpa using this) h0
  obtain ⟨fuel, h1f⟩ := h1
  obtain ⟨u3, ps, e3, hps⟩ := rats_open (fun n hn => by
    have := List.all_eq_true.1 hsz n (DataW.weights_mem_each (j := 1) rfl rfl n hn)
    simpa using this) h1f
  have e4 : u3 = v1 := by
    obtain ⟨a, c, rfl, _⟩ := hps
    obtain ⟨a2, n2, c2, h5⟩ := okWide_slice Tryz.underlying25 (hval 1 _ _ rfl rfl)
    subst h5
    simpa [Value.cells] using e3.symm
  subst e4
  obtain ⟨l, hl⟩ := rat_open (hval 2 _ _ rfl rfl) (fun n hn => by
    have := List.all_eq_true.1 hsz n (DataW.weights_mem_each (j := 2) rfl rfl n hn)
    simpa using this) h2
  have hlt : ∀ x ∈ p0 ++ p1 ++ p2, x.block < W.heap.size := fun x hx => hW'.lt x (by simpa using hx)
  refine (walk W u u3 v2 f ps l hn hok hps hl).mono fun e W' ⟨he, hk⟩ => ?_
  subst he
  refine ⟨_, rfl, [d0, d1, d2], [], ((p0 ++ p1) ++ p2) ++ [], [], p0 ++ (p1 ++ p2), [], hW', ?_, ?_, ?_, Below.frame hk _, fun h => by cases h⟩
  · rw [hr]
    simp only [List.append_nil, hs2]
    exact trodAll_mk1 (shut_bool Tryz.underlying4 _)
  · rw [hp]
    simp only [List.append_nil, hs2]
    exact trodAll_mk3 (Below.trod laidOutK (by kernel_rfl) (of_decide_eq_true (by kernel_rfl)) h0k hk (fun x hx => hlt x (by simp [hx]))) (Below.trod laidOutK (by kernel_rfl) (of_decide_eq_true (by kernel_rfl)) h1k hk (fun x hx => hlt x (by simp [hx]))) (Below.trod laidOutK (by kernel_rfl) (of_decide_eq_true (by kernel_rfl)) h2k hk (fun x hx => hlt x (by simp [hx])))
  · rw [hs1]
    simp only [List.append_nil, hs2]
    rfl
end Go.Proofs.YteodabnjkikogaaGreat

/-
  The law TruncateLikely: for every formula, list of fractions and limit the call returns true, and its arguments read as before.
-/
namespace Go.Proofs.YteodabnjkikogaaGreat
open Go.RowKit Go.ChangeShapes Go.WideShapes Go.ChangeAt Go.Joins Go.Deep

set_option maxRecDepth 100000 in
theorem truncateLikely_lifted (os : Os) (started : os.Started) (H : Type) (enc : TypeId × Value → H) :
    ReturnsInHanded {} Tryz.checked os 5 .any (Rows.truncateLikelySpec.pre6 enc Tryz.prog Tryz.f5 Rows.truncateLikelyRow.domain false) (Rows.truncateLikelySpec.post enc Tryz.prog Tryz.f5 false true false false) := by
  refine returnsInHanded_of_change_sized (C := Tryz.checked) ownK started (by kernel_rfl) Tryz.func5
    (ChangeSpec.witness6 (enc := enc) (C := Tryz.checked) false ⟨#[], #[.agg #[.int .i64 0, .slice none 0 0, .int .i64 0], .slice none 0 0, .agg #[.bool false, .slice none 0 0, .slice none 0 0]], []⟩ 8 (by kernel_rfl) (by kernel_rfl) (by kernel_rfl) (by kernel_rfl)) ?_
  intro W base args ds gs before hval hW _ hsz _
  exact liftP 5 Tryz.f5 rfl (fun _ _ _ _ => rfl) Tryz.params5 (by kernel_rfl) (fun W u pv lv f ps l h1 h2 h3 h4 => likely_true W u pv lv f ps l h1 h2 h3 h4) W base args ds gs before hval hW hsz
theorem truncateLikely_holds : Rows.TruncateLikelySaid :=
  OpenClaim.holds_of_wide 5 Tryz.f5 rfl rfl rfl rfl rfl rfl rfl ⟨rfl, rfl, rfl, rfl, rfl⟩ rfl rfl rfl rfl rfl (by kernel_rfl) Tryz.func5 (by kernel_rfl)
    (of_decide_eq_true (by kernel_rfl)) (by unfold Func.isWrapper; first | (rw [if_pos (by decide +kernel)]; kernel_rfl) | (rw [if_neg (by decide +kernel)]; exact ⟨rfl, rfl⟩))
    (fun os started H enc _ => truncateLikely_lifted os started H enc)
end Go.Proofs.YteodabnjkikogaaGreat
