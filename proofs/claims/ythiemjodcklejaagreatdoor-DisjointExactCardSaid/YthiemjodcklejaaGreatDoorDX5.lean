import Derived.WalkKit
import Derived.WalkSpells
import Derived.WalkLawsBesides
import Derived.Deep.QuietTactic
import Derived.BigQuiet
import Derived.Lib.Hide
import Derived.Shelf.Abstract
import Derived.Deep.RegionWith
import Derived.Laws.AppendOwnNone
import Derived.Lib.AppendZerosOnto
import Derived.Lib.SliceRun
import Derived.Lib.SlicesCompact
import Derived.Shelf.SlSortCmp.NoneTotal
import Derived.Maps.OwnOps
import Derived.Maps.OwnSet
import Derived.Maps.Views
import Derived.Deep.MidRow
import Derived.Deep.RegionHeld3
import Derived.Deep.AppendLies
import Derived.Deep.RegionLaw
import Derived.IntWalk
import Derived.StillTailTactics
import Derived.RegionTactic
import Derived.BigRegion
import Derived.ChangeAlike
import Derived.Sort.LotD2
import Derived.Sort.LotA
import Derived.Shelf.SlSortCmp.PdqK
import Derived.Deep.DeepCutAuto
import Derived.Lib.ItoaNum
import Derived.Deep.LoopGhost
import Derived.ProofKit
import Derived.OpenShut
import Derived.SizedLaws
import Derived.Lib.SmallJoins
import Derived.Deep.Slices
import Derived.Deep.Fields
import Derived.Deep.Strs
import Derived.Carry
import Derived.Test.YthiemjodcklejaaGreatDoorDX4
import Derived.Test.YthiemjodcklejaaGreatDoorDX2
import Derived.Test.YthiemjodcklejaaGreatDoorDX1
import Derived.Test.YthiemjodcklejaaGreatDoorShelf
/-
  Walks: topdown.run on well-formed formulas.
-/
namespace Go.Proofs.YthiemjodcklejaaGreatDoor
open Go.RowKit

theorem OwnRws.zero {w : World} {B : Nat} {v : Value} {L : List Nat} (h : OwnRws w B v L) : OwnRws w 0 v L := h.mono (Nat.zero_le _)
theorem OwnRws.grown {w w' : World} {B : Nat} {ob : Option Nat} {v : Value} {L : List Nat} (h : OwnRws w B v L) (hg : w.grownBy w' ob) (hne : ∀ g, v.ownBlock = some g → some g ≠ ob) : OwnRws w' B v L := by
  obtain ⟨⟨h1, h2⟩, h3⟩ := h
  refine ⟨⟨h1, h2.imp id ?_⟩, h3⟩
  rintro ⟨b, cap, cur, rfl, h5, h6, h7⟩
  refine ⟨b, cap, cur, rfl, h5, ?_, h7⟩
  have hlt : b < w.heap.size := by
    by_cases h : b < w.heap.size
    · exact h
    · rw [Array.getElem?_eq_none (Nat.le_of_not_lt h)] at h6; cases h6
  exact (hg.block b hlt (hne b (by simp [Value.ownBlock]))).trans h6
theorem OwnInts.own_lt {w : World} {B : Nat} {v : Value} {xs : List Int} (h : OwnInts w B v xs) {g : Nat} (hg : v.ownBlock = some g) : g < w.heap.size := (h.1.lt g hg).2
theorem own_one (w : World) (B c : Nat) (hB : B ≤ w.heap.size) (hc : RowLt 152 c) : OwnRws (w.alloc (.cells #[.int .i64 (evW c), .int .u64 (loW c), .int .u64 (hiW c)] 121)) B (.slice (some ⟨w.heap.size, 0, none⟩) 1 1) [c] :=
  ⟨⟨by simp [rcells], .inr ⟨w.heap.size, 1, _, rfl, hB, heap_alloc_new w _, Nat.le_refl _, by unfold maxLen; omega, by simp, by simp [rcells]⟩⟩, by simp, by simpa using hc⟩
theorem RwsAt.len {w : World} {v : Value} {L : List Nat} (h : RwsAt w v L) : L.length ≤ 10000 := by obtain ⟨_, _, _, _, h, _⟩ := h; exact h
theorem RwsAt.lt {w : World} {v : Value} {L : List Nat} (h : RwsAt w v L) : ∀ c ∈ L, RowLt 152 c := by obtain ⟨_, _, _, _, _, h, _⟩ := h; exact h
theorem RwsAt.get {w : World} {a : Option Addr} {n c : Nat} {L : List Nat} (h : RwsAt w (.slice a n c) L) (i : Nat) (hi : i < L.length) : ∃ b o, a = some ⟨b, o, none⟩ ∧ w.rangeAt b (o + i * 3) (rcells L[i]) := by
  obtain ⟨a', c', h1, _, _, _, h5⟩ := h
  injection h1 with h1 h2 h3
  subst h1
  exact h5 i hi
theorem runRes_none (w : World) : RunRes w (.returned (.tuple #[.slice none 0 0, .slice none 0 0, errV 4])) none := rfl
/-- The rows' cells while the list is filled. -/
theorem frm_kept {gl : Nat} {v v' : Value} {w0 w w' : World} (hk : Kept w0 w) (h : Frm gl v v' w w') (h1 : w0.heap.size ≤ gl) (h2 : v.ownBlock = none) : Kept w0 w' := by
  refine ⟨h.os.trans hk.os, h.tape.trans hk.tape, h.output.trans hk.output, Nat.le_trans hk.size h.size, fun k hk' => ?_⟩
  have := hk.size
  refine (h.block k (by omega) (by omega) (by rw [h2]; simp)).trans (hk.block k hk')
set_option maxRecDepth 100000 in
set_option maxHeartbeats 4000000 in
theorem run_ok (v : Value) (f : Fm) (V T : Nat) (w : World) (hv : NodesAt w v f.nodes) (hok : Ok f V T) (hck : chkF f = 0) (hs : synK V T f = true) :
    Calls Tryz.prog 98 #[.agg #[.int .i64 V, v, .int .i64 T]] w fun e w' => RunRes w' e (topK V T f.nodes) ∧ Kept w w' := by
  have HSY : Hid (∀ W, Kept w W → Calls Tryz.prog 141 #[.agg #[.int .i64 V, v, .int .i64 T]] W fun e w' => e = .returned (.tuple #[.bool true, .nilIface]) ∧ Kept W w') := Lib.hid fun W hk => by
    have := syntax_ok v f V T W (hv.kept hk) hok hck
    rw [hs] at this; exact this
  have HNR := Lib.hid (fun i (hi : i < f.nodes.length) => node_read hv i hi)
  have HOK := Lib.hid hok
  have HMO := Lib.hid (fun i (hi : i < f.nodes.length) h => kind_mono hok hs i hi h)
  have hsh : ∃ a n c, v = .slice a n c := by obtain ⟨a, c, h, _⟩ := hv; exact ⟨a, _, c, h⟩
  obtain ⟨a, n, c, rfl⟩ := hsh
  have h24 := hok.v24
  have h128 := hok.n128
  have htl := hok.tlt
  have hc0 : RowLt 152 (cond V (T : Int)) := rowLt_mono (rowLt_cond (V := V) (m := 128) (by omega) h24) (by omega)
  have HST0 := Lib.hid (Stand.start hok)
  have HW0 : Hid (∀ W', Calls Tryz.prog 142 #[.agg #[.int .i64 0, .int .u64 0, .int .u64 0], .agg #[.int .i64 V, .slice a n c, .int .i64 T], .int .i64 T] W' fun e w' => e = .returned (rowV (cond V (T : Int))) ∧ Kept W' w') := Lib.hid fun W' => by
    have := rwith_any (c := 0) (fun j hj => by simp at hj) V (.slice a n c) T ⟨_, _, _, rfl⟩ h24 (T : Int) (by omega) W'
    rw [show withC V 0 (T : Int) = cond V (T : Int) by unfold withC; simp] at this
    exact this
  obtain ⟨c0, hc00⟩ : ∃ c0, c0 = cond V (T : Int) := ⟨_, rfl⟩
  obtain ⟨nl, hnl⟩ : ∃ nl, nl = f.nodes.length := ⟨_, rfl⟩
  rw [← hc00] at hc0 HST0 HW0
  rw [← hnl] at HST0 h128
  have HNL := Lib.hid hnl
  have HC0 := Lib.hid hc0
  obtain ⟨x0, hx0⟩ : ∃ x, x = evW c0 := ⟨_, rfl⟩
  obtain ⟨x1, hx1⟩ : ∃ x, x = loW c0 := ⟨_, rfl⟩
  obtain ⟨x2, hx2⟩ : ∃ x, x = hiW c0 := ⟨_, rfl⟩
  have HOW : Hid (∀ (W : World) (B : Nat), B ≤ W.heap.size → OwnRws (W.alloc (.cells #[.int .i64 x0, .int .u64 x1, .int .u64 x2] 121)) B (.slice (some ⟨W.heap.size, 0, none⟩) 1 1) [c0]) := Lib.hid fun W B hB => by rw [hx0, hx1, hx2]; exact own_one W B c0 hB hc0
  unfold rowV at HW0
  rw [← hx0, ← hx1, ← hx2] at HW0
  clear hv hok hck hs hc0 hc00 hnl hx0 hx1 hx2 htl
  go_enter Tryz.func98, Tryz.ntmps98
  go_wp2_with (go_at_call 141; refine (HSY.out _ ((Kept.refl _).alloc _)).mono ?_; rintro e w1 ⟨rfl, hk1⟩; have d0 := hk1.cell (p := ⟨w.heap.size, 0, none⟩) (v := .int .i64 V) (by simp); have d1 := hk1.cell (p := ⟨w.heap.size, 1, none⟩) (v := .slice a n c) (by simp); have d2 := hk1.cell (p := ⟨w.heap.size, 2, none⟩) (v := .int .i64 T) (by simp); have HK1 := Lib.hid (((Kept.refl _).alloc _).trans hk1); clear hk1)
  refine (HW0.out _).mono ?_
  rintro e w2 ⟨rfl, hk2⟩
  have d0' := hk2.cell d0
  have d1' := hk2.cell d1
  have d2' := hk2.cell d2
  have HK2 := Lib.hid (HK1.out.trans hk2)
  have hsz2 : w.heap.size < w2.heap.size := by
    by_cases h : w.heap.size < w2.heap.size
    · exact h
    · simp [World.cell?, Array.getElem?_eq_none (Nat.le_of_not_lt h)] at d0'
  clear d0 d1 d2 hk2 HK1
  go_wp2
  obtain ⟨L1, hL1⟩ : ∃ L : World, L = w2.alloc (.cells #[.int .i64 x0, .int .u64 x1, .int .u64 x2] 121) := ⟨_, rfl⟩
  have HL1 := Lib.hid hL1
  clear hL1
  have e0 := (by rw [HL1.out]; exact ((Kept.refl w2).alloc _).cell d0' : L1.cell? ⟨w.heap.size, 0, none⟩ = some (.int .i64 V))
  have e1 := (by rw [HL1.out]; exact ((Kept.refl w2).alloc _).cell d1' : L1.cell? ⟨w.heap.size, 1, none⟩ = some (.slice a n c))
  have e2 := (by rw [HL1.out]; exact ((Kept.refl w2).alloc _).cell d2' : L1.cell? ⟨w.heap.size, 2, none⟩ = some (.int .i64 T))
  have HKL : Hid (Kept w L1) := Lib.hid (by rw [HL1.out]; exact HK2.out.trans ((Kept.refl w2).alloc _))
  clear d0' d1' d2'
  go_loopg [7, 8] nl (fun kx s7 s8 wr => ∃ (L st : List Nat) (m : Nat) (vr vs : Value), s7 = vr ∧ s8 = vs ∧ m ≤ kx ∧ Hid (Stand V T f L st m ∧ st.length + m ≤ 128) ∧ Hid (OwnRws wr w2.heap.size vr L) ∧ Hid (OwnInts wr L1.heap.size vs (ofN st)) ∧ Hid (Kept L1 wr))
  case atStart => exact ⟨[c0], [], nl, _, _, rfl, rfl, Nat.le_refl _, Lib.hid ⟨HST0.out, by simpa using h128⟩, Lib.hid (HOW.out _ _ (Nat.le_refl _)), Lib.hid (OwnInts.nil _ _), Lib.hid (by rw [HL1.out]; exact Kept.refl _)⟩
  case round =>
    obtain ⟨wo, rfl⟩ : ∃ wo : World, wo = wr := ⟨_, rfl⟩
    obtain ⟨L, st, m, vr, vs, rfl, rfl, hmk, HST, HOR, HOS, HK⟩ := hrel
    obtain ⟨va, vc, hvr⟩ := HOR.out.at.shape
    obtain ⟨ln, hln⟩ : ∃ ln, ln = L.length := ⟨_, rfl⟩
    rw [← hln] at hvr
    have hlb : ln ≤ 10000 := by rw [hln]; exact HOR.out.at.len
    subst hvr
    have HLN := Lib.hid hln
    have HG := Lib.hid (greatest_any _ L wo HOR.out.at)
    have d0 := HK.out.cell e0
    have d1 := HK.out.cell e1
    have d2 := HK.out.cell e2
    clear hln
    go_wp2_with fail
    refine HG.out.mono ?_
    rintro e w3 ⟨⟨r, rfl, hg⟩, hk3⟩
    have HGT := Lib.hid hg
    have HK3 := Lib.hid hk3
    by_cases hr0 : r < 0
    · clear hg hk3 d0 d1 d2
      go_wp2
      go_ret3
      refine ⟨?_, HKL.out.trans (HK.out.trans HK3.out)⟩
      obtain ⟨R, hR, hp⟩ := HST.out.1.done fun c hc j hj => by have := HGT.out.1 c hc j hj; omega
      rw [hR]
      exact ⟨_, _, L, rfl, (HOR.out.kept HK3.out).zero, hp, (HOS.out.mono (Nat.zero_le _)).kept HK3.out⟩
    · obtain ⟨i, rfl, hib⟩ := hg.2.resolve_left (by omega)
      obtain ⟨him, hmk2, _⟩ := HST.out.1.at hib fun c hc j hj => by have := hg.1 c hc j hj; omega
      have hle := HST.out.1.le
      have hil : i < f.nodes.length := by omega
      obtain ⟨b, o, n', c', ua, un, uc, hveq, hn', hnr⟩ := HNR.out i hil
      injection hveq with q1 q2 q3
      subst q1
      rw [← q2, ← HNL.out] at hn'
      have hkd := HMO.out i hil hmk2
      have hok := HOK.out
      have h128' := hok.n128
      have hargs : ∀ a ∈ f.nodes[i].args, 0 ≤ a ∧ a < (V : Int) + 128 := fun a ha => by have := hok.args i hil a ha; omega
      have h16 : f.nodes[i].args.length ≤ 16 := argsOk_le (hok.argc i hil)
      have hk4 : f.nodes[i].kind = 4 → 1 ≤ f.nodes[i].k ∧ f.nodes[i].k ≤ f.nodes[i].args.length := fun h4 => by
        have := hok.arity i hil
        unfold chkK at this
        rw [if_neg (by omega), if_pos h4] at this
        split at this
        · omega
        · cases this
      have hx : f.nodes.getD i noNd = f.nodes[i] := by simp [List.getD_eq_getElem?_getD, hil]
      obtain ⟨x, hxx⟩ : ∃ x, x = f.nodes[i] := ⟨_, rfl⟩
      rw [← hxx] at hnr hkd hargs h16 hk4 hx
      have HX := Lib.hid hx
      have hin : i < n := by rw [hn', HNL.out]; exact hil
      have hi128 : i < 128 := by omega
      have HEX : Hid (∀ W q u LL gl, Kept w W → w.heap.size ≤ gl → gl ≤ W.heap.size → ListAt W gl gl u LL → LL.length ≤ 4097 → RowLt 152 q → Calls Tryz.prog 145 #[.pointer (some ⟨gl, 0, none⟩), .agg #[.int .i64 V, .slice (some ⟨b, o, none⟩) n c, .int .i64 T], .agg #[.int .i64 (evW q), .int .u64 (loW q), .int .u64 (hiW q)], .int .i64 i] W fun e w' => e = .returned (.tuple #[]) ∧ ∃ v', ListAt w' gl gl v' ((LL ++ expandK V x i q).take 4097) ∧ Frm gl u v' W w') := Lib.hid fun W q u LL gl hk hg1 hg2 hL hl hq =>
        expand_any gl gl V i q b o n c T x ua un uc u LL W (Nat.le_refl _) h24 hg2 hL hl hq hi128 hin (hnr W hk).1 (fun w' hb => (hnr w' (hk.app (hb.mono hg1))).2) hargs h16 hkd hk4
      clear hnr hkd hargs h16 hk4 hx hxx hok hmk2 q2 q3 hn' hg hib hil
      have hsz3 := hk3.size
      have d0' := hk3.cell d0
      have d1' := hk3.cell d1
      have d2' := hk3.cell d2
      clear hk3 d0 d1 d2
      go_wp2
      obtain ⟨L3, hL3⟩ : ∃ L : World, L = w3.alloc (.cells #[.slice none 0 0] 158) := ⟨_, rfl⟩
      have HL3 := Lib.hid hL3
      have HK33 : Hid (Kept w3 L3) := Lib.hid (by rw [HL3.out]; exact (Kept.refl _).alloc _)
      clear hL3
      go_loopg [38] ln (fun kx s38 wr => ∃ (k : Nat) (vk : Value), s38 = .int .i64 k ∧ k ≤ ln ∧ ln - k ≤ kx ∧ Hid (ListAt wr w3.heap.size w3.heap.size vk ((expK V x i (L.take k)).take 4097)) ∧ Hid (Frm w3.heap.size (.slice none 0 0) vk L3 wr))
      case atStart => exact ⟨0, _, rfl, Nat.zero_le _, by omega, Lib.hid ⟨RowAt.made w3 _ _, by simpa [expK] using OwnRws.nil _ _⟩, Lib.hid (by rw [HL3.out]; exact Frm.of_kept (Kept.refl _))⟩
      case round =>
        obtain ⟨k, vk, rfl, hk, hkx, HLI, HFI⟩ := hrel
        have hkwi : Kept w3 wr := frm_kept HK33.out HFI.out (Nat.le_refl _) rfl
        have HKI := Lib.hid hkwi
        have hszi := hkwi.size
        by_cases hlt : k < ln
        · have hkl : k < L.length := by have := HLN.out; omega
          have hrows := HOR.out.at.kept (HK3.out.trans hkwi)
          obtain ⟨b2, o2, rfl, hrg⟩ := hrows.get k hkl
          have hql := hrows.lt L[k] (List.getElem_mem _)
          have hnext := expK_take V x i L k hkl
          obtain ⟨q, hqq⟩ : ∃ q, q = L[k] := ⟨_, rfl⟩
          rw [← hqq] at hrg hql hnext
          unfold expR at hnext
          have f0 := hkwi.cell d0'
          have f1 := hkwi.cell d1'
          have f2 := hkwi.cell d2'
          have hlen : ((expK V x i (L.take k)).take 4097).length ≤ 4097 := by rw [List.length_take]; omega
          have HKWI : Hid (∀ W, Kept wr W → Kept w W) := Lib.hid fun W hk => HKL.out.trans (HK.out.trans (HK3.out.trans (hkwi.trans hk)))
          have HHAS : Hid (∀ W, Calls Tryz.prog 144 #[rowV q, .int .i64 i] W fun e w' => e = .returned (.bool (q.testBit (24 + i))) ∧ Kept W w') := Lib.hid fun W => rhas_any hql i hi128 W
          unfold rowV at HHAS
          have hkn : (k : Int) < (ln : Int) := by omega
          cases hq : q.testBit (24 + i) with
          | true =>
            rw [hq] at hnext HHAS
            rw [if_pos rfl] at hnext
            have HE2 : Hid (∀ W, Kept wr W → Calls Tryz.prog 145 #[.pointer (some ⟨w3.heap.size, 0, none⟩), .agg #[.int .i64 V, .slice (some ⟨b, o, none⟩) n c, .int .i64 T], .agg #[.int .i64 (evW q), .int .u64 (loW q), .int .u64 (hiW q)], .int .i64 i] W fun e w' => e = .returned (.tuple #[]) ∧ ∃ v', Hid (ListAt w' w3.heap.size w3.heap.size v' ((expK V x i (L.take (k + 1))).take 4097)) ∧ Hid (Frm w3.heap.size (.slice none 0 0) v' L3 w')) := Lib.hid fun W hk => by
              have := HEX.out W q vk _ w3.heap.size (HKWI.out W hk) (by have := HKL.out.size; have := HK.out.size; omega) (by have := hk.size; omega) (ListAt.kept HLI.out hk) hlen hql
              rw [take_app, ← hnext] at this
              exact this.mono fun _ _ ⟨h1, v', h2, h3⟩ => ⟨h1, v', Lib.hid h2, Lib.hid ((HFI.out.trans (Frm.of_kept hk)).trans h3)⟩
            have HRG : Hid (wr.rangeAt b2 (o2 + k * 3) [.int .i64 (evW q), .int .u64 (loW q), .int .u64 (hiW q)]) := Lib.hid hrg
            generalize evW q = z0 at *
            generalize loW q = z1 at *
            generalize hiW q = z2 at *
            clear hrg hql hnext hqq hrows hq HEX d0' d1' d2' HLI HFI hkwi hlen
            go_wp2_with (first | (with_reducible refine wpList_load_mid rfl 121 _ rfl b2 (o2 + k * 3) rfl _ _ HRG.out Tryz.underlying121 rfl (by kernel_rfl) ?_) | (go_at_call 144; refine (HHAS.out _).mono ?_; rintro e w4 ⟨rfl, hk4⟩; have b0 := hk4.cell (p := ⟨wr.heap.size, 0, none⟩) (v := .int .i64 z0) (by simp); have b1 := hk4.cell (p := ⟨wr.heap.size, 1, none⟩) (v := .int .u64 z1) (by simp); have b2 := hk4.cell (p := ⟨wr.heap.size, 2, none⟩) (v := .int .u64 z2) (by simp); have HK4 := Lib.hid (((Kept.refl wr).alloc _).trans hk4); have g0 := HK4.out.cell f0; have g1 := HK4.out.cell f1; have g2 := HK4.out.cell f2; clear hk4) | (go_at_call 145; refine (HE2.out _ HK4.out).mono ?_; rintro e w5 ⟨rfl, v', h3, h4⟩))
            go_roundg (ln - (k + 1))
            case measure => omega
            case rel => exact ⟨k + 1, v', by go_num, by omega, Nat.le_refl _, h3, h4⟩
          | false =>
            rw [hq] at hnext HHAS
            rw [if_neg (by simp)] at hnext
            have HE2 : Hid (∀ W, Kept wr W → Calls Tryz.prog 146 #[.pointer (some ⟨w3.heap.size, 0, none⟩), .agg #[.int .i64 (evW q), .int .u64 (loW q), .int .u64 (hiW q)]] W fun e w' => e = .returned (.tuple #[]) ∧ ∃ v', Hid (ListAt w' w3.heap.size w3.heap.size v' ((expK V x i (L.take (k + 1))).take 4097)) ∧ Hid (Frm w3.heap.size (.slice none 0 0) v' L3 w')) := Lib.hid fun W hk => by
              have := add_any w3.heap.size w3.heap.size q vk _ W (ListAt.kept HLI.out hk) hql hlen (Nat.le_refl _)
              rw [addK_take hlen, take_app, ← hnext] at this
              exact this.mono fun _ _ ⟨h1, v', h2, h3⟩ => ⟨h1, v', Lib.hid h2, Lib.hid ((HFI.out.trans (Frm.of_kept hk)).trans h3)⟩
            have HRG : Hid (wr.rangeAt b2 (o2 + k * 3) [.int .i64 (evW q), .int .u64 (loW q), .int .u64 (hiW q)]) := Lib.hid hrg
            generalize evW q = z0 at *
            generalize loW q = z1 at *
            generalize hiW q = z2 at *
            clear hrg hql hnext hqq hrows hq HEX d0' d1' d2' HLI HFI hkwi hlen
            go_wp2_with (first | (with_reducible refine wpList_load_mid rfl 121 _ rfl b2 (o2 + k * 3) rfl _ _ HRG.out Tryz.underlying121 rfl (by kernel_rfl) ?_) | (go_at_call 144; refine (HHAS.out _).mono ?_; rintro e w4 ⟨rfl, hk4⟩; have b0 := hk4.cell (p := ⟨wr.heap.size, 0, none⟩) (v := .int .i64 z0) (by simp); have b1 := hk4.cell (p := ⟨wr.heap.size, 1, none⟩) (v := .int .u64 z1) (by simp); have b2 := hk4.cell (p := ⟨wr.heap.size, 2, none⟩) (v := .int .u64 z2) (by simp); have HK4 := Lib.hid (((Kept.refl wr).alloc _).trans hk4); clear hk4) | (go_at_call 146; refine (HE2.out _ HK4.out).mono ?_; rintro e w5 ⟨rfl, v', h3, h4⟩))
            go_roundg (ln - (k + 1))
            case measure => omega
            case rel => exact ⟨k + 1, v', by go_num, by omega, Nat.le_refl _, h3, h4⟩
        · have hke : k = ln := by omega
          have HLE : Hid (ListAt wr w3.heap.size w3.heap.size vk ((expK V x i L).take 4097)) := Lib.hid (by have h := HLI.out; rw [hke, HLN.out, List.take_length] at h; exact h)
          have c0 := HLE.out.1.cell (i := 0) (by simp)
          simp only [List.getElem_cons_zero] at c0
          obtain ⟨vka, vkc, hvk⟩ := HLE.out.2.at.shape
          obtain ⟨n2, hn2⟩ : ∃ n2, n2 = ((expK V x i L).take 4097).length := ⟨_, rfl⟩
          rw [← hn2] at hvk
          subst hvk
          have HN2 := Lib.hid hn2
          have hn2b : n2 ≤ 4097 := by rw [hn2, List.length_take]; omega
          have HHI : Hid ((∃ c ∈ L, c.testBit (24 + i) = true) ∧ ∀ c ∈ L, ∀ j, c.testBit (24 + j) = true → j ≤ i) := Lib.hid ⟨by
            rcases HGT.out.2 with h | ⟨j, hj, hc⟩
            · omega
            · rw [show i = j by omega]; exact hc, fun c hc j hj => by have := HGT.out.1 c hc j hj; omega⟩
          clear hke hn2 HLI HEX HFI
          by_cases hbig : 4096 < n2
          · have hbig' : (n2 : Int) > 4096 := by omega
            go_wp2
            go_ret3
            refine ⟨?_, HKL.out.trans (HK.out.trans (HK3.out.trans HKI.out))⟩
            rw [HST.out.1.full HHI.out.1 HHI.out.2 (by rw [HX.out]; have := HN2.out; rw [List.length_take] at this; omega)]
            exact runRes_none _
          · have hbig' : ¬ (n2 : Int) > 4096 := by omega
            have hfull : (expK V x i L).length ≤ 4096 := by have := HN2.out; rw [List.length_take] at this; omega
            have HLS := Lib.hid (least_perm_any _ _ wr HLE.out.2.at (by rw [List.length_take]; omega))
            rw [List.take_of_length_le (by omega)] at HLS
            have HFU := Lib.hid hfull
            clear hfull HLE
            go_wp2_with fail
            refine HLS.out.mono ?_
            rintro e w6 ⟨⟨v6, M, rfl, ho6, hp6⟩, hk6⟩
            have HO6 := Lib.hid ho6
            have HP6 := Lib.hid hp6
            have HK6 := Lib.hid hk6
            obtain ⟨va6, vc6, hv6⟩ := ho6.at.shape
            obtain ⟨n6, hn6⟩ : ∃ n6, n6 = M.length := ⟨_, rfl⟩
            rw [← hn6] at hv6
            have hn6b : n6 ≤ 10000 := by rw [hn6]; exact ho6.at.len
            subst hv6
            have HN6 := Lib.hid hn6
            have HKA : Hid (Kept wo w6) := Lib.hid (HK3.out.trans (HKI.out.trans hk6))
            have HKB : Hid (Kept L1 w6) := Lib.hid (HK.out.trans HKA.out)
            have hsz6 := hk6.size
            clear hn6 ho6 hp6 hk6 HLS
            by_cases hbig6 : 1024 < n6
            · have hbig6' : (n6 : Int) > 1024 := by omega
              go_wp2
              go_ret3
              refine ⟨?_, HKL.out.trans HKB.out⟩
              rw [HST.out.1.many (M := M) HHI.out.1 HHI.out.2 (by rw [HX.out]; exact HP6.out) (by rw [← HN6.out]; exact hbig6)]
              exact runRes_none _
            · have hbig6' : ¬ (n6 : Int) > 1024 := by omega
              have HS2 := Lib.hid (HST.out.1.next (M := M) HOK.out HHI.out.1 HHI.out.2 (by rw [HX.out]; exact HFU.out) (by rw [HX.out]; exact HP6.out) (by rw [← HN6.out]; omega))
              have HOS6 := Lib.hid (HOS.out.kept HKA.out)
              have hst := HST.out.2
              have hstl : (ofN st).length = st.length := by simp [ofN]
              have hszL := HKB.out.size
              have HOWN : Hid (∀ g, u8.ownBlock = some g → g < wr.heap.size) := Lib.hid fun g hg => by have := HOS.out.own_lt hg; have := (HK3.out.trans HKI.out).size; omega
              go_wp2_with (at_builtin; refine app_int rfl _ _ rfl L1.heap.size _ (ofN st) rfl (HOS6.out.kept ((Kept.refl _).alloc _)) _ (n6 : Int) rfl (by simp) (by rw [hstl]; omega) (by simp; omega) ?_; intro v7 w7 hown7 hg7 hb7; have O7 := Lib.hid hown7; have HB7 := Lib.hid hb7; have HG7 := Lib.hid hg7; clear hown7 hb7 hg7)
              go_roundg i
              case measure => omega
              case rel =>
                refine ⟨M, st ++ [n6], i, _, v7, rfl, rfl, Nat.le_refl _, Lib.hid ⟨by have := HS2.out; rw [← HN6.out] at this; exact this, by simp; omega⟩, Lib.hid ?_, Lib.hid ?_, Lib.hid ?_⟩
                · refine ((HO6.out.kept ((Kept.refl _).alloc _)).grown HG7.out fun g hg e => ?_).mono (by have h1 := HK.out.size; have h2 := HKI.out.size; have h3 := HK3.out.size; have h4 : L1.heap.size = w2.heap.size + 1 := (by rw [HL1.out]; simp); omega)
                  have h1 := (HO6.out.own_ge hg).1
                  have h2 := HOWN.out g e.symm
                  omega
                · have := O7.out
                  simpa [ofN] using this
                · exact (HKB.out.alloc _).app HB7.out
end Go.Proofs.YthiemjodcklejaaGreatDoor

/-
  Walks: faultlineref05.Valid, Cut, Count, Compare.
-/
namespace Go.Proofs.YthiemjodcklejaaGreatDoor
open Go.RowKit

def cmpR (a b : Nat) : Int := if a = b then 0 else if ltK a b then -1 else 1
end Go.Proofs.YthiemjodcklejaaGreatDoor

/-
  Walks: faultlineref05.Sort.
-/
namespace Go.Proofs.YthiemjodcklejaaGreatDoor
open Go.RowKit

theorem SetsAt.shape {w : World} {v : Value} {ns : List Nat} (h : SetsAt w v ns) : ∃ a c, v = .slice a ns.length c ∧ ns.length ≤ c ∧ (ns ≠ [] → ∃ b o, a = some ⟨b, o, none⟩) := by
  obtain ⟨⟨a, c, h1, ⟨h0, _⟩, _, h3⟩, _⟩ := h
  refine ⟨a, c, by simpa using h1, by simpa using h0, fun hne => ?_⟩
  have : 0 < (ofN ns).length := by simpa using List.length_pos_iff.2 hne
  obtain ⟨b, o, h4, _⟩ := h3 0 this
  exact ⟨b, o, h4⟩

def lenV : Value → Nat | .slice _ n _ => n | _ => 0
/-- What a merge has taken, and what is left. -/
structure MInv (ns zs xs ys : List Nat) : Prop where
  left : (zs ++ xs).Pairwise ltK
  right : (zs ++ ys).Pairwise ltK
  mem : ∀ z, z ∈ ns ↔ z ∈ zs ∨ z ∈ xs ∨ z ∈ ys
  len : zs.length + xs.length + ys.length ≤ ns.length
/-- l[1:] of a list with a head. -/
abbrev restV (b o n c : Nat) : Value := .slice (if c = 1 then some ⟨b, o, none⟩ else some ⟨b, o + 1, none⟩) n (c - 1)
end Go.Proofs.YthiemjodcklejaaGreatDoor

/-
  Walks: family.Covers, family.Check; slices.Equal of equal lists.
-/
namespace Go.Proofs.YthiemjodcklejaaGreatDoor
open Go.RowKit

def covB (l : List Nat) (s : Nat) : Bool := l.any fun t => subN t s
end Go.Proofs.YthiemjodcklejaaGreatDoor

/-
  Walks: topdown.Cuts, topdown.Steps.
-/
namespace Go.Proofs.YthiemjodcklejaaGreatDoor
open Go.RowKit

theorem nodup_perm {R : List Nat} : ∀ {l : List Nat}, R.Nodup → (∀ x ∈ R, x ∈ l) → l.length ≤ R.length → l.Perm R := by
  induction R with
  | nil => intro l _ _ hl; simp at hl; subst hl; exact .refl _
  | cons x R ih =>
    intro l hn hs hl
    have hx : x ∈ l := hs x (List.mem_cons_self ..)
    have h1 := List.perm_cons_erase hx
    have h2 := ih (l := l.erase x) (List.nodup_cons.1 hn).2 (fun y hy => (List.mem_erase_of_ne (fun e => (List.nodup_cons.1 hn).1 (by rw [← e]; exact hy))).2 (hs y (List.mem_cons_of_mem _ hy))) (by rw [List.length_erase_of_mem hx]; simp at hl; omega)
    exact h1.trans (h2.cons x)
theorem sorted_can {R rs : List Nat} (hR : Can R) (hl : rs.length = R.length) (hp : rs.Pairwise (fun a b => ltK a b ∨ a = b)) (hm : ∀ x, x ∈ rs ↔ x ∈ R) : rs = R := by
  have hpR : R.Pairwise ltK := by rw [← hR]; exact pair_minK R
  have hnR : R.Nodup := hpR.imp fun {a b} h e => by subst e; exact ltK_irr a h
  have hperm := nodup_perm hnR (fun x hx => (hm x).2 hx) (Nat.le_of_eq hl)
  have hn : rs.Nodup := hperm.symm.nodup hnR
  have hlt : rs.Pairwise ltK := (hp.and hn).imp fun {a b} h => h.1.resolve_right h.2
  exact pair_unique ltK ltK_irr ltK_tr rs R hlt hpR hm
/-- What run answers when it succeeds. -/
def RunGood (w' : World) (e : Ending) (p : List Nat × List Nat) : Prop := ∃ v1 v2 L, e = .returned (.tuple #[v1, v2, .nilIface]) ∧ OwnRws w' 0 v1 L ∧ L.Perm p.1 ∧ OwnInts w' 0 v2 (ofN p.2)
set_option maxRecDepth 100000 in
theorem tcuts_err (v : Value) (f : Fm) (q : Nat) (hq : q ≠ 0) (w : World) (hs : ∃ a n c, v = .slice a n c) (hr : ∀ W, Kept w W → Calls Tryz.prog 98 #[fmV v f] W fun e w' => e = .returned (.tuple #[.slice none 0 0, .slice none 0 0, errV q]) ∧ Kept W w') :
    Calls Tryz.prog 44 #[fmV v f] w fun e w' => e = .returned (.tuple #[.slice none 0 0, errV q]) ∧ Kept w w' := by
  obtain ⟨a, n, c, rfl⟩ := hs
  obtain ⟨vars, nodes, top⟩ := f
  have H : Hid (∀ W, Kept w W → Calls Tryz.prog 98 #[.agg #[.int .i64 vars, .slice a n c, .int .i64 top]] W fun e w' => e = .returned (.tuple #[.slice none 0 0, .slice none 0 0, errV q]) ∧ Kept W w') := Lib.hid hr
  rw [errV_pos hq] at *
  clear hr hq
  show Calls _ _ #[.agg #[.int .i64 vars, .slice a n c, .int .i64 top]] _ _
  go_enter Tryz.func44, Tryz.ntmps44
  go_wp2_with (go_at_call 98; refine (H.out _ ((Kept.refl _).alloc _)).mono ?_; rintro e w1 ⟨rfl, hk1⟩)
  go_ret2
  exact ⟨rfl, ((Kept.refl _).alloc _).trans hk1⟩
set_option maxRecDepth 100000 in
set_option maxHeartbeats 1000000 in
theorem tcuts_ok (v : Value) (V T : Nat) (p : List Nat × List Nat) (w : World) (hg : Good p.1) (hm : ∀ r ∈ p.1, Mk r) (hs : ∃ a n c, v = .slice a n c) (hr : ∀ W, Kept w W → Calls Tryz.prog 98 #[.agg #[.int .i64 V, v, .int .i64 T]] W fun e w' => RunGood w' e p ∧ Kept W w') :
    Calls Tryz.prog 44 #[.agg #[.int .i64 V, v, .int .i64 T]] w fun e w' => (∃ v', e = .returned (.tuple #[v', .nilIface]) ∧ OwnSets w' 0 v' p.1) ∧ Kept w w' := by
  obtain ⟨a, n, c, rfl⟩ := hs
  have H := Lib.hid hr
  have HG := Lib.hid hg
  have HM := Lib.hid hm
  clear hr hg hm
  go_enter Tryz.func44, Tryz.ntmps44
  go_wp2_with (go_at_call 98; refine (H.out _ ((Kept.refl _).alloc _)).mono ?_; rintro e w1 ⟨⟨v1, v2, L, rfl, ho1, hp1, ho2⟩, hk1⟩; obtain ⟨ln, hln⟩ : ∃ ln, ln = L.length := ⟨_, rfl⟩; obtain ⟨a1, c1, rfl⟩ := ho1.at.shape; obtain ⟨a2, n2, c2, rfl⟩ := ho2.ints.shape; rw [← hln] at ho1; rw [← hln]; have O1 := Lib.hid ho1; have HLN := Lib.hid hln; have HP1 := Lib.hid hp1; have hlb : ln ≤ 10000 := (by rw [hln]; exact ho1.at.len); clear hln hp1 ho1 ho2)
  have hk1w := ((Kept.refl _).alloc _).trans hk1
  have HK1 := Lib.hid hk1w
  clear hk1w hk1
  go_loopg [7, 21] ln (fun kx s7 s21 wr => ∃ (k : Nat) (vo : Value), s7 = vo ∧ s21 = .int .i64 k ∧ k ≤ ln ∧ ln - k ≤ kx ∧ Hid (OwnInts wr w1.heap.size vo (ofN (L.take k))) ∧ Hid (Kept w1 wr))
  case atStart => exact ⟨0, _, rfl, rfl, Nat.zero_le _, by omega, Lib.hid (OwnInts.nil _ _), Lib.hid (Kept.refl _)⟩
  case round =>
    obtain ⟨k, vo, rfl, rfl, hk, hkx, HO, HK⟩ := hrel
    have hsz := HK.out.size
    obtain ⟨ao, no, co, hvo⟩ := HO.out.ints.shape
    subst hvo
    by_cases hlt : k < ln
    · have hkl : k < L.length := by have := HLN.out; omega
      obtain ⟨b, o, rfl, hrg⟩ := (O1.out.at.kept HK.out).get k hkl
      have hmk : Mk L[k] := HM.out _ (HP1.out.mem_iff.1 (List.getElem_mem _))
      have hev : evW L[k] = L[k] := by unfold evW; unfold Mk at hmk; omega
      have hnext : ofN (L.take (k + 1)) = ofN (L.take k) ++ [((evW L[k] : Nat) : Int)] := by unfold ofN; rw [hev, List.take_succ_eq_append_getElem hkl, List.map_append]; rfl
      have hlen : (ofN (L.take k)).length = k := by simp [ofN]; omega
      have hkn : (k : Int) < (ln : Int) := by omega
      have HRG : Hid (wr.rangeAt b (o + k * 3) [.int .i64 (evW L[k]), .int .u64 (loW L[k]), .int .u64 (hiW L[k])]) := Lib.hid hrg
      generalize evW L[k] = z0 at *
      generalize loW L[k] = z1 at *
      generalize hiW L[k] = z2 at *
      have HNX := Lib.hid hnext
      clear hrg hmk hev hnext
      go_wp2_with (first | (with_reducible refine wpList_load_mid rfl 121 _ rfl b (o + k * 3) rfl _ _ HRG.out Tryz.underlying121 rfl (by kernel_rfl) ?_) | (at_builtin; refine app_int rfl _ _ rfl w1.heap.size _ (ofN (L.take k)) rfl (HO.out.kept (((Kept.refl _).alloc _).alloc _)) _ (z0 : Int) rfl (by simp) (by rw [hlen]; omega) (by simp; omega) ?_; intro v7 w7 hown7 _ hb7; have O7 := Lib.hid hown7; have HB7 := Lib.hid hb7; clear hown7 hb7))
      go_roundg (ln - (k + 1))
      case measure => omega
      case rel => exact ⟨k + 1, v7, rfl, by go_num, by omega, Nat.le_refl _, Lib.hid (by rw [HNX.out]; exact O7.out), Lib.hid (((HK.out.alloc _).alloc _).app HB7.out)⟩
    · have hke : k = ln := by omega
      have HF : Hid (OwnInts wr w1.heap.size (.slice ao no co) (ofN L)) := Lib.hid (by have h := HO.out; rw [hke, HLN.out, List.take_length] at h; exact h)
      have HML : Hid (∀ n ∈ L, Mk n) := Lib.hid fun x hx => HM.out x (HP1.out.mem_iff.1 hx)
      clear hke
      go_wp2_with (go_at_call 99; refine (sort_any w1.heap.size _ L _ HML.out HF.out hsz).mono ?_; rintro e w3 ⟨rfl, rs, hr1, hr2, hr3, hr4, ho3, hb3⟩; have O3 := Lib.hid ho3; have R1 := Lib.hid hr1; have R2 := Lib.hid hr2; have R3 := Lib.hid hr3; have R4 := Lib.hid hr4; clear ho3 hr1 hr2 hr3 hr4)
      go_ret2
      have he : rs = p.1 := sorted_can HG.out.1 (R2.out.trans HP1.out.length_eq) R3.out fun x => (R4.out x).trans HP1.out.mem_iff
      refine ⟨⟨_, rfl, by rw [← he]; exact O3.out.mono (Nat.zero_le _), HM.out⟩, HK1.out.trans (HK.out.app hb3)⟩
end Go.Proofs.YthiemjodcklejaaGreatDoor

/-
  Walks: faultlinebase.Is. The frame of the laws of a formula and a small number.
-/
namespace Go.Proofs.YthiemjodcklejaaGreatDoor
open Go.RowKit Go.ChangeShapes Go.WideShapes Go.ChangeAt Go.Joins Go.Deep

set_option maxRecDepth 100000 in
theorem is_any (q c : Nat) (hq : q ≠ 0) (w : World) : Calls Tryz.prog 21 #[errV q, .int .i64 c] w fun e w' => e = .returned (.bool (q == c)) ∧ w = w' := by
  rw [errV_pos hq]
  have e : ((q : Int) == (c : Int)) = (q == c) := by rw [Bool.eq_iff_iff]; simp; omega
  have HE := Lib.hid e
  clear hq e
  go_enter Tryz.func21, Tryz.ntmps21
  go_wp2
  rw [as_errno]
  go_wp2
  go_ret
  exact ⟨by rw [← HE.out]; rfl, rfl⟩
end Go.Proofs.YthiemjodcklejaaGreatDoor

/-
  Walks: formula.values.
-/
namespace Go.Proofs.YthiemjodcklejaaGreatDoor
open Go.RowKit

/-- A slice of bools of the call's own. -/
def OwnBools (w : World) (B : Nat) (v : Value) (bs : List Bool) : Prop := w.ownsRow B 4 1 v bs.length (bs.map Value.bool) ∧ bs.length ≤ 1000000
theorem OwnBools.kept {w w' : World} {B : Nat} {v : Value} {bs : List Bool} (h : OwnBools w B v bs) (hk : Kept w w') : OwnBools w' B v bs := ⟨own_kept h.1 hk, h.2⟩
theorem OwnBools.mono {w : World} {B B' : Nat} {v : Value} {bs : List Bool} (h : OwnBools w B v bs) (hb : B' ≤ B) : OwnBools w B' v bs := ⟨own_mono h.1 hb, h.2⟩
theorem OwnBools.shape {w : World} {B : Nat} {v : Value} {bs : List Bool} (h : OwnBools w B v bs) (h0 : bs ≠ []) : ∃ g cap, v = .slice (some ⟨g, 0, none⟩) bs.length cap ∧ B ≤ g ∧ g < w.heap.size ∧ bs.length ≤ cap := by
  obtain ⟨⟨_, h3⟩, _⟩ := h
  rcases h3 with ⟨_, h3⟩ | ⟨g, cap, cur, rfl, h4, h5, h6, _⟩
  · exact absurd (List.eq_nil_of_length_eq_zero h3) h0
  · exact ⟨g, cap, rfl, h4, heap_lt h5, h6⟩
theorem OwnBools.slice {w : World} {B : Nat} {v : Value} {bs : List Bool} (h : OwnBools w B v bs) : ∃ a c, v = .slice a bs.length c ∧ bs.length ≤ c := by
  obtain ⟨⟨_, h3⟩, _⟩ := h
  rcases h3 with ⟨rfl, h3⟩ | ⟨g, cap, cur, rfl, h4, h5, h6, _⟩
  · exact ⟨none, 0, by rw [h3], by omega⟩
  · exact ⟨_, cap, rfl, h6⟩
theorem OwnBools.cell {w : World} {B g n cap : Nat} {bs : List Bool} (h : OwnBools w B (.slice (some ⟨g, 0, none⟩) n cap) bs) (i : Nat) (hi : i < bs.length) : w.cell? ⟨g, i, none⟩ = some (.bool (bs.getD i false)) := by
  obtain ⟨⟨_, h6⟩, _⟩ := h
  rcases h6 with ⟨h6, _⟩ | ⟨g', cap', cur, h6, _, h7, h8, h9, h10, h11⟩
  · cases h6
  · cases h6
    have e1 : (cur.toList.take (bs.length * 1))[i]? = (bs.map Value.bool)[i]? := by rw [h11]
    rw [List.getElem?_take_of_lt (by omega)] at e1
    simp only [World.cell?, h7]
    simpa [hi, List.getD_eq_getElem?_getD] using e1
theorem OwnBools.free {w : World} {B g n cap : Nat} {bs : List Bool} (h : OwnBools w B (.slice (some ⟨g, 0, none⟩) n cap) bs) (i : Nat) : w.frozen? ⟨g, i, none⟩ = false := by
  obtain ⟨⟨_, h3⟩, _⟩ := h
  rcases h3 with ⟨h3, _⟩ | ⟨g', cap', cur, h3, _, h4, _⟩
  · cases h3
  · cases h3
    simp [World.frozen?, h4]
theorem OwnBools.store {w : World} {B g n cap : Nat} {bs : List Bool} (h : OwnBools w B (.slice (some ⟨g, 0, none⟩) n cap) bs) (hn : n = bs.length) (i : Nat) (b : Bool) : OwnBools (w.setCell ⟨g, i, none⟩ (.bool b)) B (.slice (some ⟨g, 0, none⟩) n cap) (bs.set i b) := by
  subst hn
  refine ⟨?_, by simpa using h.2⟩
  have := (h.1.stored i (.bool b)).1
  simpa [List.map_set] using this
theorem make_bools {ops : Array Oper} {rest : List Oper} {o : Oper} {a : Act} {Q : Exit → Act → World → Prop} {w : World} (hg : o.guard = none) (l c : Operand)
    (hop : o.op = Op.makeSlice 96 l c) (n m : Nat) (hl : a.eval l = .int .i64 n) (hc : a.eval c = .int .i64 m) (hnm : n ≤ m) (hb : m ≤ 1000000)
    (hK : ∀ w', OwnBools w' w.heap.size (.slice (some ⟨w.heap.size, 0, none⟩) n m) (List.replicate n false) → Kept w w' → w.heap.size < w'.heap.size → wpList Tryz.prog ops Q rest (a.put o.dst (.slice (some ⟨w.heap.size, 0, none⟩) n m)) w') : wpList Tryz.prog ops Q (o :: rest) a w := by
  obtain ⟨i0, hi0, hz0, hz1, hz2⟩ := info_parts info_bool
  refine wpList_plain hg fun K hK' => ?_
  have hrun := run_make (P := Tryz.prog) w 96 4 i0 _ Tryz.underlying96 hi0 hz0 .i64 .i64 n m (by omega) (by omega) (by rw [hz2]; omega) (by omega)
  simp only [Int.toNat_natCast] at hrun
  obtain ⟨w', hw'⟩ : ∃ w', w' = w.alloc (.cells (madeCells (Value.bool false).cells (m * i0.size)) 4) := ⟨_, rfl⟩
  rw [← hw'] at hrun
  unfold Oper.wp
  simp [execOp, hop, hl, hc, hrun, Result.andThen]
  subst hw'
  refine hK' _ _ (hK _ ?_ ((Kept.refl _).alloc _) (by simp))
  refine ⟨⟨by simp, .inr ⟨w.heap.size, m, _, by simp, Nat.le_refl _, heap_alloc_new w _, by simpa using hnm, by unfold maxLen; omega, by rw [size_madeCells, hz1], ?_⟩⟩, by simp; omega⟩
  simp only [hz1]
  rw [made_one _ rfl m]
  simp [List.take_replicate, Nat.min_eq_left hnm]
theorem app_bool {ops : Array Oper} {rest : List Oper} {o : Oper} {a : Act} {Q : Exit → Act → World → Prop} {w : World} (hgd : o.guard = none) (s x : Operand)
    (ho : o.op = .call { callee := .builtin .append, args := #[s, x], argTypes := #[96, 96] }) (B : Nat) (v : Value) (bs : List Bool) (hs : a.eval s = v) (hown : OwnBools w B v bs)
    (ad : Addr) (y : Bool) (hx : a.eval x = .slice (some ad) 1 1) (hc : w.cell? ad = some (.bool y)) (hl : bs.length < 1000000) (hB : B ≤ w.heap.size)
    (h : ∀ v' w', OwnBools w' B v' (bs ++ [y]) → Below B w w' → wpList Tryz.prog ops Q rest (a.put o.dst v') w') : wpList Tryz.prog ops Q (o :: rest) a w := by
  refine app_one 96 4 _ 1 info_bool Tryz.underlying96 rfl hgd s x ho B v (bs.map .bool) hs (by simpa using hown.1) ad _ hx hc rfl (by simp; omega) (by simp [maxLen]; omega) hB ?_
  intro v' w' h2 h3 h4
  exact h v' w' ⟨by simpa using h2, by simp; omega⟩ h4
theorem bit_val (s k : Nat) (hs : s < 16777216) : (bits .and .i64 ((s : Int) / 2 ^ k) 1 == 1) = s.testBit k := by
  have e : (s : Int) / 2 ^ k = ((s / 2 ^ k : Nat) : Int) := by simp
  have hle : s / 2 ^ k ≤ s := Nat.div_le_self _ _
  rw [e, show (1 : Int) = ((1 : Nat) : Int) from rfl, and_i64 _ _ (by omega) (by omega), Nat.testBit_eq_decide_div_mod_eq, Nat.and_one_is_mod]
  rw [Bool.eq_iff_iff]
  simp
  omega
theorem bits_step (V s k : Nat) (h : k < V) : ((List.range k).map (fun i => s.testBit i) ++ List.replicate (V - k) false).set k (s.testBit k) = (List.range (k + 1)).map (fun i => s.testBit i) ++ List.replicate (V - (k + 1)) false := by
  rw [List.set_append_right _ _ (by simp), show V - k = (V - (k + 1)) + 1 by omega, List.replicate_succ, List.range_succ]
  simp
/-- One node's value, by its kind. -/
theorem nodeV_cases {kind : Int} (h : 0 ≤ kind ∧ kind ≤ 5) : kind = 0 ∨ kind = 1 ∨ kind = 2 ∨ kind = 3 ∨ kind = 4 ∨ kind = 5 := by omega
set_option maxRecDepth 100000 in
set_option maxHeartbeats 8000000 in
theorem values_any (v : Value) (f : Fm) (V T s : Nat) (w : World) (hv : NodesAt w v f.nodes) (hok : Ok f V T) (hs : s < 16777216) :
    Calls Tryz.prog 68 #[.agg #[.int .i64 V, v, .int .i64 T], .int .i64 s] w fun e w' => (∃ v', e = .returned v' ∧ OwnBools w' w.heap.size v' (valsK V s f.nodes) ∧ (f.nodes.length = 0 → ∃ g, v' = .slice (some ⟨g, 0, none⟩) V V)) ∧ Kept w w' := by
  obtain ⟨a, c, rfl, _, hl, hx⟩ := hv
  obtain ⟨n, hn⟩ : ∃ n, n = f.nodes.length := ⟨_, rfl⟩
  rw [← hn] at hl ⊢
  have hn9 : n ≤ 128 := by rw [hn]; exact hok.n128
  have hV9 := hok.v24
  obtain ⟨r, hr⟩ : ∃ r, r = valsK V s f.nodes := ⟨_, rfl⟩
  rw [← hr]
  unfold valsK at hr
  rw [← hn] at hr
  have HX := Lib.hid hx
  have HN := Lib.hid hn
  have HO := Lib.hid hok
  have HR := Lib.hid hr
  clear hx hn hok hr hl
  go_enter Tryz.func68, Tryz.ntmps68
  go_wp2_with (at_make; refine make_bools rfl _ _ rfl V (V + n) rfl (by show Value.int .i64 ((V : Int) + n) = .int .i64 ((V + n : Nat) : Int); rw [Int.natCast_add]) (by omega) (by omega) ?_; intro w3 ho3 hk3 hz3; have O3 := Lib.hid ho3; clear ho3)
  have HK3 := Lib.hid hk3
  clear hk3
  simp only [World.size_alloc] at O3 HK3 hz3 ⊢
  go_loopw [6, 24] (fun _ i wr => ∃ k : Nat, k ≤ V ∧ i = .int .i64 k ∧ Hid (OwnBools wr (w.heap.size + 1) (.slice (some ⟨w.heap.size + 1, 0, none⟩) V (V + n)) ((List.range k).map (fun i => s.testBit i) ++ List.replicate (V - k) false) ∧ Kept (w.alloc (.cells #[.int .i64 V, .slice a n c, .int .i64 T] 24)) wr)) (fun _ i _ => V - (intOf i).toNat)
  case atStart => exact ⟨0, Nat.zero_le _, rfl, Lib.hid ⟨by simpa using O3.out, HK3.out⟩⟩
  case round =>
    obtain ⟨k, hk, rfl, HI⟩ := hrel
    have hlen : V = ((List.range k).map (fun i => s.testBit i) ++ List.replicate (V - k) false).length := by simp; omega
    by_cases hlt : k < V
    · have hc0 := HI.out.1.cell k (by simp; omega)
      have hf0 := HI.out.1.free k
      have HL := Lib.hid hlen
      have HBV := Lib.hid (bit_val s k hs)
      clear hlen
      go_wp2
      go_roundw
      case rel =>
        refine ⟨k + 1, by omega, by go_num, Lib.hid ⟨?_, HI.out.2.store (by simp) _ _⟩⟩
        have h7 := HI.out.1.store HL.out k (s.testBit k)
        rw [bits_step V s k hlt, ← HBV.out] at h7
        exact h7
      case measure => simp [intOf]; omega
    · have hkV : k = V := by omega
      have h0 : valsUp V s f.nodes 0 = (List.range k).map (fun i => s.testBit i) ++ List.replicate (V - k) false := by rw [hkV]; simp [valsUp]
      have hI := HI.out
      rw [← h0] at hI
      have HI0 := Lib.hid hI
      have q0 := hI.2.cell (p := ⟨w.heap.size, 0, none⟩) (v := .int .i64 V) (by simp)
      have q1 := hI.2.cell (p := ⟨w.heap.size, 1, none⟩) (v := .slice a n c) (by simp)
      clear hI h0 hkV HI O3 HK3 hlen hz3
      go_wp2_with fail
      obtain ⟨wb, rfl⟩ : ∃ wb : World, wb = wr := ⟨_, rfl⟩
      go_loopw [5, 8, 9, 11, 12, 39, 46] (fun vv _ _ _ _ i _ wr => ∃ k : Nat, k ≤ n ∧ i = .int .i64 k ∧ OwnBools wr (w.heap.size + 1) vv (valsUp V s f.nodes k) ∧ Hid (k = 0 → vv = .slice (some ⟨w.heap.size + 1, 0, none⟩) V (V + n)) ∧ Kept (w.alloc (.cells #[.int .i64 V, .slice a n c, .int .i64 T] 24)) wr) (fun _ _ _ _ _ i _ _ => n - (intOf i).toNat)
      case atStart => exact ⟨0, Nat.zero_le _, rfl, HI0.out.1, Lib.hid fun _ => rfl, HI0.out.2⟩
      case round =>
        obtain ⟨k, hk, rfl, hO, HZ, hK⟩ := hrel
        have HO1 := Lib.hid hO
        have HK := Lib.hid hK
        have hsz := hK.size
        simp only [World.size_alloc] at hsz
        by_cases hlt : k < n
        · have hkx : k < f.nodes.length := by have := HN.out; omega
          obtain ⟨b, o, rfl, u, hc1, hc2, hc3, hI⟩ := HX.out k hkx
          have hkA : Kept w wr := ((Kept.refl w).alloc _).trans hK
          have hrange := node_range (hkA.cell hc1) (hkA.cell hc2) (hkA.cell hc3)
          obtain ⟨ax, cx, rfl, _, hlx, hcx⟩ := hI
          have hargs := HO.out.args k hkx
          have h16 := argsOk_le (HO.out.argc k hkx)
          have hkind := HO.out.kind k hkx
          have hstep : valsUp V s f.nodes (k + 1) = valsUp V s f.nodes k ++ [nodeV f.nodes[k].kind f.nodes[k].k (trueN (valsUp V s f.nodes k) f.nodes[k].args) f.nodes[k].args.length] := by
            show valsUp V s f.nodes k ++ [nodeV (f.nodes.getD k noNd).kind (f.nodes.getD k noNd).k (trueN (valsUp V s f.nodes k) (f.nodes.getD k noNd).args) (f.nodes.getD k noNd).args.length] = _
            rw [show f.nodes.getD k noNd = f.nodes[k] by simp [List.getD_eq_getElem?_getD, hkx]]
          have hvl := len_valsUp V s f.nodes k
          obtain ⟨kd, hkd⟩ : ∃ x, x = f.nodes[k].kind := ⟨_, rfl⟩
          obtain ⟨kk, hkk⟩ : ∃ x, x = f.nodes[k].k := ⟨_, rfl⟩
          obtain ⟨args, hag⟩ : ∃ x, x = f.nodes[k].args := ⟨_, rfl⟩
          rw [← hag] at hcx hargs hlx h16 hstep hrange
          rw [← hkd] at hkind hstep hrange
          rw [← hkk] at hstep hrange
          obtain ⟨na, hna⟩ : ∃ x, x = args.length := ⟨_, rfl⟩
          rw [← hna] at hlx h16 hstep hrange
          obtain ⟨vals, hvals⟩ : ∃ x, x = valsUp V s f.nodes k := ⟨_, rfl⟩
          rw [← hvals] at hstep hvl HO1
          have HRG := Lib.hid hrange
          have HCX := Lib.hid hcx
          have HAR := Lib.hid hargs
          have HNA := Lib.hid hna
          have HST := Lib.hid hstep
          have HVL := Lib.hid hvl
          have HKA := Lib.hid hkA
          have hlw : w.heap.size < wr.heap.size := by omega
          obtain ⟨sa, sc, rfl, hscap⟩ := HO1.out.slice
          rw [hvl] at HO1 hscap ⊢
          clear hc1 hc2 hc3 hrange hcx hargs hna hstep hvl hkA hkd hkk hag hvals hO hK hlx
          go_wp2_with (with_reducible refine wpList_load_mid rfl 80 _ rfl b (o + k * 3) rfl _ _ HRG.out Tryz.underlying80 rfl (by kernel_rfl) ?_)
          obtain ⟨wo, rfl⟩ : ∃ wo : World, wo = wr := ⟨_, rfl⟩
          go_loop [9, 11, 46] (fun tn _ j => ∃ p : Nat, p ≤ na ∧ j = .int .i64 p ∧ tn = .int .i64 (trueN vals (args.take p) : Nat)) (fun _ _ j => na - (intOf j).toNat)
          case atStart => exact ⟨0, Nat.zero_le _, rfl, rfl⟩
          case round =>
            obtain ⟨p, hp, rfl, rfl⟩ := hrel
            have ht16 : trueN vals (args.take p) ≤ 16 := by have := trueN_le vals (args.take p); simp at this; omega
            by_cases hpn : p < na
            · have hpx : p < args.length := by have := HNA.out; omega
              obtain ⟨b2, o2, rfl, hc0⟩ := HCX.out p hpx
              have hcell := ((HKA.out).alloc (.cells #[.int .i64 kd, .int .i64 kk, .slice (some ⟨b2, o2, none⟩) na cx] 80)).cell hc0
              obtain ⟨y, hy⟩ : ∃ y, y = args[p] := ⟨_, rfl⟩
              have hy2 := HAR.out args[p] (List.getElem_mem _)
              have hst : trueN vals (args.take (p + 1)) = trueN vals (args.take p) + (vals.getD args[p].toNat false).toNat := by
                rw [List.take_succ_eq_append_getElem hpx, trueN_append]
                simp only [trueN]
                cases vals.getD args[p].toNat false <;> rfl
              rw [← hy] at hcell hy2 hst
              obtain ⟨Y, hY⟩ := Int.eq_ofNat_of_zero_le hy2.1
              subst hY
              simp only [Int.toNat_natCast] at hst
              have HO2 := HO1.out
              obtain ⟨g, cap, hge, hg1, hg2, _⟩ := HO2.shape (by intro e; have := HVL.out; rw [e] at this; simp at this; omega)
              injection hge with h1 h2 h3
              subst h1 h3
              have hcv := (((HO1.out).kept ((Kept.refl _).alloc (.cells #[.int .i64 kd, .int .i64 kk, .slice (some ⟨b2, o2, none⟩) na cx] 80))).cell Y (by have := HVL.out; omega))
              have hYl : (Y : Int) < ((V + k : Nat) : Int) := by omega
              have hYl2 : (Y : Int) < (V : Int) + (k : Int) := by omega
              obtain ⟨tq, htq⟩ : ∃ x, x = trueN vals (args.take p) := ⟨_, rfl⟩
              rw [← htq] at hst ht16 ⊢
              have HST2 := Lib.hid hst
              clear hc0 hy hst htq HO2 hg1 hg2
              cases hb : vals.getD Y false with
              | true =>
                rw [hb] at hcv
                have HB := Lib.hid hb
                clear hb
                go_wp2
                go_round
                case rel => exact ⟨p + 1, by omega, by go_num, by rw [HST2.out, HB.out]; rfl⟩
                case measure => simp [intOf]; omega
              | false =>
                rw [hb] at hcv
                have HB := Lib.hid hb
                clear hb
                go_wp2
                go_round
                case rel => exact ⟨p + 1, by omega, by go_num, by rw [HST2.out, HB.out]; rfl⟩
                case measure => simp [intOf]; omega
            · have hpe : args.take p = args := List.take_of_length_le (by have := HNA.out; omega)
              rw [hpe] at ht16 ⊢
              obtain ⟨tq, htq⟩ : ∃ x, x = trueN vals args := ⟨_, rfl⟩
              have hstep := HST.out
              rw [← htq] at hstep ht16 ⊢
              have HST2 := Lib.hid hstep
              clear hpe htq hstep
              have hcn := (((Kept.refl wo).alloc (.cells #[.int .i64 kd, .int .i64 kk, .slice ax na cx] 80)))
              have HCN := Lib.hid hcn
              clear hcn
              rcases nodeV_cases hkind with rfl | rfl | rfl | rfl | rfl | rfl
              · have HE : Hid (nodeV 0 kk tq na = (kk == 1)) := Lib.hid rfl
                go_wp2_with (at_builtin; refine app_bool rfl _ _ rfl (w.heap.size + 1) _ vals rfl (HO1.out.kept (HCN.out.alloc _)) _ (kk == 1) rfl (by simp) (by have := HVL.out; omega) (by simp; omega) ?_; intro v7 w7 hown7 hb7; have O7 := Lib.hid hown7; have HB7 := Lib.hid hb7; clear hown7 hb7)
                go_roundw
                case rel => exact ⟨k + 1, by omega, by go_num, by rw [HST2.out, HE.out]; exact O7.out, Lib.hid (fun h => by omega), (HK.out.trans (HCN.out.alloc _)).app (HB7.out.mono (by simp))⟩
                case measure => simp [intOf]; omega
              · have HE : Hid (nodeV 1 kk tq na = ((tq : Int) == 0)) := Lib.hid (by show (tq == 0) = _; rw [Bool.eq_iff_iff]; simp)
                go_wp2_with (at_builtin; refine app_bool rfl _ _ rfl (w.heap.size + 1) _ vals rfl (HO1.out.kept (HCN.out.alloc _)) _ ((tq : Int) == 0) rfl (by simp) (by have := HVL.out; omega) (by simp; omega) ?_; intro v7 w7 hown7 hb7; have O7 := Lib.hid hown7; have HB7 := Lib.hid hb7; clear hown7 hb7)
                go_roundw
                case rel => exact ⟨k + 1, by omega, by go_num, by rw [HST2.out, HE.out]; exact O7.out, Lib.hid (fun h => by omega), (HK.out.trans (HCN.out.alloc _)).app (HB7.out.mono (by simp))⟩
                case measure => simp [intOf]; omega
              · have HE : Hid (nodeV 2 kk tq na = ((tq : Int) == (na : Int))) := Lib.hid (by show (tq == na) = _; rw [Bool.eq_iff_iff]; simp; omega)
                go_wp2_with (at_builtin; refine app_bool rfl _ _ rfl (w.heap.size + 1) _ vals rfl (HO1.out.kept (HCN.out.alloc _)) _ ((tq : Int) == (na : Int)) rfl (by simp) (by have := HVL.out; omega) (by simp; omega) ?_; intro v7 w7 hown7 hb7; have O7 := Lib.hid hown7; have HB7 := Lib.hid hb7; clear hown7 hb7)
                go_roundw
                case rel => exact ⟨k + 1, by omega, by go_num, by rw [HST2.out, HE.out]; exact O7.out, Lib.hid (fun h => by omega), (HK.out.trans (HCN.out.alloc _)).app (HB7.out.mono (by simp))⟩
                case measure => simp [intOf]; omega
              · have HE : Hid (nodeV 3 kk tq na = (decide (0 < (tq : Int)))) := Lib.hid (by show decide (0 < tq) = _; rw [Bool.eq_iff_iff]; simp)
                go_wp2_with (at_builtin; refine app_bool rfl _ _ rfl (w.heap.size + 1) _ vals rfl (HO1.out.kept (HCN.out.alloc _)) _ (decide (0 < (tq : Int))) rfl (by simp) (by have := HVL.out; omega) (by simp; omega) ?_; intro v7 w7 hown7 hb7; have O7 := Lib.hid hown7; have HB7 := Lib.hid hb7; clear hown7 hb7)
                go_roundw
                case rel => exact ⟨k + 1, by omega, by go_num, by rw [HST2.out, HE.out]; exact O7.out, Lib.hid (fun h => by omega), (HK.out.trans (HCN.out.alloc _)).app (HB7.out.mono (by simp))⟩
                case measure => simp [intOf]; omega
              · have HE : Hid (nodeV 4 kk tq na = (decide (kk ≤ (tq : Int)))) := Lib.hid rfl
                go_wp2_with (at_builtin; refine app_bool rfl _ _ rfl (w.heap.size + 1) _ vals rfl (HO1.out.kept (HCN.out.alloc _)) _ (decide (kk ≤ (tq : Int))) rfl (by simp) (by have := HVL.out; omega) (by simp; omega) ?_; intro v7 w7 hown7 hb7; have O7 := Lib.hid hown7; have HB7 := Lib.hid hb7; clear hown7 hb7)
                go_roundw
                case rel => exact ⟨k + 1, by omega, by go_num, by rw [HST2.out, HE.out]; exact O7.out, Lib.hid (fun h => by omega), (HK.out.trans (HCN.out.alloc _)).app (HB7.out.mono (by simp))⟩
                case measure => simp [intOf]; omega
              · have HE : Hid (nodeV 5 kk tq na = ((tq : Int) % 2 == 1)) := Lib.hid (by show (tq % 2 == 1) = _; rw [Bool.eq_iff_iff]; simp; omega)
                go_wp2_with (at_builtin; refine app_bool rfl _ _ rfl (w.heap.size + 1) _ vals rfl (HO1.out.kept (HCN.out.alloc _)) _ ((tq : Int) % 2 == 1) rfl (by simp) (by have := HVL.out; omega) (by simp; omega) ?_; intro v7 w7 hown7 hb7; have O7 := Lib.hid hown7; have HB7 := Lib.hid hb7; clear hown7 hb7)
                go_roundw
                case rel => exact ⟨k + 1, by omega, by go_num, by rw [HST2.out, HE.out]; exact O7.out, Lib.hid (fun h => by omega), (HK.out.trans (HCN.out.alloc _)).app (HB7.out.mono (by simp))⟩
                case measure => simp [intOf]; omega
        · have hkn : k = n := by omega
          have hrr : r = valsUp V s f.nodes k := by rw [HR.out, hkn]
          have HRR := Lib.hid hrr
          obtain ⟨sa, sc, rfl, _⟩ := HO1.out.slice
          clear hkn hrr hO hK
          go_wp2
          go_ret
          exact ⟨⟨_, rfl, by rw [HRR.out]; exact HO1.out.mono (by omega), fun h0 => by
            have hn0 : n = 0 := h0
            have hz := HZ.out (by omega)
            exact ⟨_, by rw [hn0] at hz; exact hz⟩⟩, ((Kept.refl _).alloc _).trans HK.out⟩
end Go.Proofs.YthiemjodcklejaaGreatDoor

/-
  Walks: formula.check, Value, Values; slices.Clone at []bool.
-/
namespace Go.Proofs.YthiemjodcklejaaGreatDoor
open Go.RowKit

theorem shlW (V : Nat) (h : V ≤ 24) : wrap64 ((2 : Int) ^ V) = ((2 ^ V : Nat) : Int) := by
  have h1 : (2 : Nat) ^ V ≤ 2 ^ 24 := Nat.pow_le_pow_right (by omega) h
  rw [show (2 : Int) ^ V = ((2 ^ V : Nat) : Int) by simp]
  generalize (2 : Nat) ^ V = z at h1 ⊢
  unfold wrap64; omega
theorem lt_pow24 {V s : Nat} (h : V ≤ 24) (hs : s < 2 ^ V) : s < 16777216 := Nat.lt_of_lt_of_le hs (Nat.pow_le_pow_right (by omega) h : 2 ^ V ≤ 2 ^ 24)
/-- Bools that can be read. -/
def BoolsAt (w : World) (v : Value) (bs : List Bool) : Prop :=
  ∃ (a : Option Addr) (c : Nat), v = .slice a bs.length c ∧ bs.length ≤ c ∧ bs.length ≤ 1000000 ∧ ∀ i (_ : i < bs.length), ∃ b o, a = some ⟨b, o, none⟩ ∧ w.cell? ⟨b, o + i, none⟩ = some (.bool (bs.getD i false))
set_option maxRecDepth 100000 in
theorem fmcheck_ok (v : Value) (f : Fm) (V T s : Nat) (w : World) (hv : NodesAt w v f.nodes) (hok : Ok f V T) (hck : chkF f = 0) (hs : s < 2 ^ V) :
    Calls Tryz.prog 67 #[.agg #[.int .i64 V, v, .int .i64 T], .int .i64 s] w fun e w' => e = .returned .nilIface ∧ Kept w w' := by
  have hT := hok.tlt
  have hn := hok.n128
  have hV := hok.v24
  have hfm : fmV v f = .agg #[.int .i64 V, v, .int .i64 T] := by unfold fmV; rw [hok.vars, hok.top]
  have H : Hid (∀ W, Kept w W → Calls Tryz.prog 20 #[.agg #[.int .i64 V, v, .int .i64 T]] W fun e w' => e = .returned .nilIface ∧ Kept W w') := Lib.hid fun W hk => by
    have := check_any v f W (hv.kept hk) (by rw [hok.top]; omega)
    rw [hck, hfm] at this
    exact this
  obtain ⟨a, c, rfl, _⟩ := hv
  have e1 := shlW V hV
  have e2 : ¬ ((2 ^ V : Nat) : Int) ≤ (s : Int) := by omega
  have e3 : (s : Int) < ((2 ^ V : Nat) : Int) := by omega
  obtain ⟨z, hz⟩ : ∃ z, z = 2 ^ V := ⟨_, rfl⟩
  rw [← hz] at e1 e2 e3
  have b1 : decide ((s : Int) < 0) = false := by simp
  have b2 : decide ((z : Int) ≤ (s : Int)) = false := by simpa using e2
  clear hs hok hck hfm hz hT hn
  go_enter Tryz.func67, Tryz.ntmps67
  go_wp2_with fail
  refine (H.out _ ((Kept.refl _).alloc _)).mono ?_
  rintro e w1 ⟨rfl, hk1⟩
  have c0 := hk1.cell (p := ⟨w.heap.size, 0, none⟩) (v := .int .i64 V) (by simp)
  go_wp2
  go_ret
  exact ⟨rfl, ((Kept.refl _).alloc _).trans hk1⟩
set_option maxRecDepth 100000 in
set_option maxHeartbeats 2000000 in
theorem value_any (v : Value) (f : Fm) (V T s : Nat) (w : World) (hv : NodesAt w v f.nodes) (hok : Ok f V T) (hck : chkF f = 0) (hs : s < 2 ^ V) :
    Calls Tryz.prog 23 #[.agg #[.int .i64 V, v, .int .i64 T], .int .i64 s] w fun e w' => e = .returned (.tuple #[.bool ((valsK V s f.nodes).getD T false), .nilIface]) ∧ Kept w w' := by
  have HC : Hid (∀ W, Kept w W → Calls Tryz.prog 67 #[.agg #[.int .i64 V, v, .int .i64 T], .int .i64 s] W fun e w' => e = .returned .nilIface ∧ Kept W w') := Lib.hid fun W hk => fmcheck_ok v f V T s W (hv.kept hk) hok hck hs
  have HV : Hid (∀ W, Kept w W → Calls Tryz.prog 68 #[.agg #[.int .i64 V, v, .int .i64 T], .int .i64 s] W fun e w' => (∃ v', e = .returned v' ∧ OwnBools w' W.heap.size v' (valsK V s f.nodes)) ∧ Kept W w') := Lib.hid fun W hk => (values_any v f V T s W (hv.kept hk) hok (lt_pow24 hok.v24 hs)).mono fun _ _ ⟨⟨v', h1, h2, _⟩, h3⟩ => ⟨⟨v', h1, h2⟩, h3⟩
  have hT := hok.tlt
  have hn := hok.n128
  have hV := hok.v24
  have hlen : (valsK V s f.nodes).length = V + f.nodes.length := len_valsUp V s f.nodes f.nodes.length
  obtain ⟨vals, hvals⟩ : ∃ x, x = valsK V s f.nodes := ⟨_, rfl⟩
  rw [← hvals] at HV hlen ⊢
  have HL := Lib.hid hlen
  obtain ⟨a, c, rfl, _⟩ := hv
  obtain ⟨n, hnn⟩ : ∃ n, n = f.nodes.length := ⟨_, rfl⟩
  rw [← hnn] at HL hT hn HC HV ⊢
  have hT1 : (T : Int) < ((V + n : Nat) : Int) := by omega
  have hT2 : (T : Int) < (V : Int) + (n : Int) := by omega
  clear hs hok hck hvals hlen hnn
  go_enter Tryz.func23, Tryz.ntmps23
  go_wp2_with fail
  refine (HC.out _ ((Kept.refl _).alloc _)).mono ?_
  rintro e w1 ⟨rfl, hk1⟩
  have K1 := Lib.hid hk1
  have c0 := hk1.cell (p := ⟨w.heap.size, 0, none⟩) (v := .int .i64 V) (by simp)
  have c1 := hk1.cell (p := ⟨w.heap.size, 1, none⟩) (v := .slice a n c) (by simp)
  have c2 := hk1.cell (p := ⟨w.heap.size, 2, none⟩) (v := .int .i64 T) (by simp)
  clear hk1
  go_wp2_with fail
  go_region_with (go_at_call 68; refine (HV.out _ ((((Kept.refl _).alloc _).trans K1.out).trans (Kept.refl _).drew)).mono ?_; rintro e w5 ⟨⟨v5, rfl, hv5⟩, hk5⟩; obtain ⟨g5, c5, rfl, _, _, _⟩ := hv5.shape (by intro e; have := HL.out; rw [e] at this; simp at this; omega); have hc5 := hv5.cell T (by have := HL.out; omega); rw [HL.out]; have d0 := hk5.cell c0; have d1 := hk5.cell c1; have d2 := hk5.cell c2)
  all_goals (go_wp2_with fail)
  all_goals go_ret2
  all_goals exact ⟨rfl, (((Kept.refl _).alloc _).trans K1.out).trans ((Kept.refl _).drew.trans hk5)⟩
end Go.Proofs.YthiemjodcklejaaGreatDoor

/-
  Plain: numbers as lists of words of 32 bits, the lowest first.
-/
namespace Go.Proofs.YthiemjodcklejaaGreatDoor

/-- The number of a list of words. -/
def nv : List Nat → Nat
  | [] => 0
  | x :: l => x + 4294967296 * nv l
/-- The words of a number, without zeros at the end. -/
def nw (n : Nat) : List Nat := if h : n = 0 then [] else n % 4294967296 :: nw (n / 4294967296)
termination_by n
decreasing_by exact Nat.div_lt_self (by omega) (by omega)
/-- All are words. -/
def Wd (l : List Nat) : Prop := ∀ x ∈ l, x < 4294967296
theorem Wd.nil : Wd [] := fun x h => by simp at h
theorem Wd.cons {x : Nat} {l : List Nat} (h : x < 4294967296) (k : Wd l) : Wd (x :: l) := fun y hy => (List.mem_cons.1 hy).elim (fun e => by rw [e]; exact h) (k y)
theorem Wd.tail {x : Nat} {l : List Nat} (h : Wd (x :: l)) : Wd l := fun y hy => h y (List.mem_cons_of_mem _ hy)
theorem Wd.head {x : Nat} {l : List Nat} (h : Wd (x :: l)) : x < 4294967296 := h x (List.mem_cons_self ..)
theorem Wd.take {l : List Nat} (h : Wd l) (n : Nat) : Wd (l.take n) := fun y hy => h y (List.mem_of_mem_take hy)
theorem Wd.drop {l : List Nat} (h : Wd l) (n : Nat) : Wd (l.drop n) := fun y hy => h y (List.mem_of_mem_drop hy)
theorem Wd.app {a b : List Nat} (h : Wd a) (k : Wd b) : Wd (a ++ b) := fun y hy => (List.mem_append.1 hy).elim (h y) (k y)
theorem Wd.set {l : List Nat} (h : Wd l) (i x : Nat) (hx : x < 4294967296) : Wd (l.set i x) := fun y hy => (List.mem_or_eq_of_mem_set hy).elim (h y) (fun e => by rw [e]; exact hx)
theorem Wd.getD {l : List Nat} (h : Wd l) (i : Nat) : l.getD i 0 < 4294967296 := by
  rw [List.getD_eq_getElem?_getD]
  cases hi : l[i]? with
  | none => simp
  | some x => simpa using h x (List.mem_of_getElem? hi)
theorem Wd.zeros (n : Nat) : Wd (List.replicate n 0) := fun y hy => by have := List.eq_of_mem_replicate hy; omega
theorem nv_nil : nv [] = 0 := rfl
theorem nv_cons (x : Nat) (l : List Nat) : nv (x :: l) = x + 4294967296 * nv l := rfl
theorem nv_append (a b : List Nat) : nv (a ++ b) = nv a + 4294967296 ^ a.length * nv b := by
  induction a with
  | nil => simp [nv]
  | cons x a ih => rw [List.cons_append, nv_cons, nv_cons, ih, List.length_cons, Nat.pow_succ, Nat.mul_add, ← Nat.mul_assoc, Nat.mul_comm 4294967296 (4294967296 ^ a.length)]; omega
theorem nv_lt {a : List Nat} (h : Wd a) : nv a < 4294967296 ^ a.length := by
  induction a with
  | nil => simp [nv]
  | cons x a ih =>
    have h1 := ih h.tail
    have h2 := h.head
    rw [nv_cons, List.length_cons, Nat.pow_succ]
    omega
theorem nv_zeros (n : Nat) : nv (List.replicate n 0) = 0 := by
  induction n with
  | zero => rfl
  | succ n ih => rw [List.replicate_succ, nv_cons, ih]
theorem nv_take_succ (a : List Nat) (i : Nat) : nv (a.take (i + 1)) = nv (a.take i) + a.getD i 0 * 4294967296 ^ i := by
  by_cases h : i < a.length
  · rw [List.take_succ_eq_append_getElem h, nv_append, nv_cons, nv_nil, List.length_take, Nat.min_eq_left (Nat.le_of_lt h), Nat.mul_comm]
    simp [List.getD_eq_getElem?_getD, h]
  · rw [List.take_of_length_le (by omega), List.take_of_length_le (by omega)]
    simp [List.getD_eq_getElem?_getD, Nat.le_of_not_lt h]
theorem nv_take_all (a : List Nat) (i : Nat) (h : a.length ≤ i) : nv (a.take i) = nv a := by rw [List.take_of_length_le h]
theorem nv_split (a : List Nat) (i : Nat) (h : i ≤ a.length) : nv a = nv (a.take i) + 4294967296 ^ i * nv (a.drop i) := by
  conv => lhs; rw [← List.take_append_drop i a]
  rw [nv_append, List.length_take, Nat.min_eq_left h]
theorem nv_set (l : List Nat) : ∀ (i x : Nat), i < l.length → nv (l.set i x) + l.getD i 0 * 4294967296 ^ i = nv l + x * 4294967296 ^ i := by
  induction l with
  | nil => intro i x h; simp at h
  | cons y l ih =>
    intro i x h
    cases i with
    | zero => simp [nv_cons]; omega
    | succ i =>
      have := ih i x (by simpa using h)
      rw [List.set_cons_succ, nv_cons, nv_cons, List.getD_cons_succ, Nat.pow_succ, ← Nat.mul_assoc, ← Nat.mul_assoc, Nat.mul_comm _ 4294967296, Nat.mul_comm (x * _) 4294967296]
      omega
theorem nw_zero : nw 0 = [] := by rw [nw]; simp
theorem nw_pos {n : Nat} (h : n ≠ 0) : nw n = n % 4294967296 :: nw (n / 4294967296) := by rw [nw]; simp [h]
theorem nw_wd : ∀ n, Wd (nw n) := by
  intro n
  induction n using Nat.strongRecOn with
  | _ n ih =>
    by_cases h : n = 0
    · subst h; rw [nw_zero]; exact Wd.nil
    · rw [nw_pos h]; exact Wd.cons (Nat.mod_lt _ (by omega)) (ih _ (Nat.div_lt_self (by omega) (by omega)))
theorem nv_nw : ∀ n, nv (nw n) = n := by
  intro n
  induction n using Nat.strongRecOn with
  | _ n ih =>
    by_cases h : n = 0
    · subst h; rw [nw_zero]; rfl
    · rw [nw_pos h, nv_cons, ih _ (Nat.div_lt_self (by omega) (by omega))]; omega
/-- No zero at the end. -/
def Pl (l : List Nat) : Prop := ∀ h : l ≠ [], l.getLast h ≠ 0
theorem nw_nv : ∀ {l : List Nat}, Wd l → Pl l → nw (nv l) = l := by
  intro l
  induction l with
  | nil => intro _ _; exact nw_zero
  | cons x l ih =>
    intro hw hp
    have hx := hw.head
    have hne : nv (x :: l) ≠ 0 := by
      rw [nv_cons]
      by_cases hl : l = []
      · subst hl
        have := hp (by simp)
        simp at this
        rw [nv_nil]; omega
      · intro h0
        have h1 : nv l = 0 := by omega
        have h2 := ih hw.tail (fun h => by have := hp (by simp); rwa [List.getLast_cons h] at this)
        rw [h1, nw_zero] at h2
        exact hl h2.symm
    rw [nw_pos hne, nv_cons]
    have e1 : (x + 4294967296 * nv l) % 4294967296 = x := by omega
    have e2 : (x + 4294967296 * nv l) / 4294967296 = nv l := by omega
    rw [e1, e2, ih hw.tail fun h => by have := hp (by simp); rwa [List.getLast_cons h] at this]
theorem nw_pl (n : Nat) : Pl (nw n) := by
  induction n using Nat.strongRecOn with
  | _ n ih =>
    by_cases h : n = 0
    · subst h; rw [nw_zero]; intro h; exact absurd rfl h
    · rw [nw_pos h]
      intro _
      have h2 := ih (n / 4294967296) (Nat.div_lt_self (by omega) (by omega))
      by_cases h3 : nw (n / 4294967296) = []
      · have h4 : n / 4294967296 = 0 := by have := nv_nw (n / 4294967296); rw [h3] at this; exact this.symm
        simp [h3]; omega
      · rw [List.getLast_cons h3]; exact h2 h3
/-- The words of a list up to its last word that is not zero. -/
theorem nw_take {a : List Nat} (hw : Wd a) {n : Nat} (hn : n ≤ a.length) (hz : ∀ i, n ≤ i → a.getD i 0 = 0) (hl : n = 0 ∨ a.getD (n - 1) 0 ≠ 0) : nw (nv a) = a.take n := by
  have h1 : nv a = nv (a.take n) := by
    have : ∀ k, nv (a.take (n + k)) = nv (a.take n) := by
      intro k
      induction k with
      | zero => rfl
      | succ k ih => rw [← Nat.add_assoc, nv_take_succ, ih, hz (n + k) (by omega), Nat.zero_mul, Nat.add_zero]
    have h2 := this a.length
    rw [nv_take_all a _ (by omega)] at h2
    exact h2
  rw [h1]
  refine nw_nv (hw.take n) fun h => ?_
  have hpos : 0 < n := by
    rcases Nat.eq_zero_or_pos n with rfl | h2
    · simp at h
    · exact h2
  have := hl.resolve_left (by omega)
  rw [List.getLast_eq_getElem]
  simp only [List.getElem_take, List.length_take, Nat.min_eq_left hn]
  rw [List.getD_eq_getElem?_getD, List.getElem?_eq_getElem (by omega)] at this
  simpa using this
theorem nw_len_lt {n k : Nat} : (nw n).length ≤ k ↔ n < 4294967296 ^ k := by
  constructor
  · intro h
    have h1 := nv_lt (nw_wd n)
    rw [nv_nw] at h1
    exact Nat.lt_of_lt_of_le h1 (Nat.pow_le_pow_right (by omega) h)
  · intro h
    induction k generalizing n with
    | zero => simp at h; subst h; rw [nw_zero]; simp
    | succ k ih =>
      by_cases h0 : n = 0
      · subst h0; rw [nw_zero]; simp
      · rw [nw_pos h0, List.length_cons]
        have := ih (n := n / 4294967296) (by rw [Nat.pow_succ] at h; exact Nat.div_lt_of_lt_mul (by rw [Nat.mul_comm]; exact h))
        omega
theorem nw_eq_nil {n : Nat} : nw n = [] ↔ n = 0 := by
  constructor
  · intro h; have := nv_nw n; rw [h] at this; exact this.symm
  · intro h; rw [h]; exact nw_zero
/-- The highest word that differs decides. -/
theorem nv_lt_at {a b : List Nat} (ha : Wd a) (hl : a.length = b.length) {k : Nat} (hk : k < a.length) (hd : ∀ i, k < i → a.getD i 0 = b.getD i 0) (hlt : a.getD k 0 < b.getD k 0) : nv a < nv b := by
  have key : ∀ j, nv (a.take (k + 1 + j)) < nv (b.take (k + 1 + j)) := by
    intro j
    induction j with
    | zero =>
      rw [Nat.add_zero, nv_take_succ, nv_take_succ]
      have h1 := nv_lt (ha.take k)
      rw [List.length_take, Nat.min_eq_left (Nat.le_of_lt hk)] at h1
      have h2 : (a.getD k 0 + 1) * 4294967296 ^ k ≤ b.getD k 0 * 4294967296 ^ k := Nat.mul_le_mul_right _ hlt
      rw [Nat.add_mul, Nat.one_mul] at h2
      omega
    | succ j ih =>
      rw [← Nat.add_assoc, nv_take_succ, nv_take_succ, hd (k + 1 + j) (by omega)]
      omega
  have := key a.length
  rwa [nv_take_all a _ (by omega), nv_take_all b _ (by omega)] at this
theorem nv_eq_of {a b : List Nat} (hl : a.length = b.length) (hd : ∀ i, a.getD i 0 = b.getD i 0) : a = b := by
  refine List.ext_getElem hl fun i h1 h2 => ?_
  have := hd i
  simpa [List.getD_eq_getElem?_getD, h1, h2] using this
/-- Fewer words, less. -/
theorem nw_lt_len {m n : Nat} (h : (nw m).length < (nw n).length) : m < n := by
  have h1 := (nw_len_lt (n := m)).1 (Nat.le_refl _)
  have h2 : ¬ n < 4294967296 ^ (nw m).length := fun h2 => by have := nw_len_lt.2 h2; omega
  omega
end Go.Proofs.YthiemjodcklejaaGreatDoor

/-
  Plain: the steps of sums, differences, products and quotients of lists of words.
-/
namespace Go.Proofs.YthiemjodcklejaaGreatDoor

theorem mul_divmod (s P : Nat) : (s % 4294967296) * P + (s / 4294967296) * (4294967296 * P) = s * P := by
  have h := Nat.div_add_mod s 4294967296
  calc (s % 4294967296) * P + (s / 4294967296) * (4294967296 * P) = (4294967296 * (s / 4294967296) + s % 4294967296) * P := by
        rw [Nat.add_mul, Nat.mul_comm 4294967296 (s / 4294967296), Nat.mul_assoc]; omega
    _ = s * P := by rw [h]
theorem nv_take_set {l : List Nat} {i : Nat} (h : i < l.length) (x : Nat) : nv ((l.set i x).take (i + 1)) = nv (l.take i) + x * 4294967296 ^ i := by
  rw [nv_take_succ, List.take_set_of_le (Nat.le_refl _)]
  simp [List.getD_eq_getElem?_getD, h]
theorem getD_set_self {l : List Nat} {i : Nat} (h : i < l.length) (x : Nat) : (l.set i x).getD i 0 = x := by simp [List.getD_eq_getElem?_getD, h]
theorem getD_set_ne {l : List Nat} {i j : Nat} (h : i ≠ j) (x : Nat) : (l.set i x).getD j 0 = l.getD j 0 := by simp [List.getD_eq_getElem?_getD, List.getElem?_set_ne h]
theorem wadd_step {O c X Y x y P s : Nat} (h : O + c * P = X + Y) (hs : s = c + x + y) : (O + (s % 4294967296) * P) + (s / 4294967296) * (4294967296 * P) = (X + x * P) + (Y + y * P) := by
  have h1 := mul_divmod s P
  have h2 : s * P = c * P + x * P + y * P := by rw [hs, Nat.add_mul, Nat.add_mul]
  omega
/-- A difference of words, with a borrow. -/
theorem sub_step {O b X Y x y P o b' : Nat} (h : O + Y = X + b * P) (hs : o + y + b = x + b' * 4294967296) : (O + o * P) + (Y + y * P) = (X + x * P) + b' * (4294967296 * P) := by
  have h2 : (o + y + b) * P = (x + b' * 4294967296) * P := by rw [hs]
  rw [Nat.add_mul, Nat.add_mul, Nat.add_mul, Nat.mul_assoc] at h2
  omega
theorem nv_zero_of {l : List Nat} (h : nv l = 0) : ∀ i, l.getD i 0 = 0 := by
  induction l with
  | nil => simp
  | cons x l ih =>
    rw [nv_cons] at h
    intro i
    cases i with
    | zero => rw [List.getD_cons_zero]; omega
    | succ i => rw [List.getD_cons_succ]; exact ih (by omega) i
theorem getD_drop (l : List Nat) (k i : Nat) : (l.drop k).getD i 0 = l.getD (k + i) 0 := by simp [List.getD_eq_getElem?_getD]
theorem getD_take {l : List Nat} {k i : Nat} (h : i < k) : (l.take k).getD i 0 = l.getD i 0 := by simp [List.getD_eq_getElem?_getD, List.getElem?_take_of_lt h]
/-- A number of few words has zeros behind them. -/
theorem zero_above {l : List Nat} {k : Nat} (h : nv l < 4294967296 ^ k) : (∀ j, k ≤ j → l.getD j 0 = 0) ∧ nv (l.take k) = nv l := by
  by_cases hk : k ≤ l.length
  · have h1 := nv_split l k hk
    have h2 : nv (l.drop k) = 0 := by
      rcases Nat.eq_zero_or_pos (nv (l.drop k)) with h3 | h3
      · exact h3
      · have : 4294967296 ^ k * 1 ≤ 4294967296 ^ k * nv (l.drop k) := Nat.mul_le_mul_left _ h3
        omega
    refine ⟨fun j hj => ?_, by rw [h1, h2]; omega⟩
    have := nv_zero_of h2 (j - k)
    rwa [getD_drop, Nat.add_sub_cancel' hj] at this
  · refine ⟨fun j hj => ?_, nv_take_all _ _ (by omega)⟩
    simp [List.getD_eq_getElem?_getD, show l.length ≤ j by omega]
/-- A step of a product's row. -/
theorem mul_step {N c M x Y P y w s : Nat} (h : N + c * P = M + x * Y) (hs : s = c + x * y + w) : ∀ N', N' + w * P = N + (s % 4294967296) * P → N' + (s / 4294967296) * (4294967296 * P) = M + x * (Y + y * P) := by
  intro N' hN
  have h1 := mul_divmod s P
  have h2 : s * P = c * P + x * (y * P) + w * P := by rw [hs, Nat.add_mul, Nat.add_mul, Nat.mul_assoc]
  rw [Nat.mul_add]
  omega
theorem mul_carry {c x y w : Nat} (hc : c < 4294967296) (hx : x < 4294967296) (hy : y < 4294967296) (hw : w < 4294967296) : c + x * y + w < 18446744073709551616 := by
  have : x * y ≤ 4294967295 * 4294967295 := Nat.mul_le_mul (by omega) (by omega)
  omega
/-- Quotient and remainder. -/
theorem div_of {a b q r : Nat} (h : a = b * q + r) (hr : r < b) : a / b = q ∧ a % b = r := by
  subst h
  constructor
  · rw [Nat.mul_add_div (by omega), Nat.div_eq_of_lt hr, Nat.add_zero]
  · rw [Nat.mul_add_mod, Nat.mod_eq_of_lt hr]
theorem nv_drop_step {l : List Nat} {i : Nat} (h : i < l.length) : nv (l.drop i) = l.getD i 0 + 4294967296 * nv (l.drop (i + 1)) := by
  rw [List.drop_eq_getElem_cons h, nv_cons]
  simp [List.getD_eq_getElem?_getD, h]
theorem nv_drop_all {l : List Nat} {i : Nat} (h : l.length ≤ i) : nv (l.drop i) = 0 := by rw [List.drop_eq_nil_of_le h]; rfl
/-- A step of a division by one word. -/
theorem small_step {X Q b rest x cur : Nat} (h : X = b * Q + rest) (hr : rest < b) (hb : b < 4294967296) (hx : x < 4294967296) (hc : cur = rest * 4294967296 + x) :
    x + 4294967296 * X = b * (cur / b + 4294967296 * Q) + cur % b ∧ cur % b < b ∧ cur / b < 4294967296 ∧ cur < 18446744073709551616 := by
  have h1 := Nat.div_add_mod cur b
  have hcur : cur < b * 4294967296 := by
    have : (rest + 1) * 4294967296 ≤ b * 4294967296 := Nat.mul_le_mul_right _ hr
    omega
  have hbb : b * 4294967296 ≤ 4294967296 * 4294967296 := Nat.mul_le_mul_right _ (by omega)
  refine ⟨?_, Nat.mod_lt _ (by omega), Nat.div_lt_of_lt_mul hcur, by omega⟩
  rw [Nat.mul_add, show b * (4294967296 * Q) = 4294967296 * (b * Q) by rw [Nat.mul_left_comm]]
  subst h
  omega
/-- Shifting up by fewer than 32 bits. -/
theorem up_step {N X x n P w y : Nat} (hn : n < 32) (hN : N = X * 2 ^ n) (hy : y = x * 2 ^ n) (hw : w < 2 ^ n) : ∀ N', N' + w * P = N + (w ||| (y % 4294967296)) * P + (y / 4294967296) * (4294967296 * P) → (w ||| (y % 4294967296)) = w + y % 4294967296 ∧ N' = (X + x * P) * 2 ^ n := by
  have hor : (w ||| (y % 4294967296)) = w + y % 4294967296 := by
    have e : y % 4294967296 = 2 ^ n * (x % 2 ^ (32 - n)) := by
      rw [hy, show (4294967296 : Nat) = 2 ^ n * 2 ^ (32 - n) by rw [← Nat.pow_add, show n + (32 - n) = 32 by omega], Nat.mul_comm x, Nat.mul_mod_mul_left]
    rw [e, Nat.or_comm, ← Nat.two_pow_add_eq_or_of_lt hw]; omega
  intro N' h
  refine ⟨hor, ?_⟩
  rw [hor, Nat.add_mul] at h
  have h1 := mul_divmod y P
  have h2 : (X + x * P) * 2 ^ n = N + y * P := by rw [hN, hy, Nat.add_mul, Nat.mul_assoc, Nat.mul_assoc, Nat.mul_comm P]
  omega
theorem up_top {x n y : Nat} (hn : n < 32) (hx : x < 4294967296) (hy : y = x * 2 ^ n) : y < 18446744073709551616 ∧ y / 4294967296 < 2 ^ n := by
  have h2 : 2 ^ n ≤ 2 ^ 31 := Nat.pow_le_pow_right (by omega) (by omega)
  have h3 : y < 4294967296 * 2 ^ n := by rw [hy]; exact (Nat.mul_lt_mul_right (Nat.pow_pos (by omega))).2 hx
  exact ⟨by omega, Nat.div_lt_of_lt_mul h3⟩
/-- A word of a number shifted down. -/
theorem down_word {a : List Nat} (n i : Nat) (hn : n < 32) (hi : i < a.length) (hw : Wd a) : ((a.getD i 0 ||| a.getD (i + 1) 0 * 4294967296) / 2 ^ n) % 4294967296 = (nv a / 2 ^ n / 4294967296 ^ i) % 4294967296 := by
  have hor : (a.getD i 0 ||| a.getD (i + 1) 0 * 4294967296) = a.getD i 0 + 4294967296 * a.getD (i + 1) 0 := by
    rw [Nat.or_comm, Nat.mul_comm, show (4294967296 : Nat) = 2 ^ 32 by rfl, ← Nat.two_pow_add_eq_or_of_lt (by have := hw.getD i; omega)]; omega
  have e1 : nv a / 2 ^ n / 4294967296 ^ i = nv (a.drop i) / 2 ^ n := by
    rw [Nat.div_div_eq_div_mul, Nat.mul_comm, ← Nat.div_div_eq_div_mul, nv_split a i (Nat.le_of_lt hi), Nat.add_mul_div_left _ _ (Nat.pow_pos (by omega))]
    have := nv_lt (hw.take i)
    rw [List.length_take, Nat.min_eq_left (Nat.le_of_lt hi)] at this
    rw [Nat.div_eq_of_lt this, Nat.zero_add]
  rw [e1, hor, nv_drop_step hi]
  obtain ⟨z, hz⟩ : ∃ z, nv (a.drop (i + 1)) = a.getD (i + 1) 0 + 4294967296 * z := by
    by_cases h : i + 1 < a.length
    · exact ⟨_, nv_drop_step h⟩
    · refine ⟨0, ?_⟩
      rw [nv_drop_all (by omega)]
      simp [List.getD_eq_getElem?_getD, show a.length ≤ i + 1 by omega]
  rw [hz, Nat.mul_add, ← Nat.add_assoc]
  have e2 : 4294967296 * (4294967296 * z) = 2 ^ n * (4294967296 * (2 ^ (32 - n) * z)) := by
    rw [← Nat.mul_assoc, ← Nat.mul_assoc, Nat.mul_comm (2 ^ n) 4294967296, ← Nat.mul_assoc, Nat.mul_assoc 4294967296 (2 ^ n), ← Nat.pow_add, show n + (32 - n) = 32 by omega]
  rw [e2, Nat.add_mul_div_left _ _ (Nat.pow_pos (by omega)), Nat.add_mul_mod_self_left]
theorem mod_pow_succ (x i : Nat) : x % 4294967296 ^ (i + 1) = x % 4294967296 ^ i + (x / 4294967296 ^ i % 4294967296) * 4294967296 ^ i := by
  rw [Nat.pow_succ, Nat.mod_mul, Nat.mul_comm (4294967296 ^ i)]
end Go.Proofs.YthiemjodcklejaaGreatDoor

/-
  Plain: the estimate of a digit of a quotient (long division of lists of words).
-/
namespace Go.Proofs.YthiemjodcklejaaGreatDoor

/-- The leading words bound the digit from above. -/
theorem guess_ge {V W top head P : Nat} (hV : top * P ≤ V) (hW : W < (head + 1) * P) (ht : 0 < top) : W / V ≤ head / top := by
  rw [Nat.le_div_iff_mul_le ht]
  rcases Nat.eq_zero_or_pos V with rfl | hpos
  · simp
  have h1 : W / V * (top * P) ≤ W / V * V := Nat.mul_le_mul_left _ hV
  have h2 : W / V * V ≤ W := Nat.div_mul_le_self W V
  have h3 : W / V * top * P < (head + 1) * P := by rw [Nat.mul_assoc]; omega
  have h4 := Nat.lt_of_mul_lt_mul_right h3
  omega
/-- A guess that is too great for the leading words is too great. -/
theorem guess_dec {V W V2 head3 guess P : Nat} (hV : V2 * P ≤ V) (hW : W < (head3 + 1) * P) (hg : head3 < guess * V2) : W / V < guess := by
  rcases Nat.eq_zero_or_pos V with rfl | hpos
  · simp; rcases Nat.eq_zero_or_pos guess with rfl | h
    · simp at hg
    · exact h
  rw [Nat.div_lt_iff_lt_mul hpos]
  have h1 : guess * (V2 * P) ≤ guess * V := Nat.mul_le_mul_left _ hV
  have h2 : (head3 + 1) * P ≤ guess * V2 * P := Nat.mul_le_mul_right _ hg
  rw [Nat.mul_assoc] at h2
  omega
/-- A guess that fits the leading words is at most one too great. -/
theorem guess_le {V W V2 head3 guess P : Nat} (hV : V < (V2 + 1) * P) (hW : head3 * P ≤ W) (hg : guess * V2 ≤ head3) (hb : guess * P ≤ V) (hpos : 0 < V) : guess ≤ W / V + 1 := by
  have h1 : guess * V ≤ guess * ((V2 + 1) * P) := Nat.mul_le_mul_left _ (Nat.le_of_lt hV)
  have h2 : guess * V2 * P ≤ head3 * P := Nat.mul_le_mul_right _ hg
  have h3 : guess * ((V2 + 1) * P) = guess * V2 * P + guess * P := by rw [Nat.add_mul, Nat.one_mul, Nat.mul_add, Nat.mul_assoc]
  have h4 : guess * V ≤ W + V := by omega
  have h5 : guess ≤ (W + V) / V := (Nat.le_div_iff_mul_le hpos).2 h4
  rwa [Nat.add_div_right _ hpos] at h5
/-- What the test of the estimate says, and its step. -/
theorem est_step {head top next u2 guess rest : Nat} (h : guess * top + rest = head) (hg : 4294967296 ≤ guess ∨ rest * 4294967296 + u2 < guess * next) : head * 4294967296 + u2 < guess * (top * 4294967296 + next) ∨ 4294967296 ≤ guess := by
  rcases hg with hg | hg
  · exact .inr hg
  · refine .inl ?_
    subst h
    rw [Nat.mul_add, Nat.add_mul, ← Nat.mul_assoc, Nat.add_assoc]
    exact Nat.add_lt_add_left hg _
theorem est_done {head top next u2 guess rest : Nat} (h : guess * top + rest = head) (hg : guess * next ≤ rest * 4294967296 + u2) : guess * (top * 4294967296 + next) ≤ head * 4294967296 + u2 := by
  subst h
  rw [Nat.mul_add, Nat.add_mul, ← Nat.mul_assoc]
  omega
theorem est_break {head top next u2 guess rest : Nat} (h : guess * top + rest = head) (hr : 4294967296 ≤ rest) (hh : head < (top + 1) * 4294967296) (hn : next < 4294967296) (_ht : 0 < top) : guess < 4294967296 ∧ guess * (top * 4294967296 + next) ≤ head * 4294967296 + u2 := by
  have hg : guess < 4294967296 := by
    have h1 : guess * top < 4294967296 * top := by rw [Nat.add_mul] at hh; omega
    exact Nat.lt_of_mul_lt_mul_right h1
  refine ⟨hg, est_done h ?_⟩
  have h2 : guess * next ≤ 4294967296 * next := Nat.mul_le_mul_right _ (Nat.le_of_lt hg)
  omega
/-- A step of a subtraction of a multiple. -/
theorem take_step {O X Y x y n P b c s o b' : Nat} (h : O + n * Y = X + b * P + c * P) (hs : s = c + n * y) (ho : o + s % 4294967296 + b = x + b' * 4294967296) :
    (O + o * P) + n * (Y + y * P) = (X + x * P) + b' * (4294967296 * P) + (s / 4294967296) * (4294967296 * P) := by
  have h1 := mul_divmod s P
  have h2 : s * P = c * P + n * (y * P) := by rw [hs, Nat.add_mul, Nat.mul_assoc]
  have h3 : (o + s % 4294967296 + b) * P = (x + b' * 4294967296) * P := by rw [ho]
  rw [Nat.add_mul, Nat.add_mul, Nat.add_mul, Nat.mul_assoc] at h3
  rw [Nat.mul_add]
  omega
/-- The digit's end: what is left, if the guess was right or one too great. -/
theorem digit_end {V W guess U b M : Nat} (hpos : 0 < V) (hU : U + guess * V = W + b * M) (hUM : U < M) (_hVM : V ≤ M) (hb : b ≤ 1) (h1 : W / V ≤ guess) (h2 : guess ≤ W / V + 1) :
    (b = 0 → guess = W / V ∧ U = W % V) ∧ (b = 1 → guess = W / V + 1 ∧ U + V = W % V + M) := by
  have hd := Nat.div_add_mod W V
  have hm := Nat.mod_lt W hpos
  have e1 : (W / V) * V = V * (W / V) := Nat.mul_comm ..
  have e2 : (W / V + 1) * V = V * (W / V) + V := by rw [Nat.add_mul, Nat.one_mul, e1]
  constructor
  · intro h0
    subst h0
    have hg : guess = W / V := by
      rcases Nat.lt_or_ge (W / V) guess with h | h
      · have : guess = W / V + 1 := by omega
        rw [this, e2] at hU
        omega
      · omega
    refine ⟨hg, ?_⟩
    rw [hg, e1] at hU; omega
  · intro h0
    subst h0
    have hg : guess = W / V + 1 := by
      rcases Nat.lt_or_ge (W / V) guess with h | h
      · omega
      · have : guess = W / V := by omega
        rw [this, e1] at hU
        omega
    refine ⟨hg, ?_⟩
    rw [hg, e2] at hU; omega
/-- A step of the long division. -/
theorem long_step {U V R Q u0 : Nat} (h : U = V * Q + R) (x : Nat) (hx : x = u0 + 4294967296 * R) : u0 + 4294967296 * U = V * (x / V + 4294967296 * Q) + x % V := by
  have hd := Nat.div_add_mod x V
  rw [Nat.mul_add, show V * (4294967296 * Q) = 4294967296 * (V * Q) by rw [Nat.mul_left_comm]]
  subst h
  omega
/-- Quotient and remainder of numbers that are shifted. -/
theorem shift_div {a b q r n : Nat} (h : a * 2 ^ n = b * 2 ^ n * q + r) (hr : r < b * 2 ^ n) : a / b = q ∧ r / 2 ^ n = a % b := by
  have hp : 0 < 2 ^ n := Nat.pow_pos (by omega)
  obtain ⟨r', rfl⟩ : ∃ r', r = 2 ^ n * r' := by
    refine ⟨a - b * q, ?_⟩
    rw [Nat.mul_sub, Nat.mul_comm (2 ^ n) a, h, show 2 ^ n * (b * q) = b * 2 ^ n * q by rw [← Nat.mul_assoc, Nat.mul_comm (2 ^ n) b]]
    omega
  have h1 : a = b * q + r' := by
    have : 2 ^ n * a = 2 ^ n * (b * q + r') := by rw [Nat.mul_comm, h, Nat.mul_add, ← Nat.mul_assoc, Nat.mul_comm (2 ^ n) b]
    exact Nat.eq_of_mul_eq_mul_left hp this
  have h2 : r' < b := by rw [Nat.mul_comm b] at hr; exact Nat.lt_of_mul_lt_mul_left hr
  obtain ⟨h3, h4⟩ := div_of h1 h2
  exact ⟨h3, by rw [Nat.mul_div_cancel_left _ hp, h4]⟩
/-- The leading words of a list. -/
theorem top_words {l : List Nat} (hw : Wd l) {m : Nat} (hm : l.length = m + 2) : nv l = nv (l.take m) + 4294967296 ^ m * (l.getD m 0 + 4294967296 * l.getD (m + 1) 0) ∧ (l.getD m 0 + 4294967296 * l.getD (m + 1) 0) * 4294967296 ^ m ≤ nv l ∧ nv l < (l.getD m 0 + 4294967296 * l.getD (m + 1) 0 + 1) * 4294967296 ^ m := by
  have h1 := nv_split l m (by omega)
  rw [nv_drop_step (by omega), nv_drop_step (by omega), nv_drop_all (by omega)] at h1
  simp only [Nat.mul_zero, Nat.add_zero] at h1
  have h2 := nv_lt (hw.take m)
  rw [List.length_take, Nat.min_eq_left (by omega)] at h2
  refine ⟨h1, by rw [h1, Nat.mul_comm]; omega, ?_⟩
  rw [Nat.add_mul, Nat.one_mul, Nat.mul_comm _ (4294967296 ^ m)]
  omega
theorem top_word {l : List Nat} (hw : Wd l) {m : Nat} (hm : l.length = m + 1) : nv l = nv (l.take m) + 4294967296 ^ m * l.getD m 0 ∧ l.getD m 0 * 4294967296 ^ m ≤ nv l ∧ nv l < (l.getD m 0 + 1) * 4294967296 ^ m := by
  have h1 := nv_split l m (by omega)
  rw [nv_drop_step (by omega), nv_drop_all (by omega)] at h1
  simp only [Nat.mul_zero, Nat.add_zero] at h1
  have h2 := nv_lt (hw.take m)
  rw [List.length_take, Nat.min_eq_left (by omega)] at h2
  refine ⟨h1, by rw [h1, Nat.mul_comm]; omega, ?_⟩
  rw [Nat.add_mul, Nat.one_mul, Nat.mul_comm _ (4294967296 ^ m)]
  omega
end Go.Proofs.YthiemjodcklejaaGreatDoor

/-
  Plain: fractions of words, and the rational number that each counts as.
-/
namespace Go.Proofs.YthiemjodcklejaaGreatDoor

/-- A fraction: sign, numerator, denominator. -/
structure Rw where
  neg : Bool
  num : List Nat
  den : List Nat
deriving DecidableEq
instance : Inhabited Rw := ⟨⟨false, [], []⟩⟩
def Rw.Ok (r : Rw) : Prop := Wd r.num ∧ Wd r.den
def plainW (a : List Nat) : Bool := decide (0 < a.length) && (a.getD (a.length - 1) 0 != 0)
theorem plainW_iff {a : List Nat} : plainW a = true ↔ a ≠ [] ∧ Pl a := by
  unfold plainW Pl
  cases a with
  | nil => simp
  | cons x l =>
    simp only [List.length_cons, Nat.zero_lt_succ, decide_true, Bool.true_and, ne_eq, reduceCtorEq, not_false_eq_true, true_and, List.getD_eq_getElem?_getD]
    constructor
    · intro h _
      rw [List.getLast_eq_getElem]
      simpa using h
    · intro h
      have := h (by simp)
      rw [List.getLast_eq_getElem] at this
      simpa using this
def validR (r : Rw) : Bool := if r.num = [] ∧ r.den = [] then !r.neg else plainW r.num && plainW r.den && (Nat.gcd (nv r.num) (nv r.den) == 1)
def sg (neg : Bool) (n : Nat) : Int := if neg = true then -(n : Int) else n
theorem sg_abs (neg : Bool) (n : Nat) : (sg neg n).natAbs = n := by unfold sg; split <;> simp
theorem sg_zero (neg : Bool) : sg neg 0 = 0 := by unfold sg; split <;> simp
/-- As what a fraction counts: sign, numerator, denominator. -/
def partsR (r : Rw) : Bool × List Nat × List Nat := if validR r = true ∧ r.num ≠ [] then (r.neg, r.num, r.den) else (false, [], [1])
def ratOf (r : Rw) : Rat := mkRat (sg (partsR r).1 (nv (partsR r).2.1)) (nv (partsR r).2.2)
theorem nv_ne_zero {a : List Nat} (hw : Wd a) (h : plainW a = true) : nv a ≠ 0 := by
  obtain ⟨h1, h2⟩ := plainW_iff.1 h
  intro h3
  have := nw_nv hw h2
  rw [h3, nw_zero] at this
  exact h1 this.symm
theorem nw_plain {n : Nat} (h : n ≠ 0) : plainW (nw n) = true := plainW_iff.2 ⟨fun e => h (nw_eq_nil.1 e), nw_pl n⟩
theorem partsR_ok {r : Rw} (h : r.Ok) : Wd (partsR r).2.1 ∧ Wd (partsR r).2.2 ∧ nv (partsR r).2.2 ≠ 0 ∧ Pl (partsR r).2.1 ∧ Pl (partsR r).2.2 := by
  unfold partsR
  split
  · rename_i hv
    obtain ⟨hv, hn⟩ := hv
    unfold validR at hv
    rw [if_neg (fun e => hn e.1)] at hv
    simp only [Bool.and_eq_true] at hv
    exact ⟨h.1, h.2, nv_ne_zero h.2 hv.1.2, (plainW_iff.1 hv.1.1).2, (plainW_iff.1 hv.1.2).2⟩
  · exact ⟨Wd.nil, Wd.cons (by omega) Wd.nil, by simp [nv], fun h => absurd rfl h, fun _ => by simp⟩
/-- The words of a number. -/
def canR (q : Rat) : Rw := if q.num = 0 then ⟨false, [], []⟩ else ⟨decide (q.num < 0), nw q.num.natAbs, nw q.den⟩
def formR (neg : Bool) (n d : Nat) : Rw := if n = 0 then ⟨false, [], []⟩ else ⟨neg, nw (n / Nat.gcd n d), nw (d / Nat.gcd n d)⟩
theorem form_can (neg : Bool) (n d : Nat) (hd : d ≠ 0) : formR neg n d = canR (mkRat (sg neg n) d) := by
  unfold formR canR
  have e1 : (mkRat (sg neg n) d).num = sg neg n / (d.gcd n : Nat) := by rw [Rat.num_mkRat, if_neg hd, sg_abs]
  have e2 : (mkRat (sg neg n) d).den = d / Nat.gcd n d := by rw [Rat.den_mkRat, if_neg hd, sg_abs, Nat.gcd_comm]
  have hg : 0 < Nat.gcd n d := Nat.gcd_pos_of_pos_right _ (by omega)
  have hdv : Nat.gcd n d ∣ n := Nat.gcd_dvd_left ..
  have e3 : sg neg n / (d.gcd n : Nat) = sg neg (n / Nat.gcd n d) := by
    rw [Nat.gcd_comm]
    unfold sg
    split
    · rw [Int.neg_ediv_of_dvd (Int.natCast_dvd_natCast.2 hdv), ← Int.natCast_ediv]
    · rw [← Int.natCast_ediv]
  rw [e1, e2, e3]
  by_cases h0 : n = 0
  · subst h0
    simp [sg_zero]
  · have hne : n / Nat.gcd n d ≠ 0 := by
      have := Nat.div_pos (Nat.le_of_dvd (by omega) hdv) hg
      omega
    have h1 : sg neg (n / Nat.gcd n d) ≠ 0 := by unfold sg; split <;> omega
    rw [if_neg h0, if_neg h1, sg_abs]
    congr 1
    obtain ⟨m, hm⟩ : ∃ m, m = n / Nat.gcd n d := ⟨_, rfl⟩
    rw [← hm] at hne ⊢
    unfold sg
    cases neg with
    | true => simp; omega
    | false => simp
theorem canR_ok (q : Rat) : (canR q).Ok := by
  unfold canR
  split
  · exact ⟨Wd.nil, Wd.nil⟩
  · exact ⟨nw_wd _, nw_wd _⟩
theorem canR_valid (q : Rat) : validR (canR q) = true := by
  unfold canR
  split
  · rfl
  · rename_i h
    unfold validR
    rw [if_neg (fun e => by have := nw_eq_nil.1 e.1; omega)]
    rw [nw_plain (by omega), nw_plain q.den_nz, nv_nw, nv_nw]
    have := q.reduced
    unfold Nat.Coprime at this
    simp [this]
theorem ratOf_can (q : Rat) : ratOf (canR q) = q := by
  unfold ratOf partsR
  rw [canR_valid]
  unfold canR
  split
  · rename_i h
    simp only [ne_eq, not_true_eq_false, and_false, if_false]
    rw [nv_nil, sg_zero, Rat.zero_mkRat]
    exact (Rat.num_eq_zero.1 h).symm
  · rename_i h
    rw [if_pos ⟨rfl, fun e => by have := nw_eq_nil.1 e; omega⟩]
    simp only [nv_nw]
    have e : sg (decide (q.num < 0)) q.num.natAbs = q.num := by
      unfold sg
      by_cases h2 : q.num < 0
      · simp [h2]; omega
      · simp [h2]; omega
    rw [e, Rat.mkRat_self]
theorem canR_zero : canR 0 = ⟨false, [], []⟩ := rfl
/-- Sums, products and negatives of the numbers of fractions. -/
theorem sg_add (s : Bool) (a b : Nat) : sg s (a + b) = sg s a + sg s b := by unfold sg; split <;> omega
theorem sg_mul (s t : Bool) (a b : Nat) : sg (s != t) (a * b) = sg s a * sg t b := by
  unfold sg
  cases s <;> cases t <;> simp [Int.neg_mul, Int.mul_neg]
theorem sg_not (s : Bool) (a : Nat) : sg (!s) a = - sg s a := by unfold sg; cases s <;> simp
theorem sg_sub {s t : Bool} (h : s ≠ t) {a b : Nat} (hab : b ≤ a) : sg s (a - b) = sg s a + sg t b := by
  unfold sg
  cases s <;> cases t <;> simp at h ⊢ <;> omega
theorem sg_sub' {s t : Bool} (h : s ≠ t) {a b : Nat} (hab : a ≤ b) : sg t (b - a) = sg s a + sg t b := by
  unfold sg
  cases s <;> cases t <;> simp at h ⊢ <;> omega
theorem sg_scale (s : Bool) (a b : Nat) : sg s (a * b) = sg s a * (b : Int) := by unfold sg; split <;> simp [Int.neg_mul]
end Go.Proofs.YthiemjodcklejaaGreatDoor

/-
  Words of 32 bits in memory: slices that can be read, rows of the call's own, append.
-/
namespace Go.Proofs.YthiemjodcklejaaGreatDoor
open Go.RowKit

def w32 (x : Nat) : Value := .int .u32 (x : Int)
/-- A slice of words that can be read. -/
def WdsAt (w : World) (v : Value) (xs : List Nat) : Prop :=
  ∃ (a : Option Addr) (c : Nat), v = .slice a xs.length c ∧ (xs.length ≤ c ∧ (a = none → c = 0)) ∧ xs.length ≤ 1099511627776 ∧ Wd xs ∧
    ∀ i (_ : i < xs.length), ∃ b o, a = some ⟨b, o, none⟩ ∧ w.cell? ⟨b, o + i, none⟩ = some (.int .u32 ((xs.getD i 0 : Nat) : Int))
theorem WdsAt.kept {w w' : World} {v : Value} {xs : List Nat} (h : WdsAt w v xs) (hk : Kept w w') : WdsAt w' v xs := by
  obtain ⟨a, c, h1, h2, h3, h4, h5⟩ := h
  exact ⟨a, c, h1, h2, h3, h4, fun i hi => let ⟨b, o, h6, h7⟩ := h5 i hi; ⟨b, o, h6, hk.cell h7⟩⟩
theorem WdsAt.wd {w : World} {v : Value} {xs : List Nat} (h : WdsAt w v xs) : Wd xs := by obtain ⟨_, _, _, _, _, h, _⟩ := h; exact h
theorem WdsAt.len {w : World} {v : Value} {xs : List Nat} (h : WdsAt w v xs) : xs.length ≤ 1099511627776 := by obtain ⟨_, _, _, _, h, _⟩ := h; exact h
theorem WdsAt.shape {w : World} {v : Value} {xs : List Nat} (h : WdsAt w v xs) : ∃ a c, v = .slice a xs.length c := by obtain ⟨a, c, h, _⟩ := h; exact ⟨a, c, h⟩
theorem WdsAt.nil (w : World) : WdsAt w (.slice none 0 0) [] := ⟨none, 0, rfl, ⟨by simp, fun _ => rfl⟩, by simp, Wd.nil, fun i h => by simp at h⟩
theorem WdsAt.get {w : World} {a : Option Addr} {n c : Nat} {xs : List Nat} (h : WdsAt w (.slice a n c) xs) (i : Nat) (hi : i < xs.length) : ∃ b o, a = some ⟨b, o, none⟩ ∧ w.cell? ⟨b, o + i, none⟩ = some (.int .u32 ((xs.getD i 0 : Nat) : Int)) := by
  obtain ⟨a', c', h1, _, _, _, h5⟩ := h
  injection h1 with h1
  subst h1
  exact h5 i hi
/-- A part of a slice of words. -/
theorem WdsAt.take {w : World} {a : Option Addr} {n c : Nat} {xs : List Nat} (h : WdsAt w (.slice a n c) xs) (k : Nat) (hk : k ≤ xs.length) : WdsAt w (.slice a k c) (xs.take k) := by
  obtain ⟨a', c', h1, h2, h3, h4, h5⟩ := h
  injection h1 with h1 h6 h7
  subst h1 h7
  have hl : (xs.take k).length = k := by rw [List.length_take]; omega
  refine ⟨a, c, by rw [hl], ⟨by omega, h2.2⟩, by omega, h4.take k, fun i hi => ?_⟩
  obtain ⟨b, o, h8, h9⟩ := h5 i (by omega)
  exact ⟨b, o, h8, by rw [getD_take (by omega)]; exact h9⟩
theorem WdsAt.drop {w : World} {b o n c : Nat} {xs : List Nat} (h : WdsAt w (.slice (some ⟨b, o, none⟩) n c) xs) (k : Nat) (hk : k ≤ xs.length) : WdsAt w (.slice (some ⟨b, o + k, none⟩) (n - k) (c - k)) (xs.drop k) := by
  obtain ⟨a', c', h1, h2, h3, h4, h5⟩ := h
  injection h1 with h1 h6 h7
  subst h1 h7
  have hl : (xs.drop k).length = n - k := by rw [List.length_drop]; omega
  refine ⟨_, c - k, by rw [hl], ⟨by omega, fun h => by cases h⟩, by omega, h4.drop k, fun i hi => ⟨b, o + k, rfl, ?_⟩⟩
  obtain ⟨b2, o2, h8, h9⟩ := h5 (k + i) (by omega)
  cases h8
  rw [getD_drop, Nat.add_assoc]
  exact h9
/-- A slice of words of the call's own. -/
def OwnWds (w : World) (B : Nat) (v : Value) (xs : List Nat) : Prop :=
  w.ownsRow B 82 1 v xs.length (xs.map w32) ∧ xs.length ≤ 1099511627776 ∧ Wd xs
theorem OwnWds.at {w : World} {B : Nat} {v : Value} {xs : List Nat} (h : OwnWds w B v xs) : WdsAt w v xs := by
  obtain ⟨⟨h1, h2⟩, h3, h3'⟩ := h
  rcases h2 with ⟨rfl, h4⟩ | ⟨g, cap, cur, rfl, h5, h6, h7, h8, h9, h10⟩
  · have : xs = [] := List.eq_nil_of_length_eq_zero h4
    subst this
    exact WdsAt.nil w
  · refine ⟨_, cap, rfl, ⟨h7, fun h => by cases h⟩, h3, h3', fun i hi => ⟨g, 0, rfl, ?_⟩⟩
    have e1 : (cur.toList.take (xs.length * 1))[i]? = (xs.map w32)[i]? := by rw [h10]
    rw [List.getElem?_take_of_lt (by omega)] at e1
    simp only [World.cell?, h6, Nat.zero_add]
    simpa [hi, w32, List.getD_eq_getElem?_getD] using e1
theorem OwnWds.kept {w w' : World} {B : Nat} {v : Value} {xs : List Nat} (h : OwnWds w B v xs) (hb : Kept w w') : OwnWds w' B v xs := ⟨own_kept h.1 hb, h.2⟩
theorem OwnWds.nil (w : World) (B : Nat) : OwnWds w B (.slice none 0 0) [] := ⟨World.ownsRow_nil _ _ _ _, by simp, Wd.nil⟩
theorem OwnWds.mono {w : World} {B B' : Nat} {v : Value} {xs : List Nat} (h : OwnWds w B v xs) (hb : B' ≤ B) : OwnWds w B' v xs := ⟨own_mono h.1 hb, h.2⟩
theorem own_emptyW (w : World) (B : Nat) (hB : B ≤ w.heap.size) : OwnWds (w.alloc (.cells #[] 82)) B (.slice (some ⟨w.heap.size, 0, none⟩) 0 0) [] :=
  ⟨⟨by simp, .inr ⟨w.heap.size, 0, #[], rfl, hB, heap_alloc_new w _, Nat.le_refl _, by unfold maxLen; omega, by simp, by simp⟩⟩, by simp, Wd.nil⟩
theorem info_u32 : (Tryz.prog.info? 82).map (fun i => (i.zero, i.size, i.bytes)) = some (some (.int .u32 0), 1, 4) := by kernel_rfl
/-- append of a whole slice of words. -/
theorem app_wds {ops : Array Oper} {rest : List Oper} {o : Oper} {a : Act} {Q : Exit → Act → World → Prop} {w : World} (hgd : o.guard = none) (s x : Operand)
    (ho : o.op = .call { callee := .builtin .append, args := #[s, x], argTypes := #[29, 29] }) (B : Nat) (v : Value) (xs : List Nat) (hs : a.eval s = v) (hown : OwnWds w B v xs)
    (u : Value) (ys : List Nat) (hx : a.eval x = u) (hu : WdsAt w u ys) (hl : xs.length + ys.length ≤ 1099511627776) (hB : B ≤ w.heap.size)
    (h : ∀ v' w', OwnWds w' B v' (xs ++ ys) → Below B w w' → wpList Tryz.prog ops Q rest (a.put o.dst v') w') : wpList Tryz.prog ops Q (o :: rest) a w := by
  obtain ⟨i0, hi0, hz0, hz1, hz2⟩ := info_parts info_u32
  obtain ⟨ad, c, rfl, ⟨hc, hcn⟩, hl2, hw, hcell⟩ := hu
  cases ad with
  | none =>
    have hy : ys = [] := by
      cases ys with
      | nil => rfl
      | cons y ys => obtain ⟨b, o, h, _⟩ := hcell 0 (by simp); cases h
    subst hy
    rw [hcn rfl] at hx
    refine wpList_append_own_none hgd s x 29 ho B 82 i0 1 Tryz.underlying29 hi0 v xs.length _ hs hown.1 hx ?_
    exact h v w (by simpa using hown) (Below.refl _ _)
  | some ad =>
    refine wpList_append_own _ hgd s x 29 ho B 82 i0 _ 1 4 Tryz.underlying29 hi0 hz0 hz1 hz2 rfl (by decide) v xs.length _ hs hown.1 ad ys.length c (ys.map w32) hx (by simp) ?_ ?_ (by simp [maxLen]; omega) (by omega) hB ?_
    · intro j u hj
      have hj' : j < ys.length := by
        rcases Nat.lt_or_ge j ys.length with h | h
        · exact h
        · rw [List.getElem?_eq_none (by simpa using h)] at hj; cases hj
      obtain ⟨b, o, h5, h6⟩ := hcell j hj'
      cases h5
      simp [hj', w32] at hj
      subst hj
      rw [show ({ block := b, off := o } : Addr).add j = ⟨b, o + j, none⟩ by unfold Addr.add; split <;> simp_all, h6]
      simp [List.getD_eq_getElem?_getD, hj']
    · intro u hu; obtain ⟨y, _, rfl⟩ := List.mem_map.1 hu; rfl
    · intro v' w' h5 h6 _
      exact h v' w' ⟨by simpa using h5, by simp; omega, hown.2.2.app hw⟩ (grown_below h6 hown.1 hB)
/-- append of one word. -/
theorem app_wd {ops : Array Oper} {rest : List Oper} {o : Oper} {a : Act} {Q : Exit → Act → World → Prop} {w : World} (hgd : o.guard = none) (s x : Operand)
    (ho : o.op = .call { callee := .builtin .append, args := #[s, x], argTypes := #[29, 29] }) (B : Nat) (v : Value) (xs : List Nat) (hs : a.eval s = v) (hown : OwnWds w B v xs)
    (ad : Addr) (y : Nat) (hx : a.eval x = .slice (some ad) 1 1) (hc : w.cell? ad = some (.int .u32 (y : Int))) (hy : y < 4294967296) (hl : xs.length < 1099511627776) (hB : B ≤ w.heap.size)
    (h : ∀ v' w', OwnWds w' B v' (xs ++ [y]) → Below B w w' → wpList Tryz.prog ops Q rest (a.put o.dst v') w') : wpList Tryz.prog ops Q (o :: rest) a w := by
  refine app_one 29 82 _ 4 info_u32 Tryz.underlying29 rfl hgd s x ho B v (xs.map w32) hs (by simpa using hown.1) ad _ hx hc rfl (by simp; omega) (by simp [maxLen]; omega) hB ?_
  intro v' w' h2 h3 h4
  exact h v' w' ⟨by simpa [w32] using h2, by simp; omega, hown.2.2.app (Wd.cons hy Wd.nil)⟩ h4
theorem row_wds {w : World} {g : Nat} {xs : List Nat} {c : Nat} (h : RowAt w g 82 (xs.map w32)) (hc : xs.length ≤ c) (hl : xs.length ≤ 1099511627776) (hw : Wd xs) : WdsAt w (.slice (some ⟨g, 0, none⟩) xs.length c) xs :=
  ⟨_, c, rfl, ⟨hc, fun h => by cases h⟩, hl, hw, fun i hi => ⟨g, 0, rfl, by have := h.cell (i := i) (by simpa using hi); simpa [w32, List.getD_eq_getElem?_getD, hi] using this⟩⟩
theorem wds_store {w : World} {g : Nat} {xs : List Nat} (h : RowAt w g 82 (xs.map w32)) (i x : Nat) : RowAt (w.setCell ⟨g, i, none⟩ (.int .u32 (x : Int))) g 82 ((xs.set i x).map w32) := by
  have := h.store i (w32 x)
  rwa [← List.map_set] at this
theorem wds_cell {w : World} {g : Nat} {xs : List Nat} (h : RowAt w g 82 (xs.map w32)) (i : Nat) (hi : i < xs.length) : w.cell? ⟨g, i, none⟩ = some (.int .u32 ((xs.getD i 0 : Nat) : Int)) := by
  have := h.cell (i := i) (by simpa using hi)
  simpa [w32, List.getD_eq_getElem?_getD, hi] using this
end Go.Proofs.YthiemjodcklejaaGreatDoor

/-
  Walks: natural.word, natural.trim.
-/
namespace Go.Proofs.YthiemjodcklejaaGreatDoor
open Go.RowKit

set_option maxRecDepth 100000 in
theorem nword_any (v : Value) (xs : List Nat) (i : Nat) (w : World) (hv : WdsAt w v xs) : Calls Tryz.prog 130 #[v, .int .i64 i] w fun e w' => e = .returned (.int .u64 ((xs.getD i 0 : Nat) : Int)) ∧ w = w' := by
  obtain ⟨a, c, rfl⟩ := hv.shape
  have hl := hv.len
  obtain ⟨n, hn⟩ : ∃ n, n = xs.length := ⟨_, rfl⟩
  rw [← hn] at hv hl ⊢
  by_cases h : i < n
  · obtain ⟨b, o, rfl, hc⟩ := hv.get i (by omega)
    have hx := hv.wd.getD i
    obtain ⟨x, hx2⟩ : ∃ x, x = xs.getD i 0 := ⟨_, rfl⟩
    rw [← hx2] at hc hx ⊢
    have hi : (i : Int) < (n : Int) := by omega
    clear hv hn hx2
    go_enter Tryz.func130, Tryz.ntmps130
    go_wp2
    go_ret
    exact ⟨rfl, rfl⟩
  · have e : xs.getD i 0 = 0 := by simp [List.getD_eq_getElem?_getD, show xs.length ≤ i by omega]
    rw [e]
    have hi : ¬ (i : Int) < (n : Int) := by omega
    clear hv hn e
    go_enter Tryz.func130, Tryz.ntmps130
    go_wp2
    go_ret
    exact ⟨rfl, rfl⟩
set_option maxRecDepth 100000 in
theorem rword_any (v : Value) (xs : List Nat) (i : Nat) (w : World) (hv : WdsAt w v xs) : Calls Tryz.prog 240 #[v, .int .i64 i] w fun e w' => e = .returned (.int .u64 ((xs.getD i 0 : Nat) : Int)) ∧ w = w' := by
  obtain ⟨a, c, rfl⟩ := hv.shape
  have hl := hv.len
  obtain ⟨n, hn⟩ : ∃ n, n = xs.length := ⟨_, rfl⟩
  rw [← hn] at hv hl ⊢
  by_cases h : i < n
  · obtain ⟨b, o, rfl, hc⟩ := hv.get i (by omega)
    have hx := hv.wd.getD i
    obtain ⟨x, hx2⟩ : ∃ x, x = xs.getD i 0 := ⟨_, rfl⟩
    rw [← hx2] at hc hx ⊢
    have hi : (i : Int) < (n : Int) := by omega
    clear hv hn hx2
    go_enter Tryz.func240, Tryz.ntmps240
    go_wp2
    go_ret
    exact ⟨rfl, rfl⟩
  · have e : xs.getD i 0 = 0 := by simp [List.getD_eq_getElem?_getD, show xs.length ≤ i by omega]
    rw [e]
    have hi : ¬ (i : Int) < (n : Int) := by omega
    clear hv hn e
    go_enter Tryz.func240, Tryz.ntmps240
    go_wp2
    go_ret
    exact ⟨rfl, rfl⟩
set_option maxRecDepth 100000 in
set_option maxHeartbeats 1000000 in
theorem ntrim_any (v : Value) (xs : List Nat) (w : World) (hv : WdsAt w v xs) : Calls Tryz.prog 129 #[v] w fun e w' => (∃ v', e = .returned v' ∧ WdsAt w' v' (nw (nv xs))) ∧ Kept w w' := by
  obtain ⟨a, c, rfl⟩ := hv.shape
  have hl := hv.len
  have HV := Lib.hid hv
  obtain ⟨n, hn⟩ : ∃ n, n = xs.length := ⟨_, rfl⟩
  have HN := Lib.hid hn
  rw [← hn] at hl ⊢
  have HV2 : Hid (WdsAt w (.slice a n c) xs) := Lib.hid (by rw [hn]; exact HV.out)
  clear hv hn HV
  go_enter Tryz.func129, Tryz.ntmps129
  go_wp2
  go_loopg [3] n (fun kx s3 wr => ∃ k : Nat, s3 = .int .i64 k ∧ k ≤ n ∧ k ≤ kx ∧ Hid (∀ i, k ≤ i → xs.getD i 0 = 0) ∧ w = wr)
  case atStart => exact ⟨n, rfl, Nat.le_refl _, Nat.le_refl _, Lib.hid (fun i hi => by have := HN.out; simp [List.getD_eq_getElem?_getD, show xs.length ≤ i by omega]), rfl⟩
  case round =>
    obtain ⟨k, rfl, hk, hkx, HZ, rfl⟩ := hrel
    by_cases hk0 : k = 0
    · have e0 : nw (nv xs) = [] := by
        rw [nw_take HV2.out.wd (Nat.zero_le _) (fun i hi => HZ.out i (by omega)) (.inl rfl)]; rfl
      subst hk0
      go_wp2
      go_ret
      exact ⟨⟨_, rfl, by rw [e0]; exact WdsAt.nil _⟩, Kept.refl _⟩
    · obtain ⟨j, rfl⟩ : ∃ j, k = j + 1 := ⟨k - 1, by omega⟩
      obtain ⟨b, o, rfl, hc⟩ := HV2.out.get j (by have := HN.out; omega)
      obtain ⟨x, hx2⟩ : ∃ x, x = xs.getD j 0 := ⟨_, rfl⟩
      rw [← hx2] at hc
      have hp : ((j + 1 : Nat) : Int) > 0 := by omega
      have hj : ((j + 1 : Nat) : Int) - 1 = (j : Int) := by omega
      have hjn : (j : Int) < (n : Int) := by omega
      by_cases hx0 : x = 0
      · have hb : ((x : Int) == 0) = true := by simp [hx0]
        have HX := Lib.hid (hx2.symm.trans hx0)
        clear hx2 hx0
        go_wp2
        go_roundg j
        case measure => omega
        case rel => exact ⟨j, rfl, by omega, Nat.le_refl _, Lib.hid (fun i hi => by
          by_cases h : i = j
          · rw [h]; exact HX.out
          · exact HZ.out i (by omega)), rfl⟩
      · have hb : ((x : Int) == 0) = false := by simp; exact hx0
        have hle : j + 1 ≤ xs.length := by have := HN.out; omega
        have e0 : nw (nv xs) = xs.take (j + 1) := nw_take HV2.out.wd hle HZ.out (.inr (by rw [Nat.add_sub_cancel, ← hx2]; exact hx0))
        have HT := Lib.hid (HV2.out.take (j + 1) hle)
        have hlt : (xs.take (j + 1)).length = j + 1 := by rw [List.length_take]; omega
        have HLT := Lib.hid hlt
        obtain ⟨m, hm⟩ : ∃ m, m = j + 1 := ⟨_, rfl⟩
        rw [← hm] at HT HLT hp hj hk e0
        have E0 := Lib.hid e0
        have hmc : m ≤ c := by obtain ⟨_, _, h1, h2, _⟩ := HT.out; injection h1 with _ h3 h4; have := HLT.out; omega
        have hneq : ((m : Int) == 0) = false := by simp; omega
        rw [← hm]
        clear hx2 hx0 e0 hlt hm hle
        go_wp2_with (at_builtin; refine app_wds rfl _ _ rfl w.heap.size _ [] rfl (own_emptyW w _ (Nat.le_refl _)) _ _ rfl (HT.out.kept ((Kept.refl _).alloc _)) (by have := HLT.out; simp; omega) (by simp) ?_; intro v7 w7 hown7 hb7; have O7 := Lib.hid hown7; have HB7 := Lib.hid hb7; clear hown7 hb7)
        go_ret
        exact ⟨⟨_, rfl, by rw [E0.out]; have := O7.out.at; simpa using this⟩, ((Kept.refl _).alloc _).app HB7.out⟩
set_option maxRecDepth 100000 in
set_option maxHeartbeats 1000000 in
theorem rtrim_any (v : Value) (xs : List Nat) (w : World) (hv : WdsAt w v xs) : Calls Tryz.prog 241 #[v] w fun e w' => (∃ v', e = .returned v' ∧ OwnWds w' w.heap.size v' (nw (nv xs))) ∧ Kept w w' := by
  obtain ⟨a, c, rfl⟩ := hv.shape
  have hl := hv.len
  have HV := Lib.hid hv
  obtain ⟨n, hn⟩ : ∃ n, n = xs.length := ⟨_, rfl⟩
  have HN := Lib.hid hn
  rw [← hn] at hl ⊢
  have HV2 : Hid (WdsAt w (.slice a n c) xs) := Lib.hid (by rw [hn]; exact HV.out)
  clear hv hn HV
  go_enter Tryz.func241, Tryz.ntmps241
  go_wp2
  go_loopg [3] n (fun kx s3 wr => ∃ k : Nat, s3 = .int .i64 k ∧ k ≤ n ∧ k ≤ kx ∧ Hid (∀ i, k ≤ i → xs.getD i 0 = 0) ∧ w = wr)
  case atStart => exact ⟨n, rfl, Nat.le_refl _, Nat.le_refl _, Lib.hid (fun i hi => by have := HN.out; simp [List.getD_eq_getElem?_getD, show xs.length ≤ i by omega]), rfl⟩
  case round =>
    obtain ⟨k, rfl, hk, hkx, HZ, rfl⟩ := hrel
    have hle : k ≤ xs.length := by have := HN.out; omega
    have HT := Lib.hid (HV2.out.take k hle)
    have hlt : (xs.take k).length = k := by rw [List.length_take]; omega
    have HLT := Lib.hid hlt
    have hkc : k ≤ c := by obtain ⟨_, _, h1, h2, _⟩ := HT.out; injection h1 with _ h3 h4; omega
    clear hlt
    by_cases hex : k = 0 ∨ xs.getD (k - 1) 0 ≠ 0
    · have E0 := Lib.hid (nw_take HV2.out.wd hle HZ.out hex)
      have HFIN : Hid (∀ (g cc : Nat), True) := Lib.hid fun _ _ => trivial
      clear HFIN
      by_cases hk0 : k = 0
      · have hp : ¬ (k : Int) > 0 := by omega
        have hcn : a = none → c = 0 := by obtain ⟨_, _, h1, h2, _⟩ := HV2.out; injection h1 with h1 _ h3; subst h1 h3; exact h2.2
        subst hk0
        clear hex
        cases a with
        | none =>
          have := hcn rfl
          subst this
          go_wp2
          go_ret
          exact ⟨⟨_, rfl, by rw [E0.out]; exact own_emptyW w _ (Nat.le_refl _)⟩, (Kept.refl _).alloc _⟩
        | some a =>
          clear hcn
          go_wp2
          go_ret
          exact ⟨⟨_, rfl, by rw [E0.out]; exact own_emptyW w _ (Nat.le_refl _)⟩, (Kept.refl _).alloc _⟩
      · obtain ⟨b, o, rfl, hc⟩ := HV2.out.get (k - 1) (by omega)
        have hx0 := hex.resolve_left hk0
        obtain ⟨x, hx2⟩ : ∃ x, x = xs.getD (k - 1) 0 := ⟨_, rfl⟩
        rw [← hx2] at hc hx0
        obtain ⟨j, hj2⟩ : ∃ j, j = k - 1 := ⟨_, rfl⟩
        rw [← hj2] at hc
        have hp : (k : Int) > 0 := by omega
        have hj : (k : Int) - 1 = (j : Int) := by omega
        have hjn : (j : Int) < (n : Int) := by omega
        have hjn2 : j < n := by omega
        have hb : ((x : Int) == 0) = false := by simp; exact hx0
        clear hex hx2 hx0 hj2
        go_wp2_with (at_builtin; refine app_wds rfl _ _ rfl w.heap.size _ [] rfl (own_emptyW w _ (Nat.le_refl _)) _ _ rfl (HT.out.kept ((Kept.refl _).alloc _)) (by have := HLT.out; simp; omega) (by simp) ?_; intro v7 w7 hown7 hb7; have O7 := Lib.hid hown7; have HB7 := Lib.hid hb7; clear hown7 hb7)
        go_ret
        exact ⟨⟨_, rfl, by rw [E0.out]; have := O7.out; simpa using this⟩, ((Kept.refl _).alloc _).app HB7.out⟩
    · have hk0 : k ≠ 0 := fun h => hex (.inl h)
      have hx0 : xs.getD (k - 1) 0 = 0 := Classical.byContradiction fun h => hex (.inr h)
      obtain ⟨b, o, rfl, hc⟩ := HV2.out.get (k - 1) (by omega)
      rw [hx0] at hc
      obtain ⟨j, hj2⟩ : ∃ j, j = k - 1 := ⟨_, rfl⟩
      rw [← hj2] at hc hx0
      have hp : (k : Int) > 0 := by omega
      have hj : (k : Int) - 1 = (j : Int) := by omega
      have hjn : (j : Int) < (n : Int) := by omega
      have hjn2 : j < n := by omega
      have hjk : j + 1 = k := by omega
      have HX := Lib.hid hx0
      clear hex hx0 hj2
      go_wp2
      go_roundg j
      case measure => omega
      case rel => exact ⟨j, by go_num, by omega, Nat.le_refl _, Lib.hid (fun i hi => by
        by_cases h : i = j
        · rw [h]; exact HX.out
        · exact HZ.out i (by omega)), rfl⟩
end Go.Proofs.YthiemjodcklejaaGreatDoor

/-
  Walks: natural.Cmp, faultlineref01.Cmp.
-/
namespace Go.Proofs.YthiemjodcklejaaGreatDoor
open Go.RowKit

def cmpN (a b : Nat) : Int := if a < b then -1 else if b < a then 1 else 0
theorem cmpN_lt {a b : Nat} (h : a < b) : cmpN a b = -1 := by unfold cmpN; rw [if_pos h]
theorem cmpN_gt {a b : Nat} (h : b < a) : cmpN a b = 1 := by unfold cmpN; rw [if_neg (by omega), if_pos h]
theorem cmpN_eq {a b : Nat} (h : a = b) : cmpN a b = 0 := by unfold cmpN; rw [if_neg (by omega), if_neg (by omega)]
set_option maxRecDepth 100000 in
set_option maxHeartbeats 1000000 in
theorem ncmp_any (va vb : Value) (xs ys : List Nat) (w : World) (ha : WdsAt w va xs) (hb : WdsAt w vb ys) : Calls Tryz.prog 75 #[va, vb] w fun e w' => e = .returned (.int .i64 (cmpN (nv xs) (nv ys))) ∧ Kept w w' := by
  have HA := Lib.hid (fun W (hk : Kept w W) => ntrim_any va xs W (ha.kept hk))
  have HB := Lib.hid (fun W (hk : Kept w W) => ntrim_any vb ys W (hb.kept hk))
  obtain ⟨a0, c0, rfl⟩ := ha.shape
  obtain ⟨a1, c1, rfl⟩ := hb.shape
  obtain ⟨m, hm⟩ : ∃ m, m = nv xs := ⟨_, rfl⟩
  obtain ⟨n, hn⟩ : ∃ n, n = nv ys := ⟨_, rfl⟩
  rw [← hm] at HA ⊢
  rw [← hn] at HB ⊢
  generalize xs.length = l0 at *
  generalize ys.length = l1 at *
  clear ha hb hm hn
  go_enter Tryz.func75, Tryz.ntmps75
  go_wp2_with fail
  refine (HA.out _ (Kept.refl _)).mono ?_
  rintro e w1 ⟨⟨v1, rfl, hv1⟩, hk1⟩
  go_wp2_with fail
  refine (HB.out _ hk1).mono ?_
  rintro e w2 ⟨⟨v2, rfl, hv2⟩, hk2⟩
  have hv1' := hv1.kept hk2
  have HK := Lib.hid (hk1.trans hk2)
  obtain ⟨a2, c2, rfl⟩ := hv1'.shape
  obtain ⟨a3, c3, rfl⟩ := hv2.shape
  have H1 := Lib.hid hv1'
  have H2 := Lib.hid hv2
  obtain ⟨p, hp⟩ : ∃ p, p = (nw m).length := ⟨_, rfl⟩
  obtain ⟨q, hq⟩ : ∃ q, q = (nw n).length := ⟨_, rfl⟩
  have hp9 : p ≤ 1099511627776 := by rw [hp]; exact hv1'.len
  have hq9 : q ≤ 1099511627776 := by rw [hq]; exact hv2.len
  rw [← hp] at H1 ⊢
  rw [← hq] at H2 ⊢
  have HP := Lib.hid hp
  have HQ := Lib.hid hq
  clear hv1 hv1' hv2 hk1 hk2 hp hq
  rcases Nat.lt_trichotomy p q with hlt | heq | hgt
  · have hc := cmpN_lt (nw_lt_len (m := m) (n := n) (by have := HP.out; have := HQ.out; omega))
    have HC := Lib.hid hc
    have b1 : ((p : Int) != (q : Int)) = true := by simp; omega
    have b2 : decide (p < q) = true := by simpa using hlt
    clear hc
    go_wp2
    go_ret
    exact ⟨by rw [HC.out]; first | done | rfl, HK.out⟩
  · subst heq
    have b1 : ((p : Int) != (p : Int)) = false := by simp
    go_wp2
    go_loopg [5] p (fun kx s5 wr => ∃ k : Nat, s5 = .int .i64 ((k : Int) - 1) ∧ k ≤ p ∧ k ≤ kx ∧ Hid (∀ i, k ≤ i → (nw m).getD i 0 = (nw n).getD i 0) ∧ Hid (Kept w2 wr))
    case atStart => exact ⟨p, rfl, Nat.le_refl _, Nat.le_refl _, Lib.hid (fun i hi => by
      have h1 := HP.out
      have h2 := HQ.out
      simp [List.getD_eq_getElem?_getD, show (nw m).length ≤ i by omega, show (nw n).length ≤ i by omega]), Lib.hid (Kept.refl _)⟩
    case round =>
      obtain ⟨k, rfl, hk, hkx, HD, HR⟩ := hrel
      by_cases hk0 : k = 0
      · subst hk0
        have hc := cmpN_eq (show m = n by
          have h := nv_eq_of (HP.out.symm.trans HQ.out) (fun i => HD.out i (by omega))
          have h1 := nv_nw m
          rw [h, nv_nw] at h1
          exact h1.symm)
        have HC := Lib.hid hc
        clear hc
        go_wp2
        go_ret
        exact ⟨by rw [HC.out]; first | done | rfl, by first | exact HK.out.trans HR.out | exact (HK.out.trans HR.out).drew | exact ((HK.out.trans HR.out).drewN _).drewN _⟩
      · obtain ⟨j, rfl⟩ : ∃ j, k = j + 1 := ⟨k - 1, by omega⟩
        have hpj := HP.out
        have hqj := HQ.out
        obtain ⟨b, o, rfl, hx⟩ := (H1.out.kept HR.out).get j (by omega)
        obtain ⟨b', o', rfl, hy⟩ := (H2.out.kept HR.out).get j (by omega)
        have hxw := (nw_wd m).getD j
        have hyw := (nw_wd n).getD j
        have HLT : Hid ((nw m).getD j 0 < (nw n).getD j 0 → m < n) := Lib.hid fun h => by
          have := nv_lt_at (nw_wd m) (hpj.symm.trans hqj) (by omega) (fun i hi => HD.out i (by omega)) h
          rwa [nv_nw, nv_nw] at this
        have HGT : Hid ((nw n).getD j 0 < (nw m).getD j 0 → n < m) := Lib.hid fun h => by
          have := nv_lt_at (nw_wd n) (hqj.symm.trans hpj) (by omega) (fun i hi => (HD.out i (by omega)).symm) h
          rwa [nv_nw, nv_nw] at this
        have HEQ : Hid ((nw m).getD j 0 = (nw n).getD j 0 → ∀ i, j ≤ i → (nw m).getD i 0 = (nw n).getD i 0) := Lib.hid fun h i hi => by
          by_cases e : i = j
          · rw [e]; exact h
          · exact HD.out i (by omega)
        generalize (nw m).getD j 0 = x at *
        generalize (nw n).getD j 0 = y at *
        have e1 : ((j + 1 : Nat) : Int) - 1 = (j : Int) := by omega
        rw [e1]
        have hj0 : (0 : Int) ≤ (j : Int) := by omega
        have hjn : (j : Int) < (p : Int) := by omega
        clear hpj hqj e1
        rcases Nat.lt_trichotomy x y with h | h | h
        · have HC := Lib.hid (cmpN_lt (HLT.out h))
          have h' : (x : Int) < (y : Int) := by omega
          go_wp2
          go_region
          all_goals go_wp2
          all_goals go_ret
          all_goals exact ⟨by rw [HC.out]; first | done | rfl, by first | exact HK.out.trans HR.out | exact (HK.out.trans HR.out).drew | exact ((HK.out.trans HR.out).drewN _).drewN _⟩
        · subst h
          have h' : ¬ (x : Int) < (x : Int) := by omega
          have hr := Lib.hid (HEQ.out rfl)
          go_wp2
          go_quiet (fail)
          go_wp2
          go_quiet (fail)
          go_wp2
          go_roundg j
          case measure => omega
          case rel => exact ⟨j, rfl, by omega, Nat.le_refl _, hr, Lib.hid (by first | exact HR.out.drewN _ | exact (HR.out.drewN _).drewN _)⟩
        · have HC := Lib.hid (cmpN_gt (HGT.out h))
          have h' : ¬ (x : Int) < (y : Int) := by omega
          have h'' : (y : Int) < (x : Int) := by omega
          go_wp2
          go_quiet (fail)
          go_wp2
          go_quiet (fail)
          go_wp2
          go_ret
          exact ⟨by rw [HC.out]; first | done | rfl, by first | exact HK.out.trans HR.out | exact (HK.out.trans HR.out).drew | exact ((HK.out.trans HR.out).drewN _).drewN _⟩
  · have hc := cmpN_gt (nw_lt_len (m := n) (n := m) (by have := HP.out; have := HQ.out; omega))
    have HC := Lib.hid hc
    have b1 : ((p : Int) != (q : Int)) = true := by simp; omega
    have b2 : decide (p < q) = false := by simp; omega
    clear hc
    go_wp2
    go_ret
    exact ⟨by rw [HC.out]; first | done | rfl, HK.out⟩
end Go.Proofs.YthiemjodcklejaaGreatDoor
