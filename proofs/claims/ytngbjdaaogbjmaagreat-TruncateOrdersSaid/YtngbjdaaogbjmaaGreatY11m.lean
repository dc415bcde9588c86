import Derived.Test.YtngbjdaaogbjmaaGreatY10m
import Derived.Test.YtngbjdaaogbjmaaGreatTV3m
import Derived.Test.YtngbjdaaogbjmaaGreatY5m
import Derived.Test.YtngbjdaaogbjmaaGreatY1m
import Derived.Deep.RegionHeld3
import Derived.Deep.DeepCutAuto
import Derived.Deep.RegionLaw
import Derived.Test.YtngbjdaaogbjmaaGreatY12m
import Derived.Test.YtngbjdaaogbjmaaGreatTV7m
import Derived.Test.YtngbjdaaogbjmaaGreatY9m
import Derived.Test.YtngbjdaaogbjmaaGreatK2
/-
  Walks: the cutter of truncate: settle, its first loop.
-/
namespace Go.Proofs.YtngbjdaaogbjmaaGreat.Tr
open Go.RowKit
variable {y0 y1 y2 y3 y4 y6 : Value}

theorem RwsAt.get {w : World} {a : Option Addr} {n c : Nat} {L : List Nat} (h : RwsAt w (.slice a n c) L) (i : Nat) (hi : i < L.length) : ∃ b o, a = some ⟨b, o, none⟩ ∧ w.rangeAt b (o + i * 3) (rcells L[i]) := by
  obtain ⟨a', c', h1, _, _, _, h5⟩ := h
  injection h1 with h1
  obtain ⟨b, o, h6, h7⟩ := h5 i hi
  exact ⟨b, o, h1.trans h6, h7⟩
theorem RwsAt.lt {w : World} {v : Value} {L : List Nat} (h : RwsAt w v L) : ∀ c ∈ L, RowLt 152 c := by obtain ⟨_, _, _, _, _, h, _⟩ := h; exact h
theorem app_row1 {ops : Array Oper} {rest : List Oper} {o : Oper} {a : Act} {Q : Exit → Act → World → Prop} {w : World} (hgd : o.guard = none) (s x : Operand)
    (ho : o.op = .call { callee := .builtin .append, args := #[s, x], argTypes := #[105, 105] }) (B : Nat) (v : Value) (L : List Nat) (hs : a.eval s = v) (hown : OwnRws w B v L)
    (g c : Nat) (hx : a.eval x = .slice (some ⟨g, 0, none⟩) 1 1) (hu : w.rangeAt g 0 (rcells c)) (hc : RowLt 152 c) (hl : L.length < 10000) (hB : B ≤ w.heap.size)
    (h : ∀ v' w', OwnRws w' B v' (L ++ [c]) → w.grownBy w' v.ownBlock → Below B w w' → wpList Tryz.prog ops Q rest (a.put o.dst v') w') : wpList Tryz.prog ops Q (o :: rest) a w := by
  obtain ⟨i0, hi0, hz0, hz1, hz2⟩ := info_parts info_trow
  refine wpList_append_own _ hgd s x 105 ho B 109 i0 _ 3 24 Tryz.underlying105 hi0 hz0 hz1 hz2 rfl (by decide) v L.length _ hs hown.1 ⟨g, 0, none⟩ 1 1 (rcells c) hx rfl ?_ ?_ (by unfold maxLen; omega) (by omega) hB ?_
  · intro j u hj
    have := hu j u hj
    rw [addr_add]; exact this
  · intro u hu
    simp [rcells] at hu
    rcases hu with rfl | rfl | rfl <;> rfl
  · intro v' w' h6 h7 _
    refine h v' w' ⟨by rw [List.flatMap_append, List.flatMap_cons, List.flatMap_nil, List.append_nil, List.length_append]; exact h6, by simp; omega, fun x hx => ?_⟩ h7 (grown_below h7 hown.1 hB)
    rcases List.mem_append.1 hx with hx | hx
    · exact hown.2.2 x hx
    · simp at hx; subst hx; exact hc
/-- What the first loop has parted. -/
def inTo (P : Nat → Bool) (M : List Nat) (k : Nat) : List Nat := (M.take k).filter fun r => !P (evW r)
def goneTo (P : Nat → Bool) (M : List Nat) (k : Nat) : List Nat := ((M.take k).filter fun r => P (evW r)).map evW
theorem inTo_succ (P : Nat → Bool) (M : List Nat) (k : Nat) (h : k < M.length) : inTo P M (k + 1) = inTo P M k ++ (if P (evW M[k]) = true then [] else [M[k]]) := by
  unfold inTo
  rw [List.take_succ_eq_append_getElem h, List.filter_append]
  cases hp : P (evW M[k]) <;> simp [hp]
theorem goneTo_succ (P : Nat → Bool) (M : List Nat) (k : Nat) (h : k < M.length) : goneTo P M (k + 1) = goneTo P M k ++ (if P (evW M[k]) = true then [evW M[k]] else []) := by
  unfold goneTo
  rw [List.take_succ_eq_append_getElem h, List.filter_append, List.map_append]
  cases hp : P (evW M[k]) <;> simp [hp]
theorem inTo_len (P : Nat → Bool) (M : List Nat) (k : Nat) : (inTo P M k).length ≤ M.length := by
  unfold inTo
  exact Nat.le_trans (List.length_filter_le ..) (by rw [List.length_take]; omega)
theorem goneTo_len (P : Nat → Bool) (M : List Nat) (k : Nat) : (goneTo P M k).length ≤ M.length := by
  unfold goneTo
  rw [List.length_map]
  exact Nat.le_trans (List.length_filter_le ..) (by rw [List.length_take]; omega)
theorem OwnRws.tag {w w' : World} {B B' size' n' : Nat} {e' : TypeId} {v v' : Value} {L : List Nat} {xs' : List Value} (h : OwnRws w B v L) (h' : w.ownsRow B' e' size' v' n' xs') (hne : 109 ≠ e') (hg : w.grownBy w' v'.ownBlock) : OwnRws w' B v L :=
  ⟨own_tag h.1 h' hne (fun k hk hn => hg.block k hk hn), h.2⟩
theorem ints_tag {w w' : World} {B B' size' n' : Nat} {e' : TypeId} {v v' : Value} {L : List Int} {xs' : List Value} (h : OwnInts w B v L) (h' : w.ownsRow B' e' size' v' n' xs') (hne : 3 ≠ e') (hg : w.grownBy w' v'.ownBlock) : OwnInts w' B v L :=
  ⟨own_tag h.1 h' hne (fun k hk hn => hg.block k hk hn), h.2⟩
theorem frm_low {gl : Nat} {v v' : Value} {w w' : World} (h : Frm gl v v' w w') (hg : gl < w.heap.size) (hv : ∀ g, v.ownBlock = some g → gl < g) : Below gl w w' :=
  ⟨h.os, h.tape, h.output, h.size, fun k hk => h.block k (by omega) (by omega) fun e => by have := hv k e.symm; omega⟩
def SPost (y0 y1 y2 fn mv fv : Value) (gl : Nat) (P : Nat → Bool) (M F : List Nat) (W : World) (e : Ending) (w' : World) : Prop :=
  if 1024 < (settleR P M).length ∨ 1024 < (settleF P M F).length then e = .returned (errV 4) ∧ Below gl W w' else
    e = .returned (errV 0) ∧ ∃ (rv' fv' : Value) (R : List Nat), R.Perm (settleR P M) ∧ RowAt w' gl 107 [y0, y1, y2, fn, rv', mv, fv'] ∧ OwnRws w' W.heap.size rv' R ∧ OwnInts w' W.heap.size fv' (ofN (settleF P M F)) ∧ Frm gl fv fv' W w'
set_option maxRecDepth 100000 in
set_option maxHeartbeats 8000000 in
theorem settle_try (gl bk B : Nat) (kk : Int) (M F : List Nat) (mv fv : Value) (W : World) (hrow : RowAt W gl 107 [y0, y1, y2, .func (.func 39) #[] #[.pointer (some ⟨bk, 0, none⟩)], y4, mv, fv]) (hM : RwsAt W mv M) (hl : M.length ≤ 4096)
    (hF : OwnInts W B fv (ofN F)) (hF1 : F.length ≤ 1024) (hFm : ∀ t ∈ F, Mk t) (hbk : W.cell? ⟨bk, 0, none⟩ = some (.int .i64 kk)) (hgB : gl < B) (hB : B ≤ W.heap.size)
    (hsort : ∀ (B : Nat) (v : Value) (L : List Nat) (w : World), OwnRws w B v L → B ≤ w.heap.size → Calls Tryz.prog 134 #[v, .func (.func 135) #[] #[]] w fun e w' => e = .returned (.tuple #[]) ∧ ∃ M : List Nat, M.Perm L ∧ M.Pairwise (fun a b => pc a ≤ pc b) ∧ OwnRws w' B v M ∧ (Below B w w' ∧ ∀ k, k < w.heap.size → some k ≠ v.ownBlock → w'.heap[k]? = w.heap[k]?)) :
    Calls Tryz.prog 77 #[.pointer (some ⟨gl, 0, none⟩)] W fun e w' => SPost y0 y1 y2 (.func (.func 39) #[] #[.pointer (some ⟨bk, 0, none⟩)]) mv fv gl (overP kk) M F W e w' := by
  have HSORT := Lib.hid hsort
  have HF := Lib.hid hF
  have HFM := Lib.hid (And.intro hF1 hFm)
  have eg2 : ∀ args w, (callFunc 138 args).run Tryz.prog w = .ok (.enter 138 args) w := enters_of Tryz.func138 (by kernel_rfl) rfl
  have EG2 := Lib.hid eg2
  have hgl : gl < W.heap.size := hrow.lt
  clear hsort hF hF1 hFm eg2
  have HROW := Lib.hid hrow
  have HM := Lib.hid hM
  have c3 := hrow.cell (i := 3) (by simp)
  have c5 := hrow.cell (i := 5) (by simp)
  simp only [List.getElem_cons_succ, List.getElem_cons_zero] at c3 c5
  obtain ⟨ma, mc, hmv⟩ := hM.shape
  obtain ⟨n, hn⟩ : ∃ n, n = M.length := ⟨_, rfl⟩
  rw [← hn] at hmv hl
  subst hmv
  have HN := Lib.hid hn
  have HOV := Lib.hid (fun (e : Nat) (W' : World) (hk : Kept W W') (he : Mk e) => over_any kk e bk W' (hk.cell hbk) he)
  clear hrow hM hn hbk
  go_enter Tryz.func77, Tryz.ntmps77
  go_wp2
  go_loopg [3, 4, 14] n (fun kx s3 s4 s14 wr => ∃ (k : Nat) (vi vg : Value), s3 = vi ∧ s4 = vg ∧ s14 = .int .i64 k ∧ k ≤ n ∧ n - k ≤ kx ∧ Hid (OwnRws wr W.heap.size vi (inTo (overP kk) M k)) ∧ Hid (OwnInts wr W.heap.size vg (ofN (goneTo (overP kk) M k))) ∧ Hid (Kept W wr))
  case atStart => exact ⟨0, _, _, rfl, rfl, rfl, Nat.zero_le _, by omega, Lib.hid (by unfold inTo; simpa using OwnRws.nil _ _), Lib.hid (by unfold goneTo; simpa [ofN] using OwnInts.nil _ _), Lib.hid (Kept.refl _)⟩
  case round =>
    obtain ⟨k, vi, vg, rfl, rfl, rfl, hk, hkx, HI, HG, HK⟩ := hrel
    obtain ⟨ia, ic, hvi⟩ := HI.out.at.shape
    obtain ⟨iN, hiN⟩ : ∃ m, m = (inTo (overP kk) M k).length := ⟨_, rfl⟩
    rw [← hiN] at hvi
    subst hvi
    have HIN := Lib.hid hiN
    clear hiN
    obtain ⟨ga, gn, gc, rfl⟩ := HG.out.ints.shape
    have d3 := HK.out.cell c3
    have hszr := HK.out.size
    by_cases hlt : k < n
    · have hkl : k < M.length := by have := HN.out; omega
      obtain ⟨b, o, rfl, hrg⟩ := (HM.out.kept HK.out).get k hkl
      have hrl := HM.out.lt M[k] (List.getElem_mem _)
      have hi1 := inTo_succ (overP kk) M k hkl
      have hg1 := goneTo_succ (overP kk) M k hkl
      have hil := inTo_len (overP kk) M k
      have hgl := goneTo_len (overP kk) M k
      obtain ⟨r, hr⟩ : ∃ r, r = M[k] := ⟨_, rfl⟩
      rw [← hr] at hrg hrl hi1 hg1
      have HOV1 : Hid (∀ W', Kept wr W' → Calls Tryz.prog 39 #[.int .i64 (evW r), .pointer (some ⟨bk, 0, none⟩)] W' fun e w' => e = .returned (.bool (overP kk (evW r))) ∧ Kept W' w') := Lib.hid fun W' hk => HOV.out _ W' (HK.out.trans hk) (evW_lt r)
      have HRG : Hid (wr.rangeAt b (o + k * 3) [.int .i64 (evW r), .int .u64 (loW r), .int .u64 (hiW r)]) := Lib.hid hrg
      have HRC : Hid (rcells r = [.int .i64 (evW r), .int .u64 (loW r), .int .u64 (hiW r)]) := Lib.hid rfl
      have HRL := Lib.hid hrl
      have HI1 := Lib.hid hi1
      have HG1 := Lib.hid hg1
      have HIL : Hid ((inTo (overP kk) M k).length ≤ 4096 ∧ (goneTo (overP kk) M k).length ≤ 4096) := Lib.hid (by rw [← HN.out] at hil hgl; omega)
      have hkn : (k : Int) < (n : Int) := by omega
      generalize evW r = x0 at *
      generalize loW r = x1 at *
      generalize hiW r = x2 at *
      clear hrg hrl hi1 hg1 hil hgl hr
      obtain ⟨bp, hbp⟩ : ∃ bp, bp = overP kk x0 := ⟨_, rfl⟩
      rw [← hbp] at HOV1 HI1 HG1
      clear hbp
      go_wp2_with (with_reducible refine wpList_load_mid rfl 109 _ rfl b (o + k * 3) rfl _ _ HRG.out Tryz.underlying109 rfl (by kernel_rfl) ?_)
      go_cut [24] (fun p24 wx => p24 = .bool bp ∧ Hid (Kept wr wx) ∧ wx.cell? ⟨wr.heap.size, 0, none⟩ = some (.int .i64 x0) ∧ wx.cell? ⟨wr.heap.size, 1, none⟩ = some (.int .u64 x1) ∧ wx.cell? ⟨wr.heap.size, 2, none⟩ = some (.int .u64 x2))
      case first =>
        have e3 := (((Kept.refl wr).alloc (.cells #[.int .i64 x0, .int .u64 x1, .int .u64 x2] 109)).drew).cell d3
        go_region_with (go_at_call 39; (with_reducible refine (HOV1.out _ (((Kept.refl wr).alloc _).drew)).mono ?_); rintro e w3 ⟨rfl, hk3⟩)
        all_goals (go_wp2_with fail; go_meet)
        all_goals exact ⟨rfl, Lib.hid ((((Kept.refl wr).alloc _).drew).trans hk3), hk3.cell ((Kept.refl _).drew.cell (by simp)), hk3.cell ((Kept.refl _).drew.cell (by simp)), hk3.cell ((Kept.refl _).drew.cell (by simp))⟩
      case rest =>
        obtain ⟨rfl, HKX, q0, q1, q2⟩ := hcut
        have hszx := HKX.out.size
        clear d3 HOV1
        cases bp with
        | true =>
          go_wp2_with (at_builtin; refine app_int rfl _ _ rfl W.heap.size _ (ofN (goneTo (overP kk) M k)) rfl (HG.out.kept (HKX.out.alloc _)) _ (x0 : Int) rfl (by simp) (by have := HIL.out; simp [ofN]; omega) (by simp; omega) ?_; intro v7 w7 hown7 hg7 hb7; have O7 := Lib.hid hown7; have HB7 := Lib.hid hb7; have HG7 := Lib.hid hg7; clear hown7 hb7 hg7)
          go_roundg (n - (k + 1))
          case measure => omega
          case rel =>
            refine ⟨k + 1, _, _, rfl, rfl, by go_num, by omega, Nat.le_refl _, Lib.hid ?_, Lib.hid ?_, Lib.hid (Below.trans ((HK.out.trans HKX.out).alloc _) HB7.out)⟩
            · have e := HI1.out; simp at e; rw [e]
              exact (HI.out.kept (HKX.out.alloc _)).tag (HG.out.kept (HKX.out.alloc _)).1 (by decide) HG7.out
            · have e := HG1.out; simp at e; rw [e]
              have := O7.out
              simpa [ofN] using this
        | false =>
          go_wp2_with ((at_builtin; refine app_row1 rfl _ _ rfl W.heap.size _ (inTo (overP kk) M k) rfl (HI.out.kept (HKX.out.alloc _)) wc.heap.size r rfl (by rw [HRC.out]; exact range_row _ _ _ _ _) HRL.out (by have := HIL.out; omega) (by simp; omega) ?_; intro v7 w7 hown7 hg7 hb7; have O7 := Lib.hid hown7; have HB7 := Lib.hid hb7; have HG7 := Lib.hid hg7; clear hown7 hb7 hg7))
          go_roundg (n - (k + 1))
          case measure => omega
          case rel =>
            refine ⟨k + 1, _, _, rfl, rfl, by go_num, by omega, Nat.le_refl _, Lib.hid ?_, Lib.hid ?_, Lib.hid (Below.trans ((HK.out.trans HKX.out).alloc _) HB7.out)⟩
            · have e := HI1.out; simp at e; rw [e]
              exact O7.out
            · have e := HG1.out; simp at e; rw [e]
              exact ints_tag (HG.out.kept (HKX.out.alloc _)) (HI.out.kept (HKX.out.alloc _)).1 (by decide) HG7.out
    · have hke : k = n := by omega
      have HI1 : Hid (OwnRws wr W.heap.size (.slice ia iN ic) (M.filter fun r => !overP kk (evW r))) := Lib.hid (by have h := HI.out; unfold inTo at h; rw [hke, HN.out, List.take_length] at h; exact h)
      have HG1 : Hid (OwnInts wr W.heap.size (.slice ga gn gc) (ofN ((M.filter fun r => overP kk (evW r)).map evW))) := Lib.hid (by have h := HG.out; unfold goneTo at h; rw [hke, HN.out, List.take_length] at h; exact h)
      clear HI HG hke
      obtain ⟨L1, hL1⟩ : ∃ L1, L1 = M.filter fun r => !overP kk (evW r) := ⟨_, rfl⟩
      rw [← hL1] at HI1
      obtain ⟨G1, hG1⟩ : ∃ G1, G1 = (M.filter fun r => overP kk (evW r)).map evW := ⟨_, rfl⟩
      rw [← hG1] at HG1
      have HL1 := Lib.hid hL1
      have HGG := Lib.hid hG1
      have HS := Lib.hid (HSORT.out W.heap.size _ L1 wr HI1.out hszr)
      clear hL1 hG1 d3
      go_wp2_with fail
      refine HS.out.mono ?_
      rintro e w2 ⟨rfl, L2, hperm, hpair, ho2, hb2, hne2⟩
      have hg2 := sort_ints HG1.out HI1.out hne2
      have HG2 := Lib.hid hg2
      clear hne2 hg2
      have hk2 : Kept W w2 := HK.out.app hb2
      have HK2 := Lib.hid hk2
      have HPM : Hid (L2.Perm L1 ∧ L2.Pairwise (fun a b => pc a ≤ pc b)) := ⟨hperm, hpair⟩
      have HO2 := Lib.hid ho2
      have HB2 := Lib.hid hb2
      have hr2 := HROW.out.kept hk2
      have HR2 := Lib.hid hr2
      have f4 := hr2.free 4
      have d4 := hr2.cell (i := 4) (by simp)
      simp only [List.getElem_cons_succ, List.getElem_cons_zero] at d4
      clear hperm hpair ho2 hb2 hk2 hr2
      go_wp2
      obtain ⟨w3, hw3⟩ : ∃ w3, w3 = w2.setCell ⟨gl, 4, none⟩ (.slice none 0 0) := ⟨_, rfl⟩
      rw [← hw3]
      have HF3 : Hid (Frm gl (.slice none 0 0) (.slice none 0 0) W w3) := Lib.hid (by rw [hw3]; exact frm_store HK2.out 4 _)
      have HR3 : Hid (RowAt w3 gl 107 [y0, y1, y2, .func (.func 39) #[] #[.pointer (some ⟨bk, 0, none⟩)], .slice none 0 0, .slice ma n mc, fv]) := Lib.hid (by rw [hw3]; have := HR2.out.store 4 (.slice none 0 0); simpa using this)
      have HO3 : Hid (OwnRws w3 W.heap.size (.slice ia iN ic) L2) := Lib.hid (by rw [hw3]; exact rws_frm HO2.out hgl (frm_store (Kept.refl _) 4 _))
      have HG3 : Hid (OwnInts w3 W.heap.size (.slice ga gn gc) (ofN G1)) := Lib.hid (by rw [hw3]; exact ints_frm HG2.out hgl (frm_store (Kept.refl _) 4 _))
      have HV3 : Hid (OwnInts w3 B fv (ofN F)) := Lib.hid (ints_frm HF.out hgB HF3.out)
      have hsz3 := HF3.out.size
      clear hw3 HI1 HG1 HR2 HO2 HB2 HG2 HK2 HK f4 d4
      have hL2 : L2.length = iN := by have := HO3.out.at; obtain ⟨_, _, h, _⟩ := this; injection h with _ h _; exact h.symm
      have HL2 := Lib.hid hL2
      clear hL2
      go_loopg [42] iN (fun kx s42 wq => ∃ (j : Nat) (vo : Value), s42 = .int .i64 j ∧ j ≤ iN ∧ iN - j ≤ kx ∧ Hid (CutR y0 y1 y2 (.func (.func 39) #[] #[.pointer (some ⟨bk, 0, none⟩)]) (.slice ma n mc) fv wq gl w3.heap.size vo (minN (L2.take j))) ∧ Hid (Frm gl (.slice none 0 0) vo w3 wq))
      case atStart => exact ⟨0, _, rfl, Nat.zero_le _, by omega, Lib.hid ⟨HR3.out, OwnRws.nil _ _⟩, Lib.hid (Frm.of_kept (Kept.refl _))⟩
      case round =>
        obtain ⟨j, vo, rfl, hj, hjx, HC2, HFQ⟩ := hrel
        have hszq := HFQ.out.size
        obtain ⟨ao, co, hvo⟩ := HC2.out.2.at.shape
        obtain ⟨mo, hmo⟩ : ∃ mo, mo = (minN (L2.take j)).length := ⟨_, rfl⟩
        rw [← hmo] at hvo
        subst hvo
        by_cases hlt2 : j < iN
        · have hjl : j < L2.length := by have := HL2.out; omega
          have hmo9 : mo ≤ j := by rw [hmo]; refine Nat.le_trans (len_minN _ []) ?_; simp; omega
          obtain ⟨b, o, rfl, hrg⟩ := (rws_frm HO3.out hgl HFQ.out).at.get j hjl
          have hxl := HO3.out.2.2 L2[j] (List.getElem_mem _)
          have hstep := minN_take L2 j hjl
          have hin : iN ≤ 4096 := by rw [← HL2.out, HPM.out.1.length_eq, HL1.out]; exact Nat.le_trans (List.length_filter_le ..) (by rw [← HN.out]; exact hl)
          obtain ⟨x, hxx⟩ : ∃ x, x = L2[j] := ⟨_, rfl⟩
          rw [← hxx] at hrg hxl hstep
          obtain ⟨out, hout⟩ : ∃ out, out = minN (L2.take j) := ⟨_, rfl⟩
          rw [← hout] at hstep HC2 hmo
          have HST := Lib.hid hstep
          have HXL := Lib.hid hxl
          have d4 := HC2.out.1.cell (i := 4) (by simp)
          simp only [List.getElem_cons_succ, List.getElem_cons_zero] at d4
          have hglq := HC2.out.1.lt
          have HNE := Lib.hid (list_apart HC2.out.2 HC2.out.1)
          have HHAS : Hid (∀ W, Kept wr W → W.cell? ⟨wr.heap.size, 0, none⟩ = some (.int .i64 (evW x)) → W.cell? ⟨wr.heap.size, 1, none⟩ = some (.int .u64 (loW x)) → W.cell? ⟨wr.heap.size, 2, none⟩ = some (.int .u64 (hiW x)) →
            Calls Tryz.prog 137 #[.slice ao mo co, .func (.func 138) #[] #[.pointer (some ⟨wr.heap.size, 0, none⟩)]] W fun e w' => e = .returned (.bool (out.any fun t => subN t x)) ∧ Kept W w') := Lib.hid fun W hk h0 h1 h2 =>
              hasR_any 138 #[.pointer (some ⟨wr.heap.size, 0, none⟩)] EG2.out (fun t => subN t x) _ out W (decides_part x wr.heap.size W hxl h0 h1 h2) ((HC2.out.2.kept hk).at)
          have HRC : Hid (rcells x = [.int .i64 (evW x), .int .u64 (loW x), .int .u64 (hiW x)]) := rfl
          unfold rcells at hrg
          generalize evW x = z0 at *
          generalize loW x = z1 at *
          generalize hiW x = z2 at *
          have HRG := Lib.hid hrg
          have HMO := Lib.hid hmo
          have HXX := Lib.hid hxx
          have hkn : (j : Int) < (iN : Int) := by omega
          clear hrg hxl hstep hxx hout hmo
          cases hq : out.any (fun t => subN t x) with
          | true =>
            have HQ := Lib.hid hq
            rw [hq] at HHAS
            clear hq
            go_wp2_with (first | (with_reducible refine wpList_load_mid rfl 109 _ rfl b (o + j * 3) rfl _ _ HRG.out Tryz.underlying109 rfl (by kernel_rfl) ?_) | (go_at_call 137; refine (HHAS.out _ ((Kept.refl _).alloc _) (by simp) (by simp) (by simp)).mono ?_; rintro e w4 ⟨rfl, hk4⟩))
            go_roundg (iN - (j + 1))
            case measure => omega
            case rel =>
              have hk5 : Kept wr w4 := ((Kept.refl _).alloc _).trans hk4
              exact ⟨j + 1, _, by go_num, by omega, Nat.le_refl _, Lib.hid (by rw [HST.out, keepN, HQ.out]; exact ⟨HC2.out.1.kept hk5, HC2.out.2.kept hk5⟩), Lib.hid (HFQ.out.trans (Frm.of_kept hk5))⟩
          | false =>
            have HQ := Lib.hid hq
            rw [hq] at HHAS
            clear hq
            obtain ⟨i0, hi0, hz0, hz1, hz2⟩ := info_parts info_trow
            have I0 := Lib.hid hi0
            have I1 := Lib.hid hz0
            have I2 := Lib.hid hz1
            have I3 := Lib.hid hz2
            clear hi0 hz0 hz1 hz2
            go_wp2_with (first | (with_reducible refine wpList_load_mid rfl 109 _ rfl b (o + j * 3) rfl _ _ HRG.out Tryz.underlying109 rfl (by kernel_rfl) ?_) | (go_at_call 137; refine (HHAS.out _ ((Kept.refl _).alloc _) (by simp) (by simp) (by simp)).mono ?_; rintro e w4 ⟨rfl, hk4⟩; have b0 := hk4.cell (p := ⟨wr.heap.size, 0, none⟩) (v := .int .i64 z0) (by simp); have b1 := hk4.cell (p := ⟨wr.heap.size, 1, none⟩) (v := .int .u64 z1) (by simp); have b2 := hk4.cell (p := ⟨wr.heap.size, 2, none⟩) (v := .int .u64 z2) (by simp); have hk5 : Kept wr w4 := ((Kept.refl _).alloc _).trans hk4; have HK5 := Lib.hid hk5; have hs5 := hk5.size; have hsz4 := hk4.size; have HR4 := Lib.hid (HC2.out.1.kept hk5); have HV4 := Lib.hid (HC2.out.2.kept hk5); have d4' := hk5.cell d4; clear hk4 hk5))
            have cA0 := ((Kept.refl w4).drew).cell b0
            have cA1 := ((Kept.refl w4).drew).cell b1
            have cA2 := ((Kept.refl w4).drew).cell b2
            have cA4 := ((Kept.refl w4).drew).cell d4'
            have cB : ∀ O, ((w4.alloc O).drew).cell? ⟨gl, 4, none⟩ = some (.slice ao mo co) := fun O => (((Kept.refl w4).alloc O).drew).cell d4'
            have HO2 : Hid (∀ O, ((w4.alloc O).drew).ownsRow w3.heap.size 109 3 (.slice ao mo co) mo (out.flatMap rcells)) := Lib.hid fun O => by
              have h := (HV4.out.kept (((Kept.refl w4).alloc O).drew)).1
              rw [← HMO.out] at h; exact h
            have f0 := HR4.out.free 4
            have hgl4 : gl < w4.heap.size := HR4.out.lt
            go_region_law ((refine step_append_lies _ (by rfl) _ _ _ (by rfl) w3.heap.size 109 i0 _ 3 24 Tryz.underlying105 I0.out I1.out I2.out I3.out rfl (by omega) (.slice ao mo co) mo _ (by rfl) (HO2.out _) ⟨w4.heap.size, 0, none⟩ 1 1 [.int .i64 z0, .int .u64 z1, .int .u64 z2] (by rfl) (by rfl) (World.news_of_block (cs := #[.int .i64 z0, .int .u64 z1, .int .u64 z2]) (t := 109) (fr := (0, 0)) (heap_new1d w4 _)) (by simp [Value.oneCell']) (by omega) (by unfold maxLen; omega) (by omega) (by simp at hsz4 ⊢; omega) (w4.heap.size + 1) (by simp) ?_; intro gg cap w5 hown5 hgrow hat hlt5; have st5 := hgrow.cell (a := ⟨gl, 4, none⟩) (v := .slice ao mo co) (cB _) HNE.out; have sf5 := (World.frozen?_of_block (a := ⟨gl, 4, none⟩) (hgrow.block gl (by simp; omega) HNE.out)).trans ((Below.frozen (((Kept.refl w4).alloc _).drew) (p := ⟨gl, 4, none⟩) (by simp; omega)).trans f0)))
            all_goals go_wp2
            all_goals
              have hs := settle_step HR4.out HV4.out (by simp at hsz4; omega) HXL.out (by have := HMO.out; omega) HMO.out (c := x) (by rw [HRC.out]; exact hown5) hgrow hat
              have HS5 := Lib.hid hs
              clear hs
              go_roundg (iN - (j + 1))
              case measure => omega
              case rel => exact ⟨j + 1, _, by go_num, by omega, Nat.le_refl _, Lib.hid (by rw [HST.out, keepN, HQ.out]; exact HS5.out.1), Lib.hid ((HFQ.out.trans (Frm.of_kept HK5.out)).trans HS5.out.2)⟩
        · have hje : j = iN := by omega
          have HC3 : Hid (CutR y0 y1 y2 (.func (.func 39) #[] #[.pointer (some ⟨bk, 0, none⟩)]) (.slice ma n mc) fv wr gl w3.heap.size (.slice ao mo co) (minN L2)) := Lib.hid (by have h := HC2.out; rw [hje, ← HL2.out, List.take_length] at h; exact h)
          have hmo2 : mo = (minN L2).length := by rw [hmo, hje, ← HL2.out, List.take_length]
          have HMR : Hid ((minN L2).Perm (settleR (overP kk) M)) := Lib.hid (by unfold settleR; rw [← HL1.out]; exact least_perm HPM.out.1 HPM.out.2)
          have hmo3 : mo = (settleR (overP kk) M).length := hmo2.trans HMR.out.length_eq
          have d4 := HC3.out.1.cell (i := 4) (by simp)
          have d6 := HC3.out.1.cell (i := 6) (by simp)
          simp only [List.getElem_cons_succ, List.getElem_cons_zero] at d4 d6
          have HMO := Lib.hid hmo3
          clear hmo hmo2 hmo3 hje HC2
          by_cases hbig : 1024 < mo
          · have hb' : (mo : Int) > 1024 := by omega
            go_wp2
            go_ret
            unfold SPost
            rw [if_pos (.inl (by rw [← HMO.out]; exact hbig))]
            exact ⟨rfl, frm_low (HF3.out.trans HFQ.out) hgl (by simp [Value.ownBlock])⟩
          · have hb' : ¬ (mo : Int) > 1024 := by omega
            have HSF : Hid (settleF (overP kk) M F = minK (F ++ G1)) := Lib.hid (by unfold settleF; rw [HGG.out])
            have hgn : G1.length ≤ 4096 := by rw [HGG.out, List.length_map]; exact Nat.le_trans (List.length_filter_le ..) (by rw [← HN.out]; exact hl)
            have HGN := Lib.hid hgn
            have HMK : Hid (∀ t ∈ F ++ G1, Mk t) := Lib.hid fun t ht => by
              rcases List.mem_append.1 ht with h | h
              · exact HFM.out.2 t h
              · rw [HGG.out] at h
                obtain ⟨r, _, rfl⟩ := List.mem_map.1 h
                exact evW_lt r
            have HVQ := Lib.hid (ints_frm HV3.out hgB HFQ.out)
            have HGQ := Lib.hid (ints_frm HG3.out hgl HFQ.out)
            have hBq : B ≤ wr.heap.size := by omega
            obtain ⟨SF, hSF⟩ : ∃ SF, SF = minK (F ++ G1) := ⟨_, rfl⟩
            have HSF2 := Lib.hid hSF
            clear hgn hSF
            have hHR : ∀ w8, (∀ k, k < wr.heap.size → some k ≠ fv.ownBlock → w8.heap[k]? = wr.heap[k]?) → RowAt w8 gl 107 [y0, y1, y2, .func (.func 39) #[] #[.pointer (some ⟨bk, 0, none⟩)], .slice ao mo co, .slice ma n mc, fv] := fun w8 h8 =>
              HC3.out.1.same (h8 gl HC3.out.1.lt fun e => by have := (HVQ.out.1.lt gl e.symm).1; omega)
            have HHR := Lib.hid hHR
            clear hHR
            go_wp2_with (first | (at_builtin; refine app_ints rfl _ _ rfl B _ (ofN F) rfl HVQ.out _ (ofN G1) rfl HGQ.out.ints (by have := HFM.out.1; have := HGN.out; simp [ofN]; omega) hBq ?_; intro v8 w8 hown8 hne8 hb8; have HR8 := Lib.hid (HHR.out w8 hne8); have HO8 := Lib.hid hown8; have HNE8 := Lib.hid hne8; have HB8 := Lib.hid hb8; clear hown8 hne8 hb8) | (go_at_call 82; refine (tminimal_any v8 (F ++ G1) w8 HMK.out (by have h := HO8.out.ints; simpa [ofN] using h) (by have := HFM.out.1; have := HGN.out; simp; omega)).mono ?_; rintro e w9 ⟨v9, rfl, hs9, hk9⟩; have HS9 := Lib.hid hs9; have HK9 := Lib.hid hk9; have hr9 := HR8.out.kept hk9; have f9 := hr9.free 6; have e9 := hr9.cell (i := 6) (by simp); have g9 := hr9.lt; have HR9 := Lib.hid hr9; obtain ⟨a9, c9, hv9, _⟩ := hs9.1.ints; obtain ⟨n9, hn9⟩ : ∃ n9, n9 = (ofN (minK (F ++ G1))).length := ⟨_, rfl⟩; rw [← hn9] at hv9; subst hv9; have HN9 := Lib.hid hn9; simp only [List.getElem_cons_succ, List.getElem_cons_zero] at e9; clear hs9 hk9 hr9 hn9))
            all_goals
              have HFR9 : Hid (Frm gl fv (.slice a9 n9 c9) W (w9.setCell ⟨gl, 6, none⟩ (.slice a9 n9 c9))) := Lib.hid (by
                have h3 : Below 0 w9 (w9.setCell ⟨gl, 6, none⟩ (.slice a9 n9 c9)) := Below.setCell (Below.refl _ _) (Nat.zero_le _) _
                have hb8 := HB8.out
                have hk9 := HK9.out
                have hs8 := hb8.size
                have hf := HF3.out.trans HFQ.out
                refine ⟨h3.os.trans (hk9.os.trans (hb8.os.trans hf.os)), h3.tape.trans (hk9.tape.trans (hb8.tape.trans hf.tape)), h3.output.trans (hk9.output.trans (hb8.output.trans hf.output)), Nat.le_trans hf.size (Nat.le_trans hs8 (Nat.le_trans hk9.size h3.size)), fun k hk e1 e2 => ?_, .inr fun g hg => ?_⟩
                · have hkr : k < wr.heap.size := Nat.lt_of_lt_of_le hk hf.size
                  exact (Below.heap_setCell w9 ⟨gl, 6, none⟩ _ k e1).trans ((hk9.block k (by omega)).trans ((HNE8.out k hkr e2).trans (hf.block k hk e1 (by simp [Value.ownBlock]))))
                · have := (HS9.out.1.1.lt g hg).1
                  have := hf.size
                  omega)
              have hnl : n9 = (settleF (overP kk) M F).length := by rw [HSF.out, HN9.out]; simp [ofN]
              have hs8 := HB8.out.size
              have HRW : Hid (OwnRws (w9.setCell ⟨gl, 6, none⟩ (.slice a9 n9 c9)) W.heap.size (.slice ao mo co) (minN L2)) := Lib.hid (by
                have h1 : OwnRws w8 w3.heap.size (.slice ao mo co) (minN L2) := ⟨own_tag HC3.out.2.1 HVQ.out.1 (by decide) HNE8.out, HC3.out.2.2⟩
                exact (rws_frm (h1.kept HK9.out) (by omega) (frm_store (Kept.refl _) 6 _)).mono hsz3)
              have HFW : Hid (OwnInts (w9.setCell ⟨gl, 6, none⟩ (.slice a9 n9 c9)) W.heap.size (.slice a9 n9 c9) (ofN (settleF (overP kk) M F))) := Lib.hid (by
                rw [HSF.out]
                exact (ints_frm HS9.out.1 (by omega) (frm_store (Kept.refl _) 6 _)).mono (by omega))
              have HRF : Hid (RowAt (w9.setCell ⟨gl, 6, none⟩ (.slice a9 n9 c9)) gl 107 [y0, y1, y2, .func (.func 39) #[] #[.pointer (some ⟨bk, 0, none⟩)], .slice ao mo co, .slice ma n mc, .slice a9 n9 c9]) := Lib.hid (by
                have := HR9.out.store 6 (.slice a9 n9 c9)
                simpa using this)
              go_ret
              unfold SPost
              by_cases hbF : 1024 < n9
              · rw [if_pos (.inr (by rw [← hnl]; exact hbF))]
                first
                  | exact ⟨rfl, frm_low HFR9.out hgl (fun g hg => by have := (HVQ.out.1.lt g hg).1; omega)⟩
                  | (exfalso; omega)
              · rw [if_neg (by rw [← hnl, ← HMO.out]; omega)]
                first
                  | exact ⟨rfl, _, _, minN L2, HMR.out, HRF.out, HRW.out, HFW.out, HFR9.out⟩
                  | (exfalso; omega)
end Go.Proofs.YtngbjdaaogbjmaaGreat.Tr
