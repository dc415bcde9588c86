import Derived.Test.YtngbjdaaogbjmaaGreatY25m
import Derived.Test.YtngbjdaaogbjmaaGreatY16m
import Derived.Deep.DeepCutAuto
import Derived.Deep.CutBlock
/-
  Walks: faultlineref35.run.
-/
namespace Go.Proofs.YtngbjdaaogbjmaaGreat
open Go.RowKit

theorem four_rows (w : World) (c1 c2 c3 c4 : Array Value) (e1 e2 e3 e4 : TypeId) : RowAt ((((w.alloc (.cells c1 e1)).alloc (.cells c2 e2)).alloc (.cells c3 e3)).alloc (.cells c4 e4)) w.heap.size e1 c1.toList ∧ RowAt ((((w.alloc (.cells c1 e1)).alloc (.cells c2 e2)).alloc (.cells c3 e3)).alloc (.cells c4 e4)) (w.heap.size + 1) e2 c2.toList ∧ RowAt ((((w.alloc (.cells c1 e1)).alloc (.cells c2 e2)).alloc (.cells c3 e3)).alloc (.cells c4 e4)) (w.heap.size + 1 + 1) e3 c3.toList ∧ RowAt ((((w.alloc (.cells c1 e1)).alloc (.cells c2 e2)).alloc (.cells c3 e3)).alloc (.cells c4 e4)) (w.heap.size + 1 + 1 + 1) e4 c4.toList := by
  refine ⟨(RowAt.made w c1 e1).kept (((Kept.refl _).alloc _).alloc _ |>.alloc _), ?_, ?_, ?_⟩
  · have := (RowAt.made (w.alloc (.cells c1 e1)) c2 e2).kept (((Kept.refl _).alloc (.cells c3 e3)).alloc (.cells c4 e4))
    simpa using this
  · have := (RowAt.made ((w.alloc (.cells c1 e1)).alloc (.cells c2 e2)) c3 e3).kept ((Kept.refl _).alloc (.cells c4 e4))
    simpa using this
  · have := RowAt.made (((w.alloc (.cells c1 e1)).alloc (.cells c2 e2)).alloc (.cells c3 e3)) c4 e4
    simpa using this
theorem ints_single {W : World} {g : Nat} {d : Int} (h : W.heap[g]? = some (.cells #[.int .i64 d] 3 (0, 0))) : OwnInts W 0 (.slice (some ⟨g, 0, none⟩) 1 1) [d] :=
  ⟨⟨by simp, .inr ⟨g, 1, _, rfl, Nat.zero_le _, h, Nat.le_refl _, by unfold maxLen; omega, by simp, by simp⟩⟩, by simp⟩
theorem ints_len' {w : World} {a : Option Addr} {n c : Nat} {R : List Nat} (h : IntsAt w (.slice a n c) (ofN R)) : n = R.length := by
  obtain ⟨_, _, h, _⟩ := h
  injection h with _ h _
  rw [h]; simp [ofN]
/-- What the reference's search with a limit answers. -/
def SRes (w : World) (e : Ending) : Option (List Nat × List Nat) → Prop
  | none => e = .returned (.tuple #[.agg #[.slice none 0 0, .slice none 0 0], .int .i64 4])
  | some p => ∃ kv fv, e = .returned (.tuple #[.agg #[kv, fv], .int .i64 0]) ∧ IntsAt w kv (ofN p.1) ∧ IntsAt w fv (ofN p.2)
theorem RefAt.start {V T : Nat} {f : Fm} {P : Nat → Bool} : RefAt V T f P [cond V (T : Int)] [] (-1) (f.nodes.length + 1) := .inl ⟨rfl, rfl, rfl, Nat.le_refl _⟩
set_option maxRecDepth 100000 in
set_option maxHeartbeats 8000000 in
theorem rrun35_any (v : Value) (f : Fm) (V T : Nat) (P : Nat → Bool) (bp lb : Bool) (kq : Int) (p0 l0 d0 : Option Addr) (p1 p2 l1 l2 d1 d2 : Nat) (w : World) (hv : NodesAt w v f.nodes) (hok : Ok f V T) (hs : synK V T f = true)
    (hbe : BeyAt w (.agg #[.int .i64 kq, .slice p0 p1 p2, .bool lb, .slice l0 l1 l2, .slice d0 d1 d2]) bp P) :
    Calls Tryz.prog 43 #[.agg #[.int .i64 V, v, .int .i64 T], .agg #[.int .i64 kq, .slice p0 p1 p2, .bool lb, .slice l0 l1 l2, .slice d0 d1 d2], .bool bp] w fun e w' => SRes w' e (topT V T P f.nodes) ∧ Kept w w' := by
  have HNR := Lib.hid (fun i (hi : i < f.nodes.length) => node_read hv i hi)
  have HOK := Lib.hid hok
  have HMO := Lib.hid (fun i (hi : i < f.nodes.length) h => kind_mono hok hs i hi h)
  have HSY := Lib.hid hs
  have HBE := Lib.hid hbe
  have hsh : ∃ a n c, v = .slice a n c := by obtain ⟨a, c, h, _⟩ := hv; exact ⟨a, _, c, h⟩
  obtain ⟨a, n, c, rfl⟩ := hsh
  have h24 := hok.v24
  have h128 := hok.n128
  have htl := hok.tlt
  have hc0 : RowLt 152 (cond V (T : Int)) := rowLt_mono (rowLt_cond (V := V) (m := 128) (by omega) h24) (by omega)
  have HN1 := Lib.hid (nodes_one V T h24 (by omega))
  obtain ⟨c0, hc00⟩ : ∃ c0, c0 = cond V (T : Int) := ⟨_, rfl⟩
  rw [← hc00] at hc0 HN1
  have HC0 := Lib.hid hc0
  have HCC := Lib.hid hc00
  obtain ⟨nl, hnl⟩ : ∃ nl, nl = f.nodes.length := ⟨_, rfl⟩
  have HNL := Lib.hid hnl
  obtain ⟨x0, hx0⟩ : ∃ x, x = evW c0 := ⟨_, rfl⟩
  have HX0 := Lib.hid hx0
  have hx9 : x0 < 16777216 := by rw [hx0]; exact evW_lt c0
  have htV : T < V + 128 := by omega
  clear hv hok hs hc0 hc00 hnl hx0 hbe htl h128
  go_enter Tryz.func43, Tryz.ntmps43
  go_upto_if 25 with fail
  go_cut [8] (fun p8 wx => ∃ (ua : Option Addr) (un uc : Nat), p8 = .pointer (some ⟨w.heap.size + 1 + 1 + 1, 0, none⟩) ∧ Hid (RowAt wx (w.heap.size + 1 + 1 + 1) 118 [.int .i64 x0, .slice ua un uc]) ∧ Hid (NdsAt none wx (.slice ua un uc) c0) ∧ Hid (RowAt wx w.heap.size 24 [.int .i64 V, .slice a n c, .int .i64 T]) ∧ Hid (RowAt wx (w.heap.size + 1) 78 [.int .i64 kq, .slice p0 p1 p2, .bool lb, .slice l0 l1 l2, .slice d0 d1 d2]) ∧ Hid (RowAt wx (w.heap.size + 1 + 1) 29 [.slice none 0 0, .slice none 0 0]) ∧ Hid (Kept w wx))
  case first =>
    obtain ⟨r1, r2, r3, r4⟩ := four_rows w #[.int .i64 V, .slice a n c, .int .i64 T] #[.int .i64 kq, .slice p0 p1 p2, .bool lb, .slice l0 l1 l2, .slice d0 d1 d2] #[.slice none 0 0, .slice none 0 0] #[.int .i64 0, .slice none 0 0] 24 78 29 118
    have R1 := Lib.hid r1
    have R2 := Lib.hid r2
    have R3 := Lib.hid r3
    have R4 := Lib.hid r4
    have g0 := r1.cell (i := 0) (by simp)
    have g2 := r1.cell (i := 2) (by simp)
    have f0 := r4.free 0
    have f1 := r4.free 1
    have s0 := r4.cell (i := 0) (by simp)
    have s1 := r4.cell (i := 1) (by simp)
    have hk0 := (((((Kept.refl w).alloc (.cells #[.int .i64 V, .slice a n c, .int .i64 T] 24)).alloc (.cells #[.int .i64 kq, .slice p0 p1 p2, .bool lb, .slice l0 l1 l2, .slice d0 d1 d2] 78)).alloc (.cells #[.slice none 0 0, .slice none 0 0] 29)).alloc (.cells #[.int .i64 0, .slice none 0 0] 118))
    have HK0 := Lib.hid hk0
    obtain ⟨W0, hW0⟩ : ∃ W0, W0 = (((w.alloc (.cells #[.int .i64 V, .slice a n c, .int .i64 T] 24)).alloc (.cells #[.int .i64 kq, .slice p0 p1 p2, .bool lb, .slice l0 l1 l2, .slice d0 d1 d2] 78)).alloc (.cells #[.slice none 0 0, .slice none 0 0] 29)).alloc (.cells #[.int .i64 0, .slice none 0 0] 118) := ⟨_, rfl⟩
    simp only [List.getElem_cons_succ, List.getElem_cons_zero] at g0 g2 s0 s1
    have hsz : W0.heap.size = w.heap.size + 1 + 1 + 1 + 1 := by rw [hW0]; simp
    rw [← hW0] at R1 R2 R3 R4 g0 g2 f0 f1 s0 s1 HK0 ⊢
    have HSZ := Lib.hid hsz
    clear hW0 r1 r2 r3 r4 hk0 hsz
    by_cases hT : T < V
    · obtain ⟨e1, e2⟩ := HN1.out.1 hT
      have ew := shlW T (by omega)
      have ex : x0 = 2 ^ T := by rw [HX0.out, e2]
      rw [← ex] at ew
      have hTi : (T : Int) < (V : Int) := by omega
      have HE1 := Lib.hid e1
      clear e1 e2 ex
      go_wp2
      go_meet
      have h4 := R4.out.store 0 (.int .i64 x0)
      refine ⟨none, 0, 0, rfl, Lib.hid (by simpa using h4), Lib.hid ⟨by rw [HE1.out]; simpa [ofN] using OwnInts.nil _ _, fun g hg => by simp [Value.ownBlock] at hg⟩, Lib.hid (R1.out.other (by omega) 0 _), Lib.hid (R2.out.other (by omega) 0 _), Lib.hid (R3.out.other (by omega) 0 _), Lib.hid (HK0.out.store (by omega) 0 _)⟩
    · obtain ⟨e1, e2⟩ := HN1.out.2 hT
      have ex : x0 = 0 := by rw [HX0.out, e2]
      subst ex
      have hTi : ¬ (T : Int) < (V : Int) := by omega
      obtain ⟨d, hd⟩ : ∃ d, d = T - V := ⟨_, rfl⟩
      rw [← hd] at e1
      have ed : (T : Int) - (V : Int) = (d : Int) := by omega
      have HE1 := Lib.hid e1
      clear e1 e2 hd
      have hl3 : w.heap.size + 1 + 1 + 1 < W0.heap.size := by have := HSZ.out; omega
      go_wp2
      go_meet
      have h4 := (R4.out.store 1 (.slice (some ⟨W0.heap.size, 0, none⟩) 1 1)).kept ((Kept.refl _).alloc (.cells #[.int .i64 d] 3))
      have hb : ((W0.setCell ⟨w.heap.size + 1 + 1 + 1, 1, none⟩ (.slice (some ⟨W0.heap.size, 0, none⟩) 1 1)).alloc (.cells #[.int .i64 d] 3)).heap[W0.heap.size]? = some (.cells #[.int .i64 d] 3 (0, 0)) := by
        have := heap_alloc_new (W0.setCell ⟨w.heap.size + 1 + 1 + 1, 1, none⟩ (.slice (some ⟨W0.heap.size, 0, none⟩) 1 1)) (.cells #[.int .i64 d] 3)
        simpa using this
      refine ⟨_, 1, 1, rfl, Lib.hid (by simpa using h4), Lib.hid ⟨by rw [HE1.out]; exact ints_single hb, fun g hg => by simp⟩, Lib.hid ((R1.out.other (by omega) 1 _).kept ((Kept.refl _).alloc _)), Lib.hid ((R2.out.other (by omega) 1 _).kept ((Kept.refl _).alloc _)), Lib.hid ((R3.out.other (by omega) 1 _).kept ((Kept.refl _).alloc _)), Lib.hid ((HK0.out.store (by omega) 1 _).alloc _)⟩
  case rest =>
    obtain ⟨ua, un, uc, rfl, HR4, HND, HR1, HR2, HR3, HKW⟩ := hcut
    have hr4 := HR4.out
    have q0 := hr4.cell (i := 0) (by simp)
    have q1 := hr4.cell (i := 1) (by simp)
    have hsw : w.heap.size + 1 + 1 + 1 < wc.heap.size := hr4.lt
    simp only [List.getElem_cons_succ, List.getElem_cons_zero] at q0 q1
    clear hr4
    go_wp2
    obtain ⟨L1, hL1⟩ : ∃ L : World, L = wc.alloc (.cells #[.int .i64 x0, .slice ua un uc] 118) := ⟨_, rfl⟩
    have HO1 : Hid (OwnRfs none L1 0 (.slice (some ⟨wc.heap.size, 0, none⟩) 1 1) [c0]) := Lib.hid (by
      rw [hL1]
      exact OwnRfs.one (by rw [← HX0.out]; exact heap_alloc_new wc _) (HND.out.kept ((Kept.refl wc).alloc _)) HC0.out (Nat.zero_le _))
    have HKL : Hid (Kept w L1) := Lib.hid (by rw [hL1]; exact HKW.out.alloc _)
    have R1 : Hid (RowAt L1 w.heap.size 24 [.int .i64 V, .slice a n c, .int .i64 T]) := Lib.hid (by rw [hL1]; exact HR1.out.kept ((Kept.refl _).alloc _))
    have R2 : Hid (RowAt L1 (w.heap.size + 1) 78 [.int .i64 kq, .slice p0 p1 p2, .bool lb, .slice l0 l1 l2, .slice d0 d1 d2]) := Lib.hid (by rw [hL1]; exact HR2.out.kept ((Kept.refl _).alloc _))
    have R3 : Hid (RowAt L1 (w.heap.size + 1 + 1) 29 [.slice none 0 0, .slice none 0 0]) := Lib.hid (by rw [hL1]; exact HR3.out.kept ((Kept.refl _).alloc _))
    have hwL : w.heap.size + 1 + 1 < L1.heap.size := R3.out.lt
    rw [← hL1]
    clear hL1 q0 q1 HR1 HR2 HR3 HR4 hsw
    go_loopg [9, 10, 11] (nl + 1) (fun kx s9 s10 s11 wr => ∃ (L F : List Nat) (vr vs : Value) (j : Int) (kk : Nat), s9 = vr ∧ s10 = vs ∧ s11 = .int .i64 j ∧ kk ≤ kx ∧ Hid (OwnRfs vs.ownBlock wr 0 vr L) ∧ Hid (OwnInts wr L1.heap.size vs (ofN F)) ∧ Hid (Kept L1 wr) ∧ Hid (RefAt V T f P L F j kk))
    case atStart => exact ⟨[c0], [], _, _, -1, nl + 1, rfl, rfl, rfl, Nat.le_refl _, HO1, Lib.hid (by simpa [ofN] using OwnInts.nil _ _), Lib.hid (Kept.refl _), Lib.hid (by rw [HCC.out, HNL.out]; exact RefAt.start)⟩
    case round =>
      obtain ⟨wo, rfl⟩ : ∃ wo : World, wo = wr := ⟨_, rfl⟩
      obtain ⟨L, F, vr, vs, j, kk, rfl, rfl, rfl, hkk, HOR, HOS, HK, HAT⟩ := hrel
      obtain ⟨va, vc, hvr, _⟩ := HOR.out.slice
      obtain ⟨ln, hln⟩ : ∃ ln, ln = L.length := ⟨_, rfl⟩
      rw [← hln] at hvr
      subst hvr
      have HLN := Lib.hid hln
      obtain ⟨sa, sn, sc, hvs⟩ := HOS.out.ints.shape
      subst hvs
      have r1 := R1.out.kept HK.out
      have g0 := r1.cell (i := 0) (by simp)
      have g1 := r1.cell (i := 1) (by simp)
      have g2 := r1.cell (i := 2) (by simp)
      have r3 := R3.out.kept HK.out
      have t0 := r3.cell (i := 0) (by simp)
      have t1 := r3.cell (i := 1) (by simp)
      have u0 := r3.free 0
      have u1 := r3.free 1
      simp only [List.getElem_cons_succ, List.getElem_cons_zero] at g0 g1 g2 t0 t1
      have HKA : Hid (Kept w wo) := Lib.hid (HKL.out.trans HK.out)
      clear hln r1 r3
      go_upto_if 40 with fail
      go_cut [9, 10] (fun p9 p10 wx => ∃ (M : List Nat) (m : Nat) (ma : Option Addr) (mc mn : Nat), p9 = .slice ma mn mc ∧ p10 = .slice sa sn sc ∧ m + 1 ≤ kk ∧ Hid (mn = M.length) ∧ Hid (Pend V T f P M F m) ∧ Hid (OwnRfs (Value.slice sa sn sc).ownBlock wx 0 (.slice ma mn mc) M) ∧ Hid (Kept wo wx))
      case first =>
        rcases HAT.out with ⟨rfl, hL, hF, hnk⟩ | ⟨m, i, rfl, hmk, hTS, hib, hmax⟩
        · have HPD : Hid (Pend V T f P L F nl) := Lib.hid (by rw [hL, hF, HNL.out]; exact pend_start HOK.out P)
          have hnk2 : nl + 1 ≤ kk := by rw [HNL.out]; exact hnk
          clear hL hF hnk HAT
          go_wp2
          go_meet
          exact ⟨L, nl, va, vc, ln, rfl, rfl, hnk2, HLN, HPD, HOR, Lib.hid (Kept.refl _)⟩
        · have HTS := Lib.hid hTS
          have HHI : Hid ((∃ c ∈ L, c.testBit (24 + i) = true) ∧ ∀ c ∈ L, ∀ j, c.testBit (24 + j) = true → j ≤ i) := Lib.hid ⟨hib, hmax⟩
          obtain ⟨him, hmk2, _⟩ := hTS.at hib hmax
          have hle := hTS.le
          have hil : i < f.nodes.length := by omega
          obtain ⟨b, o, n', c', ya, yn, yc, hveq, hn', hnr⟩ := HNR.out i hil
          injection hveq with q1 q2 q3
          subst q1
          rw [← q2, ← HNL.out] at hn'
          have hkd := HMO.out i hil hmk2
          have hok := HOK.out
          have h128' := hok.n128
          have hargs : ∀ a ∈ f.nodes[i].args, 0 ≤ a ∧ a < (V : Int) + 128 := fun a ha => by have := hok.args i hil a ha; omega
          have h16 : f.nodes[i].args.length ≤ 16 := argsOk_le (hok.argc i hil)
          have hne : f.nodes[i].kind ≠ 0 → 1 ≤ f.nodes[i].args.length := fun h0 => argsOk_pos (hok.argc i hil) h0
          have hk4 : f.nodes[i].kind = 4 → 1 ≤ f.nodes[i].k ∧ f.nodes[i].k ≤ f.nodes[i].args.length := fun h4 => by
            have := hok.arity i hil
            unfold chkK at this
            rw [if_neg (by omega), if_pos h4] at this
            split at this
            · omega
            · cases this
          have hx : f.nodes.getD i noNd = f.nodes[i] := by simp [List.getD_eq_getElem?_getD, hil]
          obtain ⟨x, hxx⟩ : ∃ x, x = f.nodes[i] := ⟨_, rfl⟩
          rw [← hxx] at hnr hkd hargs h16 hne hk4 hx
          have HX := Lib.hid hx
          have hin : i < n := by rw [hn', HNL.out]; exact hil
          have hi128 : i < 128 := by omega
          have HEX := Lib.hid (rexpand_any (Z := (Value.slice sa sn sc).ownBlock) 0 V i b o n c T x ya yn yc (.slice va ln vc) L wo (fun z hz => (HOS.out.1.lt z hz).2) h24 HOR.out hTS.len hi128 hin (hnr wo HKA.out).1 (hnr wo HKA.out).2 hargs h16 hkd hk4 hne hmax)
          have hi0 : (i : Int) ≥ 0 := by omega
          clear hnr hkd hargs h16 hk4 hne hx hxx hok hmk2 q2 q3 hn' hib hil hmax HAT hTS hle
          go_wp2_with fail
          refine HEX.out.mono ?_
          rintro e w4 ⟨⟨hbig, v4, rfl⟩ | ⟨hsm, v4, rfl, ho4⟩, hk4⟩
          · have HBG := Lib.hid hbig
            have HK4 := Lib.hid hk4
            have t0' := hk4.cell t0
            have t1' := hk4.cell t1
            have u0' := ((R3.out.kept HK.out).kept hk4).free 0
            have u1' := ((R3.out.kept HK.out).kept hk4).free 1
            clear hbig hk4
            go_wp2
            have HNO : Hid (topT V T P f.nodes = none) := Lib.hid (HTS.out.full HHI.out.1 HHI.out.2 (by rw [HX.out]; exact HBG.out))
            refine bodyPost_ret (v := .tuple #[.agg #[.slice none 0 0, .slice none 0 0], .int .i64 4]) ?_ rfl ⟨by rw [HNO.out]; rfl, (((HKA.out.trans HK4.out).store (by omega) 0 _).store (by omega) 1 _)⟩
            simp [results, Tryz.results43, go_sem, t0', t1']
          · obtain ⟨va4, vc4, hv4, _⟩ := ho4.slice
            obtain ⟨l4, hl4⟩ : ∃ l4, l4 = (expK V x i L).length := ⟨_, rfl⟩
            rw [← hl4] at hv4
            subst hv4
            have HPN := Lib.hid (pend_next HOK.out HTS.out HHI.out.1 HHI.out.2 (by rw [HX.out]; exact hsm))
            rw [HX.out] at HPN
            have HO4 := Lib.hid (ho4.mono (Nat.zero_le _))
            have HL4 := Lib.hid hl4
            clear hsm ho4 hl4
            go_wp2
            go_meet
            exact ⟨expK V x i L, i, va4, vc4, l4, rfl, rfl, by omega, HL4, Lib.hid HPN.out.2, HO4, Lib.hid hk4⟩
      case rest =>
        obtain ⟨M, m, ma, mc, mn, rfl, rfl, hmk, HMN, HP, HOM, HKX⟩ := hcut
        obtain ⟨wx, rfl⟩ : ∃ wx : World, wx = wc := ⟨_, rfl⟩
        have HKB : Hid (Kept L1 wx) := Lib.hid (HK.out.trans HKX.out)
        have HOSX : Hid (OwnInts wx L1.heap.size (.slice sa sn sc) (ofN F)) := Lib.hid (HOS.out.kept HKX.out)
        have HMG : Hid (∀ g, (Value.slice ma mn mc).ownBlock = some g → g < wx.heap.size) := Lib.hid fun g hg => (HOM.out.own_ge hg).2
        have hlM : mn ≤ 4096 := by rw [HMN.out]; exact HP.out.len
        have hlF : F.length ≤ 1024 := HP.out.lenF
        have hszX := HKB.out.size
        clear HOR HAT g0 g1 g2 t0 t1 u0 u1 HOS HKX
        go_wp2
        go_loopg [10, 14, 53] mn (fun kx s10 s14 s53 wr => ∃ (k : Nat) (vs2 vi : Value), s10 = vs2 ∧ s14 = vi ∧ s53 = .int .i64 k ∧ k ≤ mn ∧ mn - k ≤ kx ∧ Hid (OwnRfs vs2.ownBlock wr 0 (.slice ma mn mc) M) ∧ Hid (OwnRfs vs2.ownBlock wr wx.heap.size vi (Tr.inTo P M k)) ∧ Hid (OwnInts wr L1.heap.size vs2 (ofN (F ++ Tr.goneTo P M k))) ∧ Hid (Kept L1 wr) ∧ wx.heap.size ≤ wr.heap.size)
        case atStart => exact ⟨0, _, _, rfl, rfl, rfl, Nat.zero_le _, by omega, HOM, Lib.hid (by simpa [Tr.inTo] using OwnRfs.nil _ _), Lib.hid (by simpa [Tr.goneTo] using HOSX.out), HKB, Nat.le_refl _⟩
        case round =>
          obtain ⟨k, vs2, vi, rfl, rfl, rfl, hk, hkx, HOM2, HI, HG, HK2, hszW⟩ := hrel
          obtain ⟨ia, ic, hvi, _⟩ := HI.out.slice
          obtain ⟨iN, hiN⟩ : ∃ iN, iN = (Tr.inTo P M k).length := ⟨_, rfl⟩
          rw [← hiN] at hvi
          subst hvi
          have HIN := Lib.hid hiN
          obtain ⟨ga, gn, gc, hvs⟩ := HG.out.ints.shape
          subst hvs
          clear hiN
          by_cases hlt : k < mn
          · have hkl : k < M.length := by have := HMN.out; omega
            obtain ⟨b, ra, rn, rc, rfl, hrn, hnd, hrg⟩ := HOM2.out.get k hkl
            have hrl := HOM2.out.lt M[k] (List.getElem_mem _)
            have hi1 := Tr.inTo_succ P M k hkl
            have hg1 := Tr.goneTo_succ P M k hkl
            have hil := Tr.inTo_len P M k
            have hgl := Tr.goneTo_len P M k
            obtain ⟨r, hr⟩ : ∃ r, r = M[k] := ⟨_, rfl⟩
            rw [← hr] at hrn hnd hrg hrl hi1 hg1
            have HBY : Hid (∀ W, Kept wr W → Calls Tryz.prog 85 #[.agg #[.int .i64 kq, .slice p0 p1 p2, .bool lb, .slice l0 l1 l2, .slice d0 d1 d2], .bool bp, .int .i64 (evW r : Nat)] W fun e' w' => e' = .returned (.bool (P (evW r))) ∧ Kept W w') := Lib.hid fun W hk => HBE.out (evW r) W (HKL.out.trans (HK2.out.trans hk)) (evW_lt r)
            have r2 := R2.out.kept HK2.out
            have k0 := r2.cell (i := 0) (by simp)
            have k1 := r2.cell (i := 1) (by simp)
            have k2 := r2.cell (i := 2) (by simp)
            have k3 := r2.cell (i := 3) (by simp)
            have k4 := r2.cell (i := 4) (by simp)
            simp only [List.getElem_cons_succ, List.getElem_cons_zero] at k0 k1 k2 k3 k4
            have HRL := Lib.hid hrl
            have HND := Lib.hid hnd
            have HI1 := Lib.hid hi1
            have HG1 := Lib.hid hg1
            have HRG := Lib.hid hrg
            have HLL : Hid ((Tr.inTo P M k).length ≤ 4096 ∧ (Tr.goneTo P M k).length ≤ 4096) := Lib.hid (by rw [← HMN.out] at hil hgl; omega)
            have hkn : (k : Int) < (mn : Int) := by omega
            have hswr : w.heap.size + 1 < wr.heap.size := by omega
            obtain ⟨z0, hz0⟩ : ∃ z0, z0 = evW r := ⟨_, rfl⟩
            have HZ0 := Lib.hid hz0
            rw [← hz0] at HRG HBY HG1 HI1
            obtain ⟨pb, hpb⟩ : ∃ pb, pb = P z0 := ⟨_, rfl⟩
            rw [← hpb] at HBY HG1 HI1
            clear hrl hnd hrg hi1 hg1 hil hgl hr hrn r2 hz0 hpb
            cases pb with
            | true =>
              have HI2 : Hid (Tr.inTo P M (k + 1) = Tr.inTo P M k) := Lib.hid (by have := HI1.out; simpa using this)
              have HG2 : Hid (Tr.goneTo P M (k + 1) = Tr.goneTo P M k ++ [z0]) := Lib.hid (by have := HG1.out; simpa using this)
              go_wp2_with (first | (with_reducible refine wpList_load_mid rfl 118 _ rfl b (k * 2) rfl _ _ HRG.out Tryz.underlying118 rfl (by kernel_rfl) ?_) | (go_at_call 85; refine (HBY.out _ ((Kept.refl _).alloc _)).mono ?_; rintro e w6 ⟨rfl, hk6⟩; have b0 := hk6.cell (p := ⟨wr.heap.size, 0, none⟩) (v := .int .i64 z0) (by simp); have HK6 := Lib.hid (((Kept.refl wr).alloc _).trans hk6); have hsz6 := hk6.size; simp only [World.size_alloc] at hsz6; clear hk6) | (at_builtin; refine app_int_at rfl _ _ rfl L1.heap.size _ (ofN (F ++ Tr.goneTo P M k)) rfl (HG.out.kept (HK6.out.alloc _)) _ (z0 : Int) rfl (by simp) (by have := HLL.out; simp [ofN]; omega) (by simp; omega) ?_; intro g7 cap7 w7 hown7 hg7 hat7 hb7; have O7 := Lib.hid hown7; have HB7 := Lib.hid hb7; have HG7 := Lib.hid hg7; have HA7 := Lib.hid hat7; clear hown7 hb7 hg7 hat7))
              go_roundg (mn - (k + 1))
              case measure => omega
              case rel =>
                refine ⟨k + 1, _, _, rfl, rfl, by go_num, by omega, Nat.le_refl _, Lib.hid ?_, Lib.hid ?_, Lib.hid ?_, Lib.hid (((HK2.out.trans HK6.out).alloc _).app HB7.out), by have := HB7.out.size; simp at this; omega⟩
                · exact OwnRfs.stepped (HOM2.out.kept (HK6.out.alloc _)) (HG.out.kept (HK6.out.alloc _)) HG7.out HA7.out
                · rw [HI2.out]
                  exact OwnRfs.stepped (HI.out.kept (HK6.out.alloc _)) (HG.out.kept (HK6.out.alloc _)) HG7.out HA7.out
                · rw [HG2.out]
                  have := O7.out
                  simpa [ofN] using this
            | false =>
              have HI2 : Hid (Tr.inTo P M (k + 1) = Tr.inTo P M k ++ [r]) := Lib.hid (by have := HI1.out; rw [if_neg (by simp)] at this; rw [this])
              have HG2 : Hid (Tr.goneTo P M (k + 1) = Tr.goneTo P M k) := Lib.hid (by have := HG1.out; simpa using this)
              obtain ⟨cells, hcl⟩ : ∃ cells, wr.ownsRow wx.heap.size 118 2 (.slice ia iN ic) (Tr.inTo P M k).length cells := by obtain ⟨cells, h, _⟩ := HI.out; exact ⟨cells, h⟩
              have HCL := Lib.hid hcl
              have hne : ∀ g, (Value.slice (some ⟨b, 0, none⟩) mn mc).ownBlock = some g → some g ≠ (Value.slice ia iN ic).ownBlock := fun g hg he => by
                have h1 := HMG.out g hg
                have h2 := (HI.out.own_ge he.symm).1
                omega
              have HNE := Lib.hid hne
              clear hcl hne
              go_wp2_with (first | (with_reducible refine wpList_load_mid rfl 118 _ rfl b (k * 2) rfl _ _ HRG.out Tryz.underlying118 rfl (by kernel_rfl) ?_) | (go_at_call 85; refine (HBY.out _ ((Kept.refl _).alloc _)).mono ?_; rintro e w6 ⟨rfl, hk6⟩; have b0 := hk6.cell (p := ⟨wr.heap.size, 0, none⟩) (v := .int .i64 z0) (by simp); have b1 := hk6.cell (p := ⟨wr.heap.size, 1, none⟩) (v := .slice ra rn rc) (by simp); have HK6 := Lib.hid (((Kept.refl wr).alloc _).trans hk6); have hsz6 := hk6.size; simp only [World.size_alloc] at hsz6; clear hk6) | (at_builtin; refine app_rf2 rfl _ _ rfl wx.heap.size _ (Tr.inTo P M k) rfl (HI.out.kept (HK6.out.alloc _)) w6.heap.size r (.slice ra rn rc) rfl (two_range (by rw [← HZ0.out]; simp) (by simp)) (HND.out.kept (HK6.out.alloc _)) HRL.out (by have := HLL.out; omega) (by simp; omega) ?_; intro v7 w7 hown7 hg7 hb7; have O7 := Lib.hid hown7; have HB7 := Lib.hid hb7; have HG7 := Lib.hid hg7; clear hown7 hb7 hg7))
              go_roundg (mn - (k + 1))
              case measure => omega
              case rel =>
                refine ⟨k + 1, _, _, rfl, rfl, by go_num, by omega, Nat.le_refl _, Lib.hid ?_, Lib.hid ?_, Lib.hid ?_, Lib.hid (((HK2.out.trans HK6.out).alloc _).app (HB7.out.mono hszX)), by have := HB7.out.size; simp at this; omega⟩
                · exact OwnRfs.grownR (HOM2.out.kept (HK6.out.alloc _)) (own_kept HCL.out (HK6.out.alloc _)) HG7.out HNE.out
                · rw [HI2.out]; exact O7.out
                · rw [HG2.out]
                  exact OwnInts.grownR (HG.out.kept (HK6.out.alloc _)) (own_kept HCL.out (HK6.out.alloc _)) HG7.out
          · have hke : k = mn := by omega
            have HST : Hid (OwnRfs (Value.slice ga gn gc).ownBlock wr wx.heap.size (.slice ia iN ic) (M.filter fun r => !P (evW r))) := Lib.hid (by have h := HI.out; unfold Tr.inTo at h; rw [hke, HMN.out, List.take_length] at h; exact h)
            have HGO : Hid (OwnInts wr L1.heap.size (.slice ga gn gc) (ofN (F ++ (M.filter fun r => P (evW r)).map evW))) := Lib.hid (by have h := HG.out; unfold Tr.goneTo at h; rw [hke, HMN.out, List.take_length] at h; exact h)
            obtain ⟨S, hS⟩ : ∃ S, S = M.filter fun r => !P (evW r) := ⟨_, rfl⟩
            obtain ⟨G, hG⟩ : ∃ G, G = F ++ (M.filter fun r => P (evW r)).map evW := ⟨_, rfl⟩
            rw [← hS] at HST
            rw [← hG] at HGO
            have HSR : Hid (settleR P M = minK S) := Lib.hid (by unfold settleR; rw [hS])
            have HSF : Hid (settleF P M F = minK G) := Lib.hid (by unfold settleF; rw [hG])
            have hGl : G.length ≤ 5120 := by
              rw [hG, List.length_append, List.length_map]
              have := List.length_filter_le (fun r => P (evW r)) M
              rw [← HMN.out] at this
              omega
            have HGM : Hid (∀ t ∈ G, Mk t) := Lib.hid fun t ht => by
              rw [hG] at ht
              rcases List.mem_append.1 ht with h | h
              · exact HP.out.mkF t h
              · obtain ⟨r, _, rfl⟩ := List.mem_map.1 h; exact evW_lt r
            have HMI := Lib.hid (rminimal_any wx.heap.size _ S wr HST.out)
            have HGL := Lib.hid hGl
            clear hke hS hG hGl HI HG HOM2
            go_wp2_with fail
            refine HMI.out.mono ?_
            rintro e w6 ⟨⟨v6, rfl, ho6⟩, hk6⟩
            obtain ⟨va6, vc6, hv6, _⟩ := ho6.slice
            obtain ⟨RM, hRM⟩ : ∃ RM, RM = refMin S := ⟨_, rfl⟩
            rw [← hRM] at ho6 hv6
            obtain ⟨n6, hn6⟩ : ∃ n6, n6 = RM.length := ⟨_, rfl⟩
            rw [← hn6] at hv6
            subst hv6
            have HO6 := Lib.hid ho6
            have HN6 := Lib.hid hn6
            have HRP : Hid (RM.Perm (settleR P M)) := Lib.hid (by rw [HSR.out, hRM]; exact refMin_perm S)
            have HK6 := Lib.hid hk6
            have HLE := Lib.hid (least_own G (.slice ga gn gc) w6 ⟨(HGO.out.kept hk6).ints, HGM.out⟩ (by have := HGL.out; omega))
            clear ho6 hn6 hRM hk6 HMI
            go_wp2_with fail
            refine HLE.out.mono ?_
            rintro e w8 ⟨⟨v8, rfl, ho8⟩, hk8⟩
            obtain ⟨fa, fn, fc, rfl⟩ := ho8.1.ints.shape
            have hfn : fn = (minK G).length := ints_len' ho8.1.ints
            have HFN := Lib.hid (hfn.trans (by rw [HSF.out]) : fn = (settleF P M F).length)
            have HFR : Hid (OwnInts w8 L1.heap.size (.slice fa fn fc) (ofN (settleF P M F))) := Lib.hid (by
              rw [HSF.out]
              have h1 := HK2.out.size
              have h2 := HK6.out.size
              exact ho8.1.mono (by omega))
            have HLS : Hid (OwnRfs (Value.slice fa fn fc).ownBlock w8 0 (.slice va6 n6 vc6) RM) := Lib.hid ((HO6.out.fresh hk8 fun g hg => (ho8.1.1.lt g hg).1).mono (Nat.zero_le _))
            have HK8 : Hid (Kept L1 w8) := Lib.hid ((HK2.out.trans HK6.out).trans hk8)
            have HRN : Hid (n6 = (settleR P M).length) := Lib.hid (HN6.out.trans HRP.out.length_eq)
            have hn69 : n6 ≤ 20000 := by rw [HN6.out]; exact HO6.out.len
            have hfn9 : fn ≤ 20000 := by rw [hfn]; have h := len_minK G; have := HGL.out; omega
            have hsz8 := hk8.size
            clear ho8 hk8 hfn HLE HST HGO
            have r3 := R3.out.kept HK8.out
            have t0 := r3.cell (i := 0) (by simp)
            have t1 := r3.cell (i := 1) (by simp)
            have u0 := r3.free 0
            have u1 := r3.free 1
            simp only [List.getElem_cons_succ, List.getElem_cons_zero] at t0 t1
            clear r3
            by_cases hbig : 1024 < n6 ∨ 1024 < fn
            · have HNO : Hid (topT V T P f.nodes = none) := Lib.hid (HP.out.bad (by rw [← HRN.out, ← HFN.out]; exact hbig))
              have HK9 := Lib.hid (HKL.out.trans HK8.out)
              have e4 : (SRes (((w8.setCell ⟨w.heap.size + 1 + 1, 0, none⟩ (.slice none 0 0)).setCell ⟨w.heap.size + 1 + 1, 1, none⟩ (.slice none 0 0))) (.returned (.tuple #[.agg #[.slice none 0 0, .slice none 0 0], .int .i64 4])) (topT V T P f.nodes)) := by rw [HNO.out]; rfl
              have HE4 := Lib.hid e4
              clear e4
              by_cases hb1 : 1024 < n6
              · have hb1' : (n6 : Int) > 1024 := by omega
                clear hbig
                go_wp2
                refine bodyPost_ret (v := .tuple #[.agg #[.slice none 0 0, .slice none 0 0], .int .i64 4]) ?_ rfl ⟨HE4.out, ((HK9.out.store (by omega) 0 _).store (by omega) 1 _)⟩
                simp [results, Tryz.results43, go_sem, t0, t1]
              · have hb1' : ¬ (n6 : Int) > 1024 := by omega
                have hb2' : (fn : Int) > 1024 := by omega
                clear hbig
                go_wp2
                refine bodyPost_ret (v := .tuple #[.agg #[.slice none 0 0, .slice none 0 0], .int .i64 4]) ?_ rfl ⟨HE4.out, ((HK9.out.store (by omega) 0 _).store (by omega) 1 _)⟩
                simp [results, Tryz.results43, go_sem, t0, t1]
            · have hb1' : ¬ (n6 : Int) > 1024 := by omega
              have hb2' : ¬ (fn : Int) > 1024 := by omega
              have HTS : Hid (TStand V T f P RM (settleF P M F) m) := Lib.hid (HP.out.good RM HRP.out (by rw [← HRN.out, ← HFN.out]; exact hbig))
              have HG9 := Lib.hid (rgreatest_any 0 _ RM w8 HLS.out)
              obtain ⟨F2, hF2⟩ : ∃ F2, F2 = settleF P M F := ⟨_, rfl⟩
              rw [← hF2] at HTS HFR
              have hn61 : n6 ≤ 1024 := by omega
              clear hbig hF2 HFN
              go_wp2_with fail
              refine HG9.out.mono ?_
              rintro e w9 ⟨⟨r, rfl, hgt⟩, hk9⟩
              have HGT := Lib.hid hgt
              have HK9 : Hid (Kept L1 w9) := Lib.hid (HK8.out.trans hk9)
              have HL9 := Lib.hid (HLS.out.kept hk9)
              have HF9 := Lib.hid (HFR.out.kept hk9)
              have t0' := hk9.cell t0
              have t1' := hk9.cell t1
              have r3' := R3.out.kept HK9.out
              have u0' := r3'.free 0
              have u1' := r3'.free 1
              have hsz9 := HK9.out.size
              clear hgt hk9 r3' t0 t1 u0 u1 HG9
              by_cases hneg : r < 0
              · have HDN : Hid (∃ R', topT V T P f.nodes = some (R', F2) ∧ RM.Perm R') := Lib.hid (HTS.out.done fun c hc j hj => by have := HGT.out.1 c hc j hj; omega)
                go_wp2
                go_loopg [17, 91] n6 (fun kx s17 s91 wz => ∃ (k : Nat) (vo : Value), s17 = vo ∧ s91 = .int .i64 k ∧ k ≤ n6 ∧ n6 - k ≤ kx ∧ Hid (OwnInts wz w9.heap.size vo (ofN ((RM.take k).map evW))) ∧ Hid (Kept w9 wz))
                case atStart => exact ⟨0, _, rfl, rfl, Nat.zero_le _, by omega, Lib.hid (by simpa [ofN] using OwnInts.nil _ _), Lib.hid (Kept.refl _)⟩
                case round =>
                  obtain ⟨k, vo, rfl, rfl, hk, hkx, HO, HKZ⟩ := hrel
                  have hsz := HKZ.out.size
                  obtain ⟨ao, no, co, hvo⟩ := HO.out.ints.shape
                  subst hvo
                  by_cases hlt : k < n6
                  · have hkl : k < RM.length := by have := HN6.out; omega
                    obtain ⟨b, ra, rn, rc, rfl, hrn, hnd, hrg⟩ := (HL9.out.kept HKZ.out).get k hkl
                    have hnext : ofN ((RM.take (k + 1)).map evW) = ofN ((RM.take k).map evW) ++ [((evW RM[k] : Nat) : Int)] := by unfold ofN; rw [List.take_succ_eq_append_getElem hkl, List.map_append, List.map_append]; rfl
                    have hlen : (ofN ((RM.take k).map evW)).length = k := by simp [ofN]; omega
                    have hkn : (k : Int) < (n6 : Int) := by omega
                    have HRG := Lib.hid hrg
                    have HNX := Lib.hid hnext
                    generalize evW RM[k] = z0 at *
                    clear hrg hnext hrn hnd
                    go_wp2_with (first | (with_reducible refine wpList_load_mid rfl 118 _ rfl b (k * 2) rfl _ _ HRG.out Tryz.underlying118 rfl (by kernel_rfl) ?_) | (at_builtin; refine app_int rfl _ _ rfl w9.heap.size _ (ofN ((RM.take k).map evW)) rfl (HO.out.kept (((Kept.refl _).alloc _).alloc _)) _ (z0 : Int) rfl (by simp) (by rw [hlen]; omega) (by simp; omega) ?_; intro v7 w7 hown7 _ hb7; have O7 := Lib.hid hown7; have HB7 := Lib.hid hb7; clear hown7 hb7))
                    go_roundg (n6 - (k + 1))
                    case measure => omega
                    case rel => exact ⟨k + 1, v7, rfl, by go_num, by omega, Nat.le_refl _, Lib.hid (by rw [HNX.out]; exact O7.out), Lib.hid (((HKZ.out.alloc _).alloc _).app HB7.out)⟩
                  · have hke : k = n6 := by omega
                    have HFI : Hid (SetsAt wr (.slice ao no co) (RM.map evW)) := Lib.hid ⟨by have h := HO.out; rw [hke, HN6.out, List.take_length] at h; exact h.ints, fun t ht => by obtain ⟨r, _, rfl⟩ := List.mem_map.1 ht; exact evW_lt r⟩
                    have HSO := Lib.hid (rsort_any _ (RM.map evW) (.slice ao no co) wr (Nat.le_refl _) HFI.out (by simp; have := HN6.out; omega))
                    have HTZ : Hid (RowAt wr (w.heap.size + 1 + 1) 29 [.slice none 0 0, .slice none 0 0]) := Lib.hid ((R3.out.kept HK9.out).kept HKZ.out)
                    have HKF : Hid (Kept w wr) := Lib.hid ((HKL.out.trans HK9.out).trans HKZ.out)
                    have HFZ : Hid (OwnInts wr L1.heap.size (.slice fa fn fc) (ofN F2)) := Lib.hid (HF9.out.kept HKZ.out)
                    clear hke HO
                    go_wp2_with (go_at_call 89; refine HSO.out.mono ?_; rintro e w10 ⟨⟨v10, rfl, ho10⟩, hk10⟩; obtain ⟨sa10, sn10, sc10, rfl⟩ := ho10.1.ints.shape; have HO10 := Lib.hid ho10; have HK10 := Lib.hid hk10; have ht := HTZ.out.kept hk10; have HT10 := Lib.hid ht; have y0 := ht.cell (i := 0) (by simp); have y1 := ht.cell (i := 1) (by simp); have y2 := ht.free 0; have y3 := ht.free 1; simp only [List.getElem_cons_succ, List.getElem_cons_zero] at y0 y1; clear ho10 hk10 ht)
                    refine bodyPost_ret (v := .tuple #[.agg #[.slice sa10 sn10 sc10, .slice fa fn fc], .int .i64 0]) ?_ rfl ⟨?_, (((HKF.out.trans HK10.out).store (by omega) 0 _).store (by omega) 1 _)⟩
                    · simp [results, Tryz.results43, go_sem, y0, y1]
                    · obtain ⟨R', hR, hp⟩ := HDN.out
                      have hT : TopT V T f P R' F2 := topT_says HOK.out HSY.out P hR
                      rw [hR]
                      refine ⟨_, _, rfl, ?_, ?_⟩
                      · have h := HO10.out.1.ints
                        rw [sort_kept hT.goodR hT.mkR hp] at h
                        exact Tr.cutoff_ints HT10.out ⟨_, _, _, rfl⟩ h
                      · exact Tr.cutoff_ints HT10.out ⟨_, _, _, rfl⟩ (HFZ.out.kept HK10.out).ints
              · obtain ⟨i, rfl, hib⟩ := HGT.out.2.resolve_left (by omega)
                have HAT : Hid (RefAt V T f P RM F2 (i : Int) m) := Lib.hid (.inr ⟨m, i, rfl, Nat.le_refl _, HTS.out, hib, fun c hc j hj => by have := HGT.out.1 c hc j hj; omega⟩)
                clear hib
                go_wp2
                go_roundg m
                case measure => omega
                case rel => exact ⟨RM, F2, _, _, i, m, rfl, rfl, rfl, Nat.le_refl _, HL9, HF9, HK9, HAT⟩
end Go.Proofs.YtngbjdaaogbjmaaGreat
