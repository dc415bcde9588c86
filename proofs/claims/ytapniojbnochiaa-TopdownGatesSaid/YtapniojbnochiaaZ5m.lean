import Derived.Test.YtapniojbnochiaaZ4m
/-
  The law TopdownGates returns true, whatever the formula and the numbers. (Printed by gen_Z5.py.)
-/
namespace Go.Proofs.Ytapniojbnochiaa
open Go.RowKit Go.ChangeShapes Go.WideShapes Go.ChangeAt Go.Joins Go.Deep

set_option maxRecDepth 100000 in
set_option maxHeartbeats 8000000 in
theorem gates_true (w : World) (v : Value) (f : Fm) (x y : Int) (hv : NodesAt w v f.nodes) (hfo : FmOk f) (hx : (Lit.int .u8 x).wf = true) (hy : (Lit.int .u8 y).wf = true) :
    Calls Try.prog 14 #[fmV v f, .int .u8 x, .int .u8 y] w fun e w' => e = .returned (.bool true) ∧ Kept w w' := by
  obtain ⟨x0, x9⟩ := bounds_u8 hx
  obtain ⟨X, rfl⟩ := Int.eq_ofNat_of_zero_le x0
  have hX9 : X ≤ 255 := by omega
  clear hx x0 x9
  obtain ⟨y0, y9⟩ := bounds_u8 hy
  obtain ⟨Y, rfl⟩ := Int.eq_ofNat_of_zero_le y0
  have hY9 : Y ≤ 255 := by omega
  clear hy y0 y9
  have ht : f.top ≤ 9223372036854775807 := hfo.2.1.2
  have hh : ∀ W, Kept w W → Calls Try.prog 18 #[fmV v f] W fun e w' => (∃ b, e = .returned (.bool b)) ∧ Kept W w' := fun W hk => heavy_any v f W (hv.kept hk)
  have hc : ∀ W, Kept w W → Calls Try.prog 27 #[fmV v f] W fun e w' => e = .returned (errV (chkF f)) ∧ Kept W w' := fun W hk => check_any v f W (hv.kept hk) ht
  obtain ⟨q, hq⟩ : ∃ q, q = chkF f := ⟨_, rfl⟩
  rw [← hq] at hc
  have hsh : ∃ a n c, v = .slice a n c ∧ n = f.nodes.length := by obtain ⟨a, c, h, _⟩ := hv; exact ⟨a, _, c, h, rfl⟩
  have HQ := Lib.hid hq
  have HV := Lib.hid hv
  obtain ⟨a, n, c, rfl, hnn⟩ := hsh
  have HNN := Lib.hid hnn
  clear hnn
  obtain ⟨vars, nodes, top⟩ := f
  have HH : Hid (∀ W, Kept w W → Calls Try.prog 18 #[.agg #[.int .i64 vars, .slice a n c, .int .i64 top]] W fun e w' => (∃ b, e = .returned (.bool b)) ∧ Kept W w') := Lib.hid hh
  have HC : Hid (∀ W, Kept w W → Calls Try.prog 27 #[.agg #[.int .i64 vars, .slice a n c, .int .i64 top]] W fun e w' => e = .returned (errV q) ∧ Kept W w') := Lib.hid hc
  have HA : Hid (∀ W, Calls Try.prog 31 #[] W fun e w' => e = .returned (.bool true) ∧ Kept W w') := Lib.hid fun W => tawake_ok W
  show Calls _ _ #[.agg #[.int .i64 vars, .slice a n c, .int .i64 top], _, _] _ _
  clear hv hh hc hq ht hfo
  go_enter Try.func14, Try.ntmps14
  go_wp2_with (go_at_call 31; refine (HA.out _).mono ?_; rintro e w1 ⟨rfl, hk1⟩; obtain ⟨c0, c1, c2⟩ := fm_cells hk1)
  refine (HH.out _ (((Kept.refl _).alloc _).trans hk1)).mono ?_
  rintro e w2 ⟨⟨b, rfl⟩, hk2⟩
  have K2 := Lib.hid (hk1.trans hk2)
  clear hk1 hk2 c0 c1 c2
  obtain ⟨c0, c1, c2⟩ := fm_cells K2.out
  cases b with
  | true =>
    go_wp2_with (go_at_call 31; refine (HA.out _).mono ?_; rintro e w3 ⟨rfl, hk3⟩)
    go_ret
    exact ⟨rfl, (((Kept.refl _).alloc _).trans K2.out).trans hk3⟩
  | false =>
    go_wp2_with fail
    refine (HC.out _ (((Kept.refl _).alloc _).trans K2.out)).mono ?_
    rintro e w3 ⟨rfl, hk3⟩
    have K3 := Lib.hid (K2.out.trans hk3)
    clear hk3 c0 c1 c2
    obtain ⟨c0, c1, c2⟩ := fm_cells K3.out
    by_cases hq0 : q = 0
    · have hck := HQ.out.symm.trans hq0
      subst hq0
      rw [errV_zero]
      obtain ⟨V, T, hok⟩ := ok_of _ hck
      have e1 : vars = (V : Int) := hok.vars
      have e2 : top = (T : Int) := hok.top
      have hV := hok.v24
      have hN9 : nodes.length ≤ 128 := hok.n128
      have fc := top_cases (.slice a n c) ⟨vars, nodes, top⟩ V T hok hck ⟨a, n, c, rfl⟩
      subst e1 e2
      have HVK := Lib.hid (fun W (hk : Kept w3 W) => HV.out.kept (((((Kept.refl _).alloc _).trans K3.out)).trans hk))
      have HOK := Lib.hid hok
      have HCK := Lib.hid hck
      by_cases hV10 : V ≤ 10
      · have hVi : (V : Int) ≤ 10 := by omega
        by_cases hn100 : n ≤ 100
        · have hNNo := HNN.out
          obtain ⟨N, hN⟩ : ∃ N, N = V + n := ⟨_, rfl⟩
          have htl := hok.tlt
          simp only at htl
          have hNpos : 0 < N := by omega
          have hN9 : N ≤ 200 := by omega
          have eN : (V : Int) + (n : Int) = (N : Int) := by omega
          have eNw : IntKind.i64.wrap (N : Int) = (N : Int) := by rw [IntKind.wrap_i64]; omega
          obtain ⟨x, hx⟩ : ∃ x, x = X % N := ⟨_, rfl⟩
          obtain ⟨y, hy⟩ : ∃ y, y = Y % N := ⟨_, rfl⟩
          have hxN : x < N := by rw [hx]; exact Nat.mod_lt _ hNpos
          have hyN : y < N := by rw [hy]; exact Nat.mod_lt _ hNpos
          have ex1 : (X : Int) % (N : Int) = (x : Int) := by rw [hx]; simp
          have ex2 : Int.tmod (X : Int) (N : Int) = (x : Int) := by rw [Int.tmod_eq_emod_of_nonneg (by omega), ex1]
          have ey1 : (Y : Int) % (N : Int) = (y : Int) := by rw [hy]; simp
          have ey2 : Int.tmod (Y : Int) (N : Int) = (y : Int) := by rw [Int.tmod_eq_emod_of_nonneg (by omega), ey1]
          have hN0 : ((N : Int) == 0) = false := by simp; omega
          have hN00 : (0 : Int) < (N : Int) := by omega
          have hni : (n : Int) ≤ 100 := by omega
          have hnl : nodes.length ≤ 100 := by omega
          have hok0 : Ok (⟨V, nodes, T⟩ : Fm) V T := hok
          have hx' : x < V + (⟨V, nodes, T⟩ : Fm).nodes.length := by simp only; omega
          have hy' : y < V + (⟨V, nodes, T⟩ : Fm).nodes.length := by simp only; omega
          have hnl' : (⟨V, nodes, T⟩ : Fm).nodes.length ≤ 100 := hnl
          obtain ⟨q1, X1, hr1, hc1⟩ := tcut_any (.slice a n c) _ V x (top_ok hok0 x hx') ⟨_, _, _, rfl⟩
          obtain ⟨q2, X2, hr2, hc2⟩ := tcut_any (.slice a n c) _ V y (top_ok hok0 y hy') ⟨_, _, _, rfl⟩
          have HC1 : Hid (∀ W, Kept w3 W → Calls Try.prog 32 #[.agg #[.int .i64 V, .slice a n c, .int .i64 x]] W fun e w' => (∃ v', e = .returned (.tuple #[v', errV q1]) ∧ SetsAt w' v' X1) ∧ Kept W w') := Lib.hid fun W hk => hc1 W (HVK.out W hk)
          have HC2 : Hid (∀ W, Kept w3 W → Calls Try.prog 32 #[.agg #[.int .i64 V, .slice a n c, .int .i64 y]] W fun e w' => (∃ v', e = .returned (.tuple #[v', errV q2]) ∧ SetsAt w' v' X2) ∧ Kept W w') := Lib.hid fun W hk => hc2 W (HVK.out W hk)
          have HG : Hid (∀ (kd : Int) (v2 : Value), (kd = 2 ∨ kd = 3) → (∃ a' n' c', v2 = .slice a' n' c') → ∃ (q : Nat) (Z : List Nat), CRes V (V + nodes.length) (gateF V kd x y nodes) q Z ∧ ∀ W, NodesAt W v2 (nodes ++ [gateNd kd x y]) → Calls Try.prog 32 #[.agg #[.int .i64 V, v2, .int .i64 N]] W fun e w' => (∃ v', e = .returned (.tuple #[v', errV q]) ∧ SetsAt w' v' Z) ∧ Kept W w') := Lib.hid fun kd v2 hkd hs2 => by
            obtain ⟨q, Z, h1, h2⟩ := tcut_any v2 _ V _ (gate_ok hok0 kd hkd x y hx' hy' hnl') hs2
            refine ⟨q, Z, h1, fun W hW => ?_⟩
            have h3 := h2 W hW
            rw [show (V + (⟨V, nodes, T⟩ : Fm).nodes.length : Nat) = N by simp only; omega] at h3
            exact h3
          have HGQ : Hid (∀ q3 q4 X3 X4, CRes V (V + nodes.length) (gateF V 2 x y nodes) q3 X3 → CRes V (V + nodes.length) (gateF V 3 x y nodes) q4 X4 → ((q1 = 7 ∨ q2 = 7) ∧ q3 = 7 ∧ q4 = 7 ∧ (q1 = 0 ∨ q1 = 4 ∨ q1 = 7) ∧ (q2 = 0 ∨ q2 = 4 ∨ q2 = 7)) ∨ ((q1 = 0 ∨ q1 = 4) ∧ (q2 = 0 ∨ q2 = 4) ∧ (q3 = 0 ∨ q3 = 4) ∧ (q4 = 0 ∨ q4 = 4))) := Lib.hid fun q3 q4 X3 X4 h3 h4 => gates_q hok0 hx' hy' hnl' hr1 hr2 h3 h4
          have HGO : Hid (∀ X3 X4, q1 = 0 → q2 = 0 → CRes V (V + nodes.length) (gateF V 2 x y nodes) 0 X3 → CRes V (V + nodes.length) (gateF V 3 x y nodes) 0 X4 → productK X1 X2 = some X3 ∧ plusK X1 X2 = some X4) := Lib.hid fun X3 X4 e1 e2 h3 h4 => by
            subst e1 e2
            exact gates_ops hok0 hx' hy' hnl' hr1 hr2 h3 h4
          have HNL : Hid (nodes.length ≤ 1000) := Lib.hid (by omega)
          have HNV := Lib.hid (HVK.out w3 (Kept.refl _))
          clear fc hck hok hok0 hx' hy' hnl' hr1 hr2 hc1 hc2 hx hy hnl hN htl hNNo HOK HCK hxN hyN
          go_wp2_with fail
          go_cut [8, 9] (fun p8 p9 wx => p8 = .int .i64 x ∧ p9 = .int .i64 y ∧ Hid (Kept w3 wx))
          case first =>
            go_region
            all_goals go_wp2
            all_goals go_meet
            all_goals exact ⟨rfl, rfl, Lib.hid (by first | exact Kept.refl _ | exact (Kept.refl _).drew)⟩
          case rest =>
            obtain ⟨rfl, rfl, HK6⟩ := hcut
            obtain ⟨wa, rfl⟩ : ∃ wa : World, wa = wc := ⟨_, rfl⟩
            clear c0 c1 c2 ex1 ex2 ey1 ey2 hN0 hN00
            obtain ⟨c0, c1, c2⟩ := fm_cells (K3.out.trans HK6.out)
            go_wp2_with fail
            go_cut [10, 11] (fun p10 p11 wx => ∃ g1 g2 : Nat, p10 = .pointer (some ⟨g1, 0, none⟩) ∧ p11 = .pointer (some ⟨g2, 0, none⟩) ∧ Hid (RowAt wx g1 24 [.int .i64 V, .slice a n c, .int .i64 T] ∧ RowAt wx g2 24 [.int .i64 V, .slice a n c, .int .i64 T] ∧ (g1 ≠ g2 ∧ wa.heap.size ≤ g1 ∧ wa.heap.size ≤ g2 ∧ g1 < wa.heap.size + 2 ∧ g2 < wa.heap.size + 2) ∧ Kept wa wx ∧ wx.heap.size = wa.heap.size + 2))
            case first =>
              go_region_held3 (fun w' => w'.cell? ⟨w.heap.size, 0, none⟩ = some (.int .i64 V) ∧ w'.cell? ⟨w.heap.size, 1, none⟩ = some (.slice a n c) ∧ w'.cell? ⟨w.heap.size, 2, none⟩ = some (.int .i64 T))
                (first | go_keep | exact ⟨Kept.cell (by repeat (first | exact Kept.refl _ | apply Kept.drew | apply Kept.alloc | refine Kept.store ?_ (by omega) _ _)) c0, Kept.cell (by repeat (first | exact Kept.refl _ | apply Kept.drew | apply Kept.alloc | refine Kept.store ?_ (by omega) _ _)) c1, Kept.cell (by repeat (first | exact Kept.refl _ | apply Kept.drew | apply Kept.alloc | refine Kept.store ?_ (by omega) _ _)) c2⟩)
                (first | fail)
              all_goals go_wp2
              all_goals go_meet
              all_goals
                have h2 := two_rows wa #[.int .i64 V, .slice a n c, .int .i64 T] 24
                first
                  | exact ⟨_, _, rfl, rfl, Lib.hid ⟨h2.1, h2.2.1, ⟨by omega, by omega, by omega, by omega, by omega⟩, h2.2.2.1, h2.2.2.2⟩⟩
                  | exact ⟨_, _, rfl, rfl, Lib.hid ⟨h2.2.1, h2.1, ⟨by omega, by omega, by omega, by omega, by omega⟩, h2.2.2.1, h2.2.2.2⟩⟩
            case rest =>
              obtain ⟨g1, g2, rfl, rfl, H12⟩ := hcut
              obtain ⟨hd12, lo1, lo2, hi1, hi2⟩ := H12.out.2.2.1
              have hszb : wa.heap.size + 2 ≤ wc.heap.size := Nat.le_of_eq H12.out.2.2.2.2.symm
              have hsza := HK6.out.size
              have HK7 : Hid (Kept w3 wc) := Lib.hid (HK6.out.trans H12.out.2.2.2.1)
              obtain ⟨wb, rfl⟩ : ∃ wb : World, wb = wc := ⟨_, rfl⟩
              have m1 := H12.out.1.cell (i := 2) (by simp)
              have f1 := H12.out.1.free 2
              have m2 := (H12.out.2.1.other hd12.symm 2 (.int .i64 x)).cell (i := 2) (by simp)
              have f2 := (H12.out.2.1.other hd12.symm 2 (.int .i64 x)).free 2
              obtain ⟨wd, hwd⟩ : ∃ wd, wd = (wb.setCell ⟨g1, 2, none⟩ (.int .i64 x)).setCell ⟨g2, 2, none⟩ (.int .i64 y) := ⟨_, rfl⟩
              have HR1 : Hid (RowAt wd g1 24 [.int .i64 V, .slice a n c, .int .i64 x]) := Lib.hid (by rw [hwd]; exact (H12.out.1.store 2 (.int .i64 x)).other hd12 2 _)
              have HR2 : Hid (RowAt wd g2 24 [.int .i64 V, .slice a n c, .int .i64 y]) := Lib.hid (by rw [hwd]; exact (H12.out.2.1.other hd12.symm 2 _).store 2 (.int .i64 y))
              have HK8 : Hid (Kept w3 wd) := Lib.hid (by rw [hwd]; exact (HK7.out.store (by omega) 2 _).store (by omega) 2 _)
              have hszd : wb.heap.size ≤ wd.heap.size := by rw [hwd]; simp [World.setCell]
              have HWD := Lib.hid hwd
              clear c0 c1 c2 hwd
              go_wp2_with fail
              rw [← HWD.out]
              clear m1 m2 f1 f2
              obtain ⟨c0, c1, c2⟩ := fm_cells (K3.out.trans HK8.out)
              go_cut [12, 13] (fun p12 p13 wx => ∃ g3 g4 : Nat, p12 = .pointer (some ⟨g3, 0, none⟩) ∧ p13 = .pointer (some ⟨g4, 0, none⟩) ∧ Hid (RowAt wx g3 24 [.int .i64 V, .slice a n c, .int .i64 T] ∧ RowAt wx g4 24 [.int .i64 V, .slice a n c, .int .i64 T] ∧ (g3 ≠ g4 ∧ wd.heap.size ≤ g3 ∧ wd.heap.size ≤ g4 ∧ g3 < wd.heap.size + 2 ∧ g4 < wd.heap.size + 2) ∧ Kept wd wx ∧ wx.heap.size = wd.heap.size + 2))
              case first =>
                go_region_held3 (fun w' => w'.cell? ⟨w.heap.size, 0, none⟩ = some (.int .i64 V) ∧ w'.cell? ⟨w.heap.size, 1, none⟩ = some (.slice a n c) ∧ w'.cell? ⟨w.heap.size, 2, none⟩ = some (.int .i64 T))
                  (first | go_keep | exact ⟨Kept.cell (by repeat (first | exact Kept.refl _ | apply Kept.drew | apply Kept.alloc | refine Kept.store ?_ (by omega) _ _)) c0, Kept.cell (by repeat (first | exact Kept.refl _ | apply Kept.drew | apply Kept.alloc | refine Kept.store ?_ (by omega) _ _)) c1, Kept.cell (by repeat (first | exact Kept.refl _ | apply Kept.drew | apply Kept.alloc | refine Kept.store ?_ (by omega) _ _)) c2⟩)
                  (first | fail)
                all_goals go_wp2
                all_goals go_meet
                all_goals
                  have h2 := two_rows wd #[.int .i64 V, .slice a n c, .int .i64 T] 24
                  first
                    | exact ⟨_, _, rfl, rfl, Lib.hid ⟨h2.1, h2.2.1, ⟨by omega, by omega, by omega, by omega, by omega⟩, h2.2.2.1, h2.2.2.2⟩⟩
                    | exact ⟨_, _, rfl, rfl, Lib.hid ⟨h2.2.1, h2.1, ⟨by omega, by omega, by omega, by omega, by omega⟩, h2.2.2.1, h2.2.2.2⟩⟩
              case rest =>
                obtain ⟨g3, g4, rfl, rfl, H34⟩ := hcut
                obtain ⟨hd34, lo3, lo4, hi3, hi4⟩ := H34.out.2.2.1
                have hsze : wd.heap.size + 2 ≤ wc.heap.size := Nat.le_of_eq H34.out.2.2.2.2.symm
                have hszw : w3.heap.size ≤ wd.heap.size := HK8.out.size
                obtain ⟨wf, rfl⟩ : ∃ wf : World, wf = wc := ⟨_, rfl⟩
                have HKFa : Hid (Kept w3 wf) := Lib.hid (HK8.out.trans H34.out.2.2.2.1)
                have HS1 := Lib.hid (HR1.out.kept H34.out.2.2.2.1)
                have HS2 := Lib.hid (HR2.out.kept H34.out.2.2.2.1)
                have HR3 := Lib.hid H34.out.1
                have HR4 := Lib.hid H34.out.2.1
                have hd13 : g1 ≠ g3 := by omega
                have hd14 : g1 ≠ g4 := by omega
                have hd23 : g2 ≠ g3 := by omega
                have hd24 : g2 ≠ g4 := by omega
                have hd1 : g1 < wf.heap.size := by omega
                have hd2 : g2 < wf.heap.size := by omega
                have hd3 : g3 < wf.heap.size := by omega
                have hd4 : g4 < wf.heap.size := by omega
                have he1 : w3.heap.size ≤ g1 := by omega
                have he2 : w3.heap.size ≤ g2 := by omega
                have he3 : w3.heap.size ≤ g3 := by omega
                have he4 : w3.heap.size ≤ g4 := by omega
                clear c0 c1 c2 lo1 lo2 lo3 lo4 hi1 hi2 hi3 hi4 hsze hszd hszb hsza
                obtain ⟨c0, c1, c2⟩ := fm_cells (K3.out.trans HKFa.out)
                have c1n := ((Kept.refl wf).alloc (.cells #[] 47)).cell c1
                go_upto_region 11 with (first
                  | (at_builtin; refine app_nds rfl _ _ rfl wf.heap.size _ rfl (own_emptyNd _ _ (Nat.le_refl _)) w3 (.slice a n c) nodes rfl HNV.out (HKFa.out.alloc _) HNL.out (by simp) ?_; intro v1 w1 cells1 hown1 hcs1 hb1; have HO1 := Lib.hid hown1; have HCS := Lib.hid hcs1; have HB1 := Lib.hid ((Below.alloc (Below.refl wf.heap.size wf) (Nat.le_refl _) (.cells #[] 47)).trans hb1); have hsz1 : wf.heap.size ≤ w1.heap.size := HB1.out.size; have HK1 : Hid (Kept w3 w1) := Lib.hid (HKFa.out.app (HB1.out.mono HKFa.out.size)); clear hown1 hcs1 hb1)
                  | (at_builtin; refine app_gate rfl _ _ rfl wf.heap.size v1 nodes cells1 rfl (own_kept HO1.out (((Kept.refl _).alloc _).alloc _)) w3 HCS.out ((HK1.out.alloc _).alloc _) (w1.heap.size + 1) w1.heap.size 2 x y rfl (range3 w1 _ _ _ _ _) (rowAt_first w1 _ _ _ _) (fun e => by have := (HO1.out.lt _ e).2; omega) hsz1 HNL.out (by simp; omega) HKFa.out.size ?_; intro v2 w2 hnf2 hsh2 hb2; have HNF2 := Lib.hid hnf2; have HB2 := Lib.hid (((Below.alloc HB1.out hsz1 _).trans (Below.alloc (Below.refl _ _) (by simp; omega) _)).trans hb2); have m3 := (rowAt_below HR3.out HB2.out (by omega)).cell (i := 1) (by simp); have f3 := (rowAt_below HR3.out HB2.out (by omega)).free 1; obtain ⟨vaa, vca, rfl⟩ := hsh2; clear hnf2 hb2))
                obtain ⟨we, hwe⟩ : ∃ we, we = w2.setCell ⟨g3, 1, none⟩ (.slice vaa (nodes.length + 1) vca) := ⟨_, rfl⟩
                have HWE := Lib.hid hwe
                have hszf : wf.heap.size ≤ we.heap.size := by rw [hwe]; simpa [World.setCell] using HB2.out.size
                have HRb3 : Hid (RowAt we g3 24 [.int .i64 V, .slice vaa (nodes.length + 1) vca, .int .i64 T]) := Lib.hid (by rw [hwe]; exact (rowAt_below HR3.out HB2.out hd3).store 1 _)
                have HRb4 : Hid (RowAt we g4 24 [.int .i64 V, .slice a n c, .int .i64 T]) := Lib.hid (by rw [hwe]; exact (rowAt_below HR4.out HB2.out hd4).other hd34.symm 1 _)
                have HSb1 : Hid (RowAt we g1 24 [.int .i64 V, .slice a n c, .int .i64 x]) := Lib.hid (by rw [hwe]; exact (rowAt_below HS1.out HB2.out hd1).other hd13 1 _)
                have HSb2 : Hid (RowAt we g2 24 [.int .i64 V, .slice a n c, .int .i64 y]) := Lib.hid (by rw [hwe]; exact (rowAt_below HS2.out HB2.out hd2).other hd23 1 _)
                have HKFb : Hid (Kept w3 we) := Lib.hid (by rw [hwe]; exact (HKFa.out.app (HB2.out.mono HKFa.out.size)).store he3 1 _)
                have HNFb : Hid (NodesFar w3.heap.size wf.heap.size we (.slice vaa (nodes.length + 1) vca) (nodes ++ [gateNd 2 x y])) := Lib.hid (by rw [hwe]; exact HNF2.out.step ((Apart.of_kept (Kept.refl _)).store he3 hd3 1 _))
                clear hwe c0 c1 c2 c1n m3 f3 hsz1 HO1 HCS HB1 HK1
                rw [← HWE.out]
                obtain ⟨c0, c1, c2⟩ := fm_cells (K3.out.trans HKFb.out)
                have c1n := ((Kept.refl we).alloc (.cells #[] 47)).cell c1
                go_upto_region 12 with (first
                  | (at_builtin; refine app_nds rfl _ _ rfl we.heap.size _ rfl (own_emptyNd _ _ (Nat.le_refl _)) w3 (.slice a n c) nodes rfl HNV.out (HKFb.out.alloc _) HNL.out (by simp) ?_; intro v1b w1b cells1b hown1b hcs1b hb1b; have HO1b := Lib.hid hown1b; have HCSb := Lib.hid hcs1b; have HB1b := Lib.hid ((Below.alloc (Below.refl we.heap.size we) (Nat.le_refl _) (.cells #[] 47)).trans hb1b); have hsz1b : we.heap.size ≤ w1b.heap.size := HB1b.out.size; have HK1b : Hid (Kept w3 w1b) := Lib.hid (HKFb.out.app (HB1b.out.mono HKFb.out.size)); clear hown1b hcs1b hb1b)
                  | (at_builtin; refine app_gate rfl _ _ rfl we.heap.size v1b nodes cells1b rfl (own_kept HO1b.out (((Kept.refl _).alloc _).alloc _)) w3 HCSb.out ((HK1b.out.alloc _).alloc _) (w1b.heap.size + 1) w1b.heap.size 3 x y rfl (range3 w1b _ _ _ _ _) (rowAt_first w1b _ _ _ _) (fun e => by have := (HO1b.out.lt _ e).2; omega) hsz1b HNL.out (by simp; omega) HKFb.out.size ?_; intro v2b w2b hnf2b hsh2b hb2b; have HNF2b := Lib.hid hnf2b; have HB2b := Lib.hid (((Below.alloc HB1b.out hsz1b _).trans (Below.alloc (Below.refl _ _) (by simp; omega) _)).trans hb2b); have m3b := (rowAt_below HRb4.out HB2b.out (by omega)).cell (i := 1) (by simp); have f3b := (rowAt_below HRb4.out HB2b.out (by omega)).free 1; obtain ⟨vab, vcb, rfl⟩ := hsh2b; clear hnf2b hb2b))
                obtain ⟨wg, hwg⟩ : ∃ wg, wg = w2b.setCell ⟨g4, 1, none⟩ (.slice vab (nodes.length + 1) vcb) := ⟨_, rfl⟩
                have HWG := Lib.hid hwg
                have hd1e : g1 < we.heap.size := by omega
                have hd2e : g2 < we.heap.size := by omega
                have hd3e : g3 < we.heap.size := by omega
                have hd4e : g4 < we.heap.size := by omega
                have HRg3 : Hid (RowAt wg g3 24 [.int .i64 V, .slice vaa (nodes.length + 1) vca, .int .i64 T]) := Lib.hid (by rw [hwg]; exact (rowAt_below HRb3.out HB2b.out hd3e).other hd34 1 _)
                have HRg4 : Hid (RowAt wg g4 24 [.int .i64 V, .slice vab (nodes.length + 1) vcb, .int .i64 T]) := Lib.hid (by rw [hwg]; exact (rowAt_below HRb4.out HB2b.out hd4e).store 1 _)
                have HSg1 : Hid (RowAt wg g1 24 [.int .i64 V, .slice a n c, .int .i64 x]) := Lib.hid (by rw [hwg]; exact (rowAt_below HSb1.out HB2b.out hd1e).other hd14 1 _)
                have HSg2 : Hid (RowAt wg g2 24 [.int .i64 V, .slice a n c, .int .i64 y]) := Lib.hid (by rw [hwg]; exact (rowAt_below HSb2.out HB2b.out hd2e).other hd24 1 _)
                have HKg : Hid (Kept w3 wg) := Lib.hid (by rw [hwg]; exact (HKFb.out.app (HB2b.out.mono HKFb.out.size)).store he4 1 _)
                have HNg3 : Hid (NodesFar w3.heap.size wf.heap.size wg (.slice vaa (nodes.length + 1) vca) (nodes ++ [gateNd 2 x y])) := Lib.hid (by rw [hwg]; exact HNFb.out.step ((Apart.of_kept HB2b.out).store he4 hd4 1 _))
                have HNg4 : Hid (NodesFar w3.heap.size we.heap.size wg (.slice vab (nodes.length + 1) vcb) (nodes ++ [gateNd 3 x y])) := Lib.hid (by rw [hwg]; exact HNF2b.out.step ((Apart.of_kept (Kept.refl _)).store he4 hd4e 1 _))
                clear hwg c0 c1 c2 c1n m3b f3b hsz1b HO1b HCSb HB1b HK1b HNF2 HB2 HNF2b HB2b
                rw [← HWG.out]
                have m5 := HRg3.out.cell (i := 2) (by simp)
                have f5 := HRg3.out.free 2
                have m6 := (HRg4.out.other hd34.symm 2 (.int .i64 N)).cell (i := 2) (by simp)
                have f6 := (HRg4.out.other hd34.symm 2 (.int .i64 N)).free 2
                obtain ⟨wh, hwh⟩ : ∃ wh, wh = (wg.setCell ⟨g3, 2, none⟩ (.int .i64 N)).setCell ⟨g4, 2, none⟩ (.int .i64 N) := ⟨_, rfl⟩
                have HWH := Lib.hid hwh
                have HT3 : Hid (RowAt wh g3 24 [.int .i64 V, .slice vaa (nodes.length + 1) vca, .int .i64 N]) := Lib.hid (by rw [hwh]; exact (HRg3.out.store 2 (.int .i64 N)).other hd34 2 _)
                have HT4 : Hid (RowAt wh g4 24 [.int .i64 V, .slice vab (nodes.length + 1) vcb, .int .i64 N]) := Lib.hid (by rw [hwh]; exact (HRg4.out.other hd34.symm 2 _).store 2 (.int .i64 N))
                have HT1 : Hid (RowAt wh g1 24 [.int .i64 V, .slice a n c, .int .i64 x]) := Lib.hid (by rw [hwh]; exact (HSg1.out.other hd13 2 _).other hd14 2 _)
                have HT2 : Hid (RowAt wh g2 24 [.int .i64 V, .slice a n c, .int .i64 y]) := Lib.hid (by rw [hwh]; exact (HSg2.out.other hd23 2 _).other hd24 2 _)
                have HKh : Hid (Kept w3 wh) := Lib.hid (by rw [hwh]; exact (HKg.out.store he3 2 _).store he4 2 _)
                have HN3 : Hid (NodesFar w3.heap.size wf.heap.size wh (.slice vaa (nodes.length + 1) vca) (nodes ++ [gateNd 2 x y])) := Lib.hid (by rw [hwh]; exact HNg3.out.step (((Apart.of_kept (Kept.refl _)).store he3 hd3 2 _).store he4 hd4 2 _))
                have HN4 : Hid (NodesFar w3.heap.size we.heap.size wh (.slice vab (nodes.length + 1) vcb) (nodes ++ [gateNd 3 x y])) := Lib.hid (by rw [hwh]; exact HNg4.out.step (((Apart.of_kept (Kept.refl _)).store he3 hd3e 2 _).store he4 hd4e 2 _))
                obtain ⟨q3, X3, hr3, hc3⟩ := HG.out 2 (.slice vaa (nodes.length + 1) vca) (.inl rfl) ⟨_, _, _, rfl⟩
                obtain ⟨q4, X4, hr4, hc4⟩ := HG.out 3 (.slice vab (nodes.length + 1) vcb) (.inr rfl) ⟨_, _, _, rfl⟩
                have HC3 : Hid (∀ W, Kept wh W → Calls Try.prog 32 #[.agg #[.int .i64 V, .slice vaa (nodes.length + 1) vca, .int .i64 N]] W fun e w' => (∃ v', e = .returned (.tuple #[v', errV q3]) ∧ SetsAt w' v' X3) ∧ Kept W w') := Lib.hid fun W hk => hc3 W (HN3.out.step (Apart.of_kept hk)).at
                have HC4 : Hid (∀ W, Kept wh W → Calls Try.prog 32 #[.agg #[.int .i64 V, .slice vab (nodes.length + 1) vcb, .int .i64 N]] W fun e w' => (∃ v', e = .returned (.tuple #[v', errV q4]) ∧ SetsAt w' v' X4) ∧ Kept W w') := Lib.hid fun W hk => hc4 W (HN4.out.step (Apart.of_kept hk)).at
                have HQ4 := Lib.hid (HGQ.out q3 q4 X3 X4 hr3 hr4)
                have HO4 : Hid (q1 = 0 → q2 = 0 → q3 = 0 → q4 = 0 → productK X1 X2 = some X3 ∧ plusK X1 X2 = some X4) := Lib.hid fun e1 e2 e3 e4 => by
                  subst e3 e4
                  exact HGO.out X3 X4 e1 e2 hr3 hr4
                obtain ⟨n1, hn1⟩ : ∃ n1, n1 = nodes.length + 1 := ⟨_, rfl⟩
                rw [← hn1] at HC3 HC4 HT3 HT4
                clear hwh hr3 hr4 hc3 hc4 hn1
                go_upto_region 13 with fail
                rw [← HWH.out]
                clear m5 m6 f5 f6
                have t0 := HT1.out.cell (i := 0) (by simp)
                have t1 := HT1.out.cell (i := 1) (by simp)
                have t2 := HT1.out.cell (i := 2) (by simp)
                simp only [List.getElem_cons_succ, List.getElem_cons_zero] at t0 t1 t2
                go_wp2_with fail
                refine (HC1.out _ HKh.out).mono ?_
                rintro e w13 ⟨⟨s1, rfl, hs1⟩, hk13⟩
                obtain ⟨sa1, sn1, sc1, rfl⟩ := hs1.1.shape
                have HA1 := Lib.hid hs1
                have HK13 := Lib.hid hk13
                clear t0 t1 t2 hs1 hk13
                have t0 := (HT2.out.kept HK13.out).cell (i := 0) (by simp)
                have t1 := (HT2.out.kept HK13.out).cell (i := 1) (by simp)
                have t2 := (HT2.out.kept HK13.out).cell (i := 2) (by simp)
                simp only [List.getElem_cons_succ, List.getElem_cons_zero] at t0 t1 t2
                go_wp2_with fail
                refine (HC2.out _ (HKh.out.trans HK13.out)).mono ?_
                rintro e w14 ⟨⟨s2, rfl, hs2⟩, hk14⟩
                obtain ⟨sa2, sn2, sc2, rfl⟩ := hs2.1.shape
                have HA2 := Lib.hid hs2
                have HK14 := Lib.hid (HK13.out.trans hk14)
                have HA1' := Lib.hid (HA1.out.kept hk14)
                clear t0 t1 t2 hs2 hk14 HA1
                have t0 := (HT3.out.kept HK14.out).cell (i := 0) (by simp)
                have t1 := (HT3.out.kept HK14.out).cell (i := 1) (by simp)
                have t2 := (HT3.out.kept HK14.out).cell (i := 2) (by simp)
                simp only [List.getElem_cons_succ, List.getElem_cons_zero] at t0 t1 t2
                go_wp2_with fail
                refine (HC3.out _ HK14.out).mono ?_
                rintro e w15 ⟨⟨s3, rfl, hs3⟩, hk15⟩
                obtain ⟨sa3, sn3, sc3, rfl⟩ := hs3.1.shape
                have HA3 := Lib.hid hs3
                have HK15 := Lib.hid (HK14.out.trans hk15)
                have HB1' := Lib.hid (HA1'.out.kept hk15)
                have HB2' := Lib.hid (HA2.out.kept hk15)
                clear t0 t1 t2 hs3 hk15 HA1' HA2
                have t0 := (HT4.out.kept HK15.out).cell (i := 0) (by simp)
                have t1 := (HT4.out.kept HK15.out).cell (i := 1) (by simp)
                have t2 := (HT4.out.kept HK15.out).cell (i := 2) (by simp)
                simp only [List.getElem_cons_succ, List.getElem_cons_zero] at t0 t1 t2
                go_wp2_with fail
                refine (HC4.out _ HK15.out).mono ?_
                rintro e w16 ⟨⟨s4, rfl, hs4⟩, hk16⟩
                obtain ⟨sa4, sn4, sc4, rfl⟩ := hs4.1.shape
                have HE4 := Lib.hid hs4
                have HK16 : Hid (Kept w3 w16) := Lib.hid (HKh.out.trans (HK15.out.trans hk16))
                have HE1 := Lib.hid (HB1'.out.kept hk16)
                have HE2 := Lib.hid (HB2'.out.kept hk16)
                have HE3 := Lib.hid (HA3.out.kept hk16)
                clear t0 t1 t2 hs4 hk16 HB1' HB2' HA3 HT1 HT2 HT3 HT4 HC1 HC2 HC3 HC4 HG HGQ HGO HN3 HN4
                have N7 : Hid (∀ W, Calls Try.prog 28 #[.nilIface, .int .i64 7] W fun e w' => e = .returned (.bool false) ∧ W = w') := Lib.hid fun W => is_nil 7 W
                have N4 : Hid (∀ W, Calls Try.prog 28 #[.nilIface, .int .i64 4] W fun e w' => e = .returned (.bool false) ∧ W = w') := Lib.hid fun W => is_nil 4 W
                rcases HQ4.out with ⟨h7, h3, h4, h1, h2⟩ | ⟨h1, h2, h3, h4⟩
                · rcases h1 with h1 | h1 | h1
                  · have hz1 : errV q1 = .nilIface := by rw [show q1 = 0 by omega]; rfl
                    have hz2 : errV q2 = .iface 45 (.int .i64 q2) := errV_pos (by omega)
                    have I27 : Hid (∀ W, Calls Try.prog 28 #[.iface 45 (.int .i64 q2), .int .i64 7] W fun e w' => e = .returned (.bool true) ∧ W = w') := Lib.hid fun W => by
                      have h := is_any q2 7 (by omega) W
                      rw [show (q2 == 7) = true by simp; omega, hz2] at h
                      exact h
                    have I24 : Hid (∀ W, Calls Try.prog 28 #[.iface 45 (.int .i64 q2), .int .i64 4] W fun e w' => e = .returned (.bool false) ∧ W = w') := Lib.hid fun W => by
                      have h := is_any q2 4 (by omega) W
                      rw [show (q2 == 4) = false by simp; omega, hz2] at h
                      exact h
                    have hz3 : errV q3 = .iface 45 (.int .i64 q3) := errV_pos (by omega)
                    have I37 : Hid (∀ W, Calls Try.prog 28 #[.iface 45 (.int .i64 q3), .int .i64 7] W fun e w' => e = .returned (.bool true) ∧ W = w') := Lib.hid fun W => by
                      have h := is_any q3 7 (by omega) W
                      rw [show (q3 == 7) = true by simp; omega, hz3] at h
                      exact h
                    have I34 : Hid (∀ W, Calls Try.prog 28 #[.iface 45 (.int .i64 q3), .int .i64 4] W fun e w' => e = .returned (.bool false) ∧ W = w') := Lib.hid fun W => by
                      have h := is_any q3 4 (by omega) W
                      rw [show (q3 == 4) = false by simp; omega, hz3] at h
                      exact h
                    have hz4 : errV q4 = .iface 45 (.int .i64 q4) := errV_pos (by omega)
                    have I47 : Hid (∀ W, Calls Try.prog 28 #[.iface 45 (.int .i64 q4), .int .i64 7] W fun e w' => e = .returned (.bool true) ∧ W = w') := Lib.hid fun W => by
                      have h := is_any q4 7 (by omega) W
                      rw [show (q4 == 7) = true by simp; omega, hz4] at h
                      exact h
                    have I44 : Hid (∀ W, Calls Try.prog 28 #[.iface 45 (.int .i64 q4), .int .i64 4] W fun e w' => e = .returned (.bool false) ∧ W = w') := Lib.hid fun W => by
                      have h := is_any q4 4 (by omega) W
                      rw [show (q4 == 4) = false by simp; omega, hz4] at h
                      exact h
                    rw [hz1, hz2, hz3, hz4]
                    clear hz1 hz2 hz3 hz4
                    clear h7 h1 h2 h3 h4
                    go_wp2_with (first
                      | (go_at_call 28; (with_reducible refine (N7.out _).mono ?_); rintro e w9 ⟨rfl, rfl⟩)
                      | (go_at_call 28; (with_reducible refine (N4.out _).mono ?_); rintro e w9 ⟨rfl, rfl⟩)
                      | (go_at_call 28; (with_reducible refine (I27.out _).mono ?_); rintro e w9 ⟨rfl, rfl⟩)
                      | (go_at_call 28; (with_reducible refine (I24.out _).mono ?_); rintro e w9 ⟨rfl, rfl⟩)
                      | (go_at_call 28; (with_reducible refine (I37.out _).mono ?_); rintro e w9 ⟨rfl, rfl⟩)
                      | (go_at_call 28; (with_reducible refine (I34.out _).mono ?_); rintro e w9 ⟨rfl, rfl⟩)
                      | (go_at_call 28; (with_reducible refine (I47.out _).mono ?_); rintro e w9 ⟨rfl, rfl⟩)
                      | (go_at_call 28; (with_reducible refine (I44.out _).mono ?_); rintro e w9 ⟨rfl, rfl⟩))
                    go_ret
                    exact ⟨rfl, ((Kept.refl _).alloc _).trans (K3.out.trans HK16.out)⟩
                  · have hz1 : errV q1 = .iface 45 (.int .i64 q1) := errV_pos (by omega)
                    have I17 : Hid (∀ W, Calls Try.prog 28 #[.iface 45 (.int .i64 q1), .int .i64 7] W fun e w' => e = .returned (.bool false) ∧ W = w') := Lib.hid fun W => by
                      have h := is_any q1 7 (by omega) W
                      rw [show (q1 == 7) = false by simp; omega, hz1] at h
                      exact h
                    have I14 : Hid (∀ W, Calls Try.prog 28 #[.iface 45 (.int .i64 q1), .int .i64 4] W fun e w' => e = .returned (.bool true) ∧ W = w') := Lib.hid fun W => by
                      have h := is_any q1 4 (by omega) W
                      rw [show (q1 == 4) = true by simp; omega, hz1] at h
                      exact h
                    have hz2 : errV q2 = .iface 45 (.int .i64 q2) := errV_pos (by omega)
                    have I27 : Hid (∀ W, Calls Try.prog 28 #[.iface 45 (.int .i64 q2), .int .i64 7] W fun e w' => e = .returned (.bool true) ∧ W = w') := Lib.hid fun W => by
                      have h := is_any q2 7 (by omega) W
                      rw [show (q2 == 7) = true by simp; omega, hz2] at h
                      exact h
                    have I24 : Hid (∀ W, Calls Try.prog 28 #[.iface 45 (.int .i64 q2), .int .i64 4] W fun e w' => e = .returned (.bool false) ∧ W = w') := Lib.hid fun W => by
                      have h := is_any q2 4 (by omega) W
                      rw [show (q2 == 4) = false by simp; omega, hz2] at h
                      exact h
                    have hz3 : errV q3 = .iface 45 (.int .i64 q3) := errV_pos (by omega)
                    have I37 : Hid (∀ W, Calls Try.prog 28 #[.iface 45 (.int .i64 q3), .int .i64 7] W fun e w' => e = .returned (.bool true) ∧ W = w') := Lib.hid fun W => by
                      have h := is_any q3 7 (by omega) W
                      rw [show (q3 == 7) = true by simp; omega, hz3] at h
                      exact h
                    have I34 : Hid (∀ W, Calls Try.prog 28 #[.iface 45 (.int .i64 q3), .int .i64 4] W fun e w' => e = .returned (.bool false) ∧ W = w') := Lib.hid fun W => by
                      have h := is_any q3 4 (by omega) W
                      rw [show (q3 == 4) = false by simp; omega, hz3] at h
                      exact h
                    have hz4 : errV q4 = .iface 45 (.int .i64 q4) := errV_pos (by omega)
                    have I47 : Hid (∀ W, Calls Try.prog 28 #[.iface 45 (.int .i64 q4), .int .i64 7] W fun e w' => e = .returned (.bool true) ∧ W = w') := Lib.hid fun W => by
                      have h := is_any q4 7 (by omega) W
                      rw [show (q4 == 7) = true by simp; omega, hz4] at h
                      exact h
                    have I44 : Hid (∀ W, Calls Try.prog 28 #[.iface 45 (.int .i64 q4), .int .i64 4] W fun e w' => e = .returned (.bool false) ∧ W = w') := Lib.hid fun W => by
                      have h := is_any q4 4 (by omega) W
                      rw [show (q4 == 4) = false by simp; omega, hz4] at h
                      exact h
                    rw [hz1, hz2, hz3, hz4]
                    clear hz1 hz2 hz3 hz4
                    clear h7 h1 h2 h3 h4
                    go_wp2_with (first
                      | (go_at_call 28; (with_reducible refine (N7.out _).mono ?_); rintro e w9 ⟨rfl, rfl⟩)
                      | (go_at_call 28; (with_reducible refine (N4.out _).mono ?_); rintro e w9 ⟨rfl, rfl⟩)
                      | (go_at_call 28; (with_reducible refine (I17.out _).mono ?_); rintro e w9 ⟨rfl, rfl⟩)
                      | (go_at_call 28; (with_reducible refine (I14.out _).mono ?_); rintro e w9 ⟨rfl, rfl⟩)
                      | (go_at_call 28; (with_reducible refine (I27.out _).mono ?_); rintro e w9 ⟨rfl, rfl⟩)
                      | (go_at_call 28; (with_reducible refine (I24.out _).mono ?_); rintro e w9 ⟨rfl, rfl⟩)
                      | (go_at_call 28; (with_reducible refine (I37.out _).mono ?_); rintro e w9 ⟨rfl, rfl⟩)
                      | (go_at_call 28; (with_reducible refine (I34.out _).mono ?_); rintro e w9 ⟨rfl, rfl⟩)
                      | (go_at_call 28; (with_reducible refine (I47.out _).mono ?_); rintro e w9 ⟨rfl, rfl⟩)
                      | (go_at_call 28; (with_reducible refine (I44.out _).mono ?_); rintro e w9 ⟨rfl, rfl⟩))
                    go_ret
                    exact ⟨rfl, ((Kept.refl _).alloc _).trans (K3.out.trans HK16.out)⟩
                  · rcases h2 with h2 | h2 | h2
                    · have hz1 : errV q1 = .iface 45 (.int .i64 q1) := errV_pos (by omega)
                      have I17 : Hid (∀ W, Calls Try.prog 28 #[.iface 45 (.int .i64 q1), .int .i64 7] W fun e w' => e = .returned (.bool true) ∧ W = w') := Lib.hid fun W => by
                        have h := is_any q1 7 (by omega) W
                        rw [show (q1 == 7) = true by simp; omega, hz1] at h
                        exact h
                      have I14 : Hid (∀ W, Calls Try.prog 28 #[.iface 45 (.int .i64 q1), .int .i64 4] W fun e w' => e = .returned (.bool false) ∧ W = w') := Lib.hid fun W => by
                        have h := is_any q1 4 (by omega) W
                        rw [show (q1 == 4) = false by simp; omega, hz1] at h
                        exact h
                      have hz2 : errV q2 = .nilIface := by rw [show q2 = 0 by omega]; rfl
                      have hz3 : errV q3 = .iface 45 (.int .i64 q3) := errV_pos (by omega)
                      have I37 : Hid (∀ W, Calls Try.prog 28 #[.iface 45 (.int .i64 q3), .int .i64 7] W fun e w' => e = .returned (.bool true) ∧ W = w') := Lib.hid fun W => by
                        have h := is_any q3 7 (by omega) W
                        rw [show (q3 == 7) = true by simp; omega, hz3] at h
                        exact h
                      have I34 : Hid (∀ W, Calls Try.prog 28 #[.iface 45 (.int .i64 q3), .int .i64 4] W fun e w' => e = .returned (.bool false) ∧ W = w') := Lib.hid fun W => by
                        have h := is_any q3 4 (by omega) W
                        rw [show (q3 == 4) = false by simp; omega, hz3] at h
                        exact h
                      have hz4 : errV q4 = .iface 45 (.int .i64 q4) := errV_pos (by omega)
                      have I47 : Hid (∀ W, Calls Try.prog 28 #[.iface 45 (.int .i64 q4), .int .i64 7] W fun e w' => e = .returned (.bool true) ∧ W = w') := Lib.hid fun W => by
                        have h := is_any q4 7 (by omega) W
                        rw [show (q4 == 7) = true by simp; omega, hz4] at h
                        exact h
                      have I44 : Hid (∀ W, Calls Try.prog 28 #[.iface 45 (.int .i64 q4), .int .i64 4] W fun e w' => e = .returned (.bool false) ∧ W = w') := Lib.hid fun W => by
                        have h := is_any q4 4 (by omega) W
                        rw [show (q4 == 4) = false by simp; omega, hz4] at h
                        exact h
                      rw [hz1, hz2, hz3, hz4]
                      clear hz1 hz2 hz3 hz4
                      clear h7 h1 h2 h3 h4
                      go_wp2_with (first
                        | (go_at_call 28; (with_reducible refine (N7.out _).mono ?_); rintro e w9 ⟨rfl, rfl⟩)
                        | (go_at_call 28; (with_reducible refine (N4.out _).mono ?_); rintro e w9 ⟨rfl, rfl⟩)
                        | (go_at_call 28; (with_reducible refine (I17.out _).mono ?_); rintro e w9 ⟨rfl, rfl⟩)
                        | (go_at_call 28; (with_reducible refine (I14.out _).mono ?_); rintro e w9 ⟨rfl, rfl⟩)
                        | (go_at_call 28; (with_reducible refine (I37.out _).mono ?_); rintro e w9 ⟨rfl, rfl⟩)
                        | (go_at_call 28; (with_reducible refine (I34.out _).mono ?_); rintro e w9 ⟨rfl, rfl⟩)
                        | (go_at_call 28; (with_reducible refine (I47.out _).mono ?_); rintro e w9 ⟨rfl, rfl⟩)
                        | (go_at_call 28; (with_reducible refine (I44.out _).mono ?_); rintro e w9 ⟨rfl, rfl⟩))
                      go_ret
                      exact ⟨rfl, ((Kept.refl _).alloc _).trans (K3.out.trans HK16.out)⟩
                    · have hz1 : errV q1 = .iface 45 (.int .i64 q1) := errV_pos (by omega)
                      have I17 : Hid (∀ W, Calls Try.prog 28 #[.iface 45 (.int .i64 q1), .int .i64 7] W fun e w' => e = .returned (.bool true) ∧ W = w') := Lib.hid fun W => by
                        have h := is_any q1 7 (by omega) W
                        rw [show (q1 == 7) = true by simp; omega, hz1] at h
                        exact h
                      have I14 : Hid (∀ W, Calls Try.prog 28 #[.iface 45 (.int .i64 q1), .int .i64 4] W fun e w' => e = .returned (.bool false) ∧ W = w') := Lib.hid fun W => by
                        have h := is_any q1 4 (by omega) W
                        rw [show (q1 == 4) = false by simp; omega, hz1] at h
                        exact h
                      have hz2 : errV q2 = .iface 45 (.int .i64 q2) := errV_pos (by omega)
                      have I27 : Hid (∀ W, Calls Try.prog 28 #[.iface 45 (.int .i64 q2), .int .i64 7] W fun e w' => e = .returned (.bool false) ∧ W = w') := Lib.hid fun W => by
                        have h := is_any q2 7 (by omega) W
                        rw [show (q2 == 7) = false by simp; omega, hz2] at h
                        exact h
                      have I24 : Hid (∀ W, Calls Try.prog 28 #[.iface 45 (.int .i64 q2), .int .i64 4] W fun e w' => e = .returned (.bool true) ∧ W = w') := Lib.hid fun W => by
                        have h := is_any q2 4 (by omega) W
                        rw [show (q2 == 4) = true by simp; omega, hz2] at h
                        exact h
                      have hz3 : errV q3 = .iface 45 (.int .i64 q3) := errV_pos (by omega)
                      have I37 : Hid (∀ W, Calls Try.prog 28 #[.iface 45 (.int .i64 q3), .int .i64 7] W fun e w' => e = .returned (.bool true) ∧ W = w') := Lib.hid fun W => by
                        have h := is_any q3 7 (by omega) W
                        rw [show (q3 == 7) = true by simp; omega, hz3] at h
                        exact h
                      have I34 : Hid (∀ W, Calls Try.prog 28 #[.iface 45 (.int .i64 q3), .int .i64 4] W fun e w' => e = .returned (.bool false) ∧ W = w') := Lib.hid fun W => by
                        have h := is_any q3 4 (by omega) W
                        rw [show (q3 == 4) = false by simp; omega, hz3] at h
                        exact h
                      have hz4 : errV q4 = .iface 45 (.int .i64 q4) := errV_pos (by omega)
                      have I47 : Hid (∀ W, Calls Try.prog 28 #[.iface 45 (.int .i64 q4), .int .i64 7] W fun e w' => e = .returned (.bool true) ∧ W = w') := Lib.hid fun W => by
                        have h := is_any q4 7 (by omega) W
                        rw [show (q4 == 7) = true by simp; omega, hz4] at h
                        exact h
                      have I44 : Hid (∀ W, Calls Try.prog 28 #[.iface 45 (.int .i64 q4), .int .i64 4] W fun e w' => e = .returned (.bool false) ∧ W = w') := Lib.hid fun W => by
                        have h := is_any q4 4 (by omega) W
                        rw [show (q4 == 4) = false by simp; omega, hz4] at h
                        exact h
                      rw [hz1, hz2, hz3, hz4]
                      clear hz1 hz2 hz3 hz4
                      clear h7 h1 h2 h3 h4
                      go_wp2_with (first
                        | (go_at_call 28; (with_reducible refine (N7.out _).mono ?_); rintro e w9 ⟨rfl, rfl⟩)
                        | (go_at_call 28; (with_reducible refine (N4.out _).mono ?_); rintro e w9 ⟨rfl, rfl⟩)
                        | (go_at_call 28; (with_reducible refine (I17.out _).mono ?_); rintro e w9 ⟨rfl, rfl⟩)
                        | (go_at_call 28; (with_reducible refine (I14.out _).mono ?_); rintro e w9 ⟨rfl, rfl⟩)
                        | (go_at_call 28; (with_reducible refine (I27.out _).mono ?_); rintro e w9 ⟨rfl, rfl⟩)
                        | (go_at_call 28; (with_reducible refine (I24.out _).mono ?_); rintro e w9 ⟨rfl, rfl⟩)
                        | (go_at_call 28; (with_reducible refine (I37.out _).mono ?_); rintro e w9 ⟨rfl, rfl⟩)
                        | (go_at_call 28; (with_reducible refine (I34.out _).mono ?_); rintro e w9 ⟨rfl, rfl⟩)
                        | (go_at_call 28; (with_reducible refine (I47.out _).mono ?_); rintro e w9 ⟨rfl, rfl⟩)
                        | (go_at_call 28; (with_reducible refine (I44.out _).mono ?_); rintro e w9 ⟨rfl, rfl⟩))
                      go_ret
                      exact ⟨rfl, ((Kept.refl _).alloc _).trans (K3.out.trans HK16.out)⟩
                    · have hz1 : errV q1 = .iface 45 (.int .i64 q1) := errV_pos (by omega)
                      have I17 : Hid (∀ W, Calls Try.prog 28 #[.iface 45 (.int .i64 q1), .int .i64 7] W fun e w' => e = .returned (.bool true) ∧ W = w') := Lib.hid fun W => by
                        have h := is_any q1 7 (by omega) W
                        rw [show (q1 == 7) = true by simp; omega, hz1] at h
                        exact h
                      have I14 : Hid (∀ W, Calls Try.prog 28 #[.iface 45 (.int .i64 q1), .int .i64 4] W fun e w' => e = .returned (.bool false) ∧ W = w') := Lib.hid fun W => by
                        have h := is_any q1 4 (by omega) W
                        rw [show (q1 == 4) = false by simp; omega, hz1] at h
                        exact h
                      have hz2 : errV q2 = .iface 45 (.int .i64 q2) := errV_pos (by omega)
                      have I27 : Hid (∀ W, Calls Try.prog 28 #[.iface 45 (.int .i64 q2), .int .i64 7] W fun e w' => e = .returned (.bool true) ∧ W = w') := Lib.hid fun W => by
                        have h := is_any q2 7 (by omega) W
                        rw [show (q2 == 7) = true by simp; omega, hz2] at h
                        exact h
                      have I24 : Hid (∀ W, Calls Try.prog 28 #[.iface 45 (.int .i64 q2), .int .i64 4] W fun e w' => e = .returned (.bool false) ∧ W = w') := Lib.hid fun W => by
                        have h := is_any q2 4 (by omega) W
                        rw [show (q2 == 4) = false by simp; omega, hz2] at h
                        exact h
                      have hz3 : errV q3 = .iface 45 (.int .i64 q3) := errV_pos (by omega)
                      have I37 : Hid (∀ W, Calls Try.prog 28 #[.iface 45 (.int .i64 q3), .int .i64 7] W fun e w' => e = .returned (.bool true) ∧ W = w') := Lib.hid fun W => by
                        have h := is_any q3 7 (by omega) W
                        rw [show (q3 == 7) = true by simp; omega, hz3] at h
                        exact h
                      have I34 : Hid (∀ W, Calls Try.prog 28 #[.iface 45 (.int .i64 q3), .int .i64 4] W fun e w' => e = .returned (.bool false) ∧ W = w') := Lib.hid fun W => by
                        have h := is_any q3 4 (by omega) W
                        rw [show (q3 == 4) = false by simp; omega, hz3] at h
                        exact h
                      have hz4 : errV q4 = .iface 45 (.int .i64 q4) := errV_pos (by omega)
                      have I47 : Hid (∀ W, Calls Try.prog 28 #[.iface 45 (.int .i64 q4), .int .i64 7] W fun e w' => e = .returned (.bool true) ∧ W = w') := Lib.hid fun W => by
                        have h := is_any q4 7 (by omega) W
                        rw [show (q4 == 7) = true by simp; omega, hz4] at h
                        exact h
                      have I44 : Hid (∀ W, Calls Try.prog 28 #[.iface 45 (.int .i64 q4), .int .i64 4] W fun e w' => e = .returned (.bool false) ∧ W = w') := Lib.hid fun W => by
                        have h := is_any q4 4 (by omega) W
                        rw [show (q4 == 4) = false by simp; omega, hz4] at h
                        exact h
                      rw [hz1, hz2, hz3, hz4]
                      clear hz1 hz2 hz3 hz4
                      clear h7 h1 h2 h3 h4
                      go_wp2_with (first
                        | (go_at_call 28; (with_reducible refine (N7.out _).mono ?_); rintro e w9 ⟨rfl, rfl⟩)
                        | (go_at_call 28; (with_reducible refine (N4.out _).mono ?_); rintro e w9 ⟨rfl, rfl⟩)
                        | (go_at_call 28; (with_reducible refine (I17.out _).mono ?_); rintro e w9 ⟨rfl, rfl⟩)
                        | (go_at_call 28; (with_reducible refine (I14.out _).mono ?_); rintro e w9 ⟨rfl, rfl⟩)
                        | (go_at_call 28; (with_reducible refine (I27.out _).mono ?_); rintro e w9 ⟨rfl, rfl⟩)
                        | (go_at_call 28; (with_reducible refine (I24.out _).mono ?_); rintro e w9 ⟨rfl, rfl⟩)
                        | (go_at_call 28; (with_reducible refine (I37.out _).mono ?_); rintro e w9 ⟨rfl, rfl⟩)
                        | (go_at_call 28; (with_reducible refine (I34.out _).mono ?_); rintro e w9 ⟨rfl, rfl⟩)
                        | (go_at_call 28; (with_reducible refine (I47.out _).mono ?_); rintro e w9 ⟨rfl, rfl⟩)
                        | (go_at_call 28; (with_reducible refine (I44.out _).mono ?_); rintro e w9 ⟨rfl, rfl⟩))
                      go_ret
                      exact ⟨rfl, ((Kept.refl _).alloc _).trans (K3.out.trans HK16.out)⟩
                · rcases h1 with h1 | h1 <;> rcases h2 with h2 | h2 <;> rcases h3 with h3 | h3 <;> rcases h4 with h4 | h4
                  · obtain ⟨hpr, hpl⟩ := HO4.out h1 h2 h3 h4
                    have hz1 : errV q1 = .nilIface := by rw [h1]; rfl
                    have hz2 : errV q2 = .nilIface := by rw [h2]; rfl
                    have hz3 : errV q3 = .nilIface := by rw [h3]; rfl
                    have hz4 : errV q4 = .nilIface := by rw [h4]; rfl
                    have HPR : Hid (Calls Try.prog 48 #[.slice sa1 sn1 sc1, .slice sa2 sn2 sc2] w16 fun e w' => (∃ v', e = .returned (.tuple #[v', .nilIface]) ∧ OwnSets w' w16.heap.size v' X3) ∧ Kept w16 w') := Lib.hid (by
                      have h := product_any X1 X2 _ _ w16 HE1.out HE2.out
                      rw [hpr] at h
                      exact h)
                    have HPL : Hid (∀ W, Kept w16 W → Calls Try.prog 49 #[.slice sa1 sn1 sc1, .slice sa2 sn2 sc2] W fun e w' => (∃ v', e = .returned (.tuple #[v', .nilIface]) ∧ OwnSets w' W.heap.size v' X4) ∧ Kept W w') := Lib.hid fun W hk => by
                      have h := plus_any X1 X2 _ _ W (HE1.out.kept hk) (HE2.out.kept hk)
                      rw [hpl] at h
                      exact h
                    rw [hz1, hz2, hz3, hz4]
                    clear hz1 hz2 hz3 hz4 hpr hpl h1 h2 h3 h4
                    go_wp2_with fail
                    refine HPR.out.mono ?_
                    rintro e w17 ⟨⟨s5, rfl, ho5⟩, hk17⟩
                    obtain ⟨sa5, sn5, sc5, rfl⟩ := ho5.1.ints.shape
                    have HK17 := Lib.hid hk17
                    have HO5 := Lib.hid ho5
                    clear hk17 ho5
                    go_wp2_with fail
                    refine (HPL.out _ HK17.out).mono ?_
                    rintro e w18 ⟨⟨s6, rfl, ho6⟩, hk18⟩
                    obtain ⟨sa6, sn6, sc6, rfl⟩ := ho6.1.ints.shape
                    have HK18 := Lib.hid (HK17.out.trans hk18)
                    have HO6 := Lib.hid ho6
                    have HO5' := Lib.hid (HO5.out.kept hk18)
                    clear hk18 ho6
                    have HI1 : Hid (Calls Try.prog 23 #[.slice sa5 sn5 sc5, .slice sa3 sn3 sc3] w18 fun e w' => e = .returned (.bool true) ∧ Kept w18 w') := Lib.hid (ints_true _ _ w18 HO5'.out.1.ints (HE3.out.kept HK18.out).1)
                    have HI2 : Hid (∀ W, Kept w18 W → Calls Try.prog 23 #[.slice sa6 sn6 sc6, .slice sa4 sn4 sc4] W fun e w' => e = .returned (.bool true) ∧ Kept W w') := Lib.hid fun W hk => ints_true _ _ W (HO6.out.1.ints.kept hk) ((HE4.out.kept HK18.out).1.kept hk)
                    go_wp2_with (first
                      | (go_at_call 23; (with_reducible refine HI1.out.mono ?_); rintro e w19 ⟨rfl, hk19⟩)
                      | (go_at_call 23; (with_reducible refine (HI2.out _ hk19).mono ?_); rintro e w20 ⟨rfl, hk20⟩))
                    go_ret
                    exact ⟨rfl, ((Kept.refl _).alloc _).trans (K3.out.trans (HK16.out.trans (HK18.out.trans (hk19.trans hk20))))⟩
                  · have hz1 : errV q1 = .nilIface := by rw [show q1 = 0 by omega]; rfl
                    have hz2 : errV q2 = .nilIface := by rw [show q2 = 0 by omega]; rfl
                    have hz3 : errV q3 = .nilIface := by rw [show q3 = 0 by omega]; rfl
                    have hz4 : errV q4 = .iface 45 (.int .i64 q4) := errV_pos (by omega)
                    have I47 : Hid (∀ W, Calls Try.prog 28 #[.iface 45 (.int .i64 q4), .int .i64 7] W fun e w' => e = .returned (.bool false) ∧ W = w') := Lib.hid fun W => by
                      have h := is_any q4 7 (by omega) W
                      rw [show (q4 == 7) = false by simp; omega, hz4] at h
                      exact h
                    have I44 : Hid (∀ W, Calls Try.prog 28 #[.iface 45 (.int .i64 q4), .int .i64 4] W fun e w' => e = .returned (.bool true) ∧ W = w') := Lib.hid fun W => by
                      have h := is_any q4 4 (by omega) W
                      rw [show (q4 == 4) = true by simp; omega, hz4] at h
                      exact h
                    rw [hz1, hz2, hz3, hz4]
                    clear hz1 hz2 hz3 hz4
                    clear h1 h2 h3 h4
                    go_wp2_with (first
                      | (go_at_call 28; (with_reducible refine (N7.out _).mono ?_); rintro e w9 ⟨rfl, rfl⟩)
                      | (go_at_call 28; (with_reducible refine (N4.out _).mono ?_); rintro e w9 ⟨rfl, rfl⟩)
                      | (go_at_call 28; (with_reducible refine (I47.out _).mono ?_); rintro e w9 ⟨rfl, rfl⟩)
                      | (go_at_call 28; (with_reducible refine (I44.out _).mono ?_); rintro e w9 ⟨rfl, rfl⟩))
                    go_ret
                    exact ⟨rfl, ((Kept.refl _).alloc _).trans (K3.out.trans HK16.out)⟩
                  · have hz1 : errV q1 = .nilIface := by rw [show q1 = 0 by omega]; rfl
                    have hz2 : errV q2 = .nilIface := by rw [show q2 = 0 by omega]; rfl
                    have hz3 : errV q3 = .iface 45 (.int .i64 q3) := errV_pos (by omega)
                    have I37 : Hid (∀ W, Calls Try.prog 28 #[.iface 45 (.int .i64 q3), .int .i64 7] W fun e w' => e = .returned (.bool false) ∧ W = w') := Lib.hid fun W => by
                      have h := is_any q3 7 (by omega) W
                      rw [show (q3 == 7) = false by simp; omega, hz3] at h
                      exact h
                    have I34 : Hid (∀ W, Calls Try.prog 28 #[.iface 45 (.int .i64 q3), .int .i64 4] W fun e w' => e = .returned (.bool true) ∧ W = w') := Lib.hid fun W => by
                      have h := is_any q3 4 (by omega) W
                      rw [show (q3 == 4) = true by simp; omega, hz3] at h
                      exact h
                    have hz4 : errV q4 = .nilIface := by rw [show q4 = 0 by omega]; rfl
                    rw [hz1, hz2, hz3, hz4]
                    clear hz1 hz2 hz3 hz4
                    clear h1 h2 h3 h4
                    go_wp2_with (first
                      | (go_at_call 28; (with_reducible refine (N7.out _).mono ?_); rintro e w9 ⟨rfl, rfl⟩)
                      | (go_at_call 28; (with_reducible refine (N4.out _).mono ?_); rintro e w9 ⟨rfl, rfl⟩)
                      | (go_at_call 28; (with_reducible refine (I37.out _).mono ?_); rintro e w9 ⟨rfl, rfl⟩)
                      | (go_at_call 28; (with_reducible refine (I34.out _).mono ?_); rintro e w9 ⟨rfl, rfl⟩))
                    go_ret
                    exact ⟨rfl, ((Kept.refl _).alloc _).trans (K3.out.trans HK16.out)⟩
                  · have hz1 : errV q1 = .nilIface := by rw [show q1 = 0 by omega]; rfl
                    have hz2 : errV q2 = .nilIface := by rw [show q2 = 0 by omega]; rfl
                    have hz3 : errV q3 = .iface 45 (.int .i64 q3) := errV_pos (by omega)
                    have I37 : Hid (∀ W, Calls Try.prog 28 #[.iface 45 (.int .i64 q3), .int .i64 7] W fun e w' => e = .returned (.bool false) ∧ W = w') := Lib.hid fun W => by
                      have h := is_any q3 7 (by omega) W
                      rw [show (q3 == 7) = false by simp; omega, hz3] at h
                      exact h
                    have I34 : Hid (∀ W, Calls Try.prog 28 #[.iface 45 (.int .i64 q3), .int .i64 4] W fun e w' => e = .returned (.bool true) ∧ W = w') := Lib.hid fun W => by
                      have h := is_any q3 4 (by omega) W
                      rw [show (q3 == 4) = true by simp; omega, hz3] at h
                      exact h
                    have hz4 : errV q4 = .iface 45 (.int .i64 q4) := errV_pos (by omega)
                    have I47 : Hid (∀ W, Calls Try.prog 28 #[.iface 45 (.int .i64 q4), .int .i64 7] W fun e w' => e = .returned (.bool false) ∧ W = w') := Lib.hid fun W => by
                      have h := is_any q4 7 (by omega) W
                      rw [show (q4 == 7) = false by simp; omega, hz4] at h
                      exact h
                    have I44 : Hid (∀ W, Calls Try.prog 28 #[.iface 45 (.int .i64 q4), .int .i64 4] W fun e w' => e = .returned (.bool true) ∧ W = w') := Lib.hid fun W => by
                      have h := is_any q4 4 (by omega) W
                      rw [show (q4 == 4) = true by simp; omega, hz4] at h
                      exact h
                    rw [hz1, hz2, hz3, hz4]
                    clear hz1 hz2 hz3 hz4
                    clear h1 h2 h3 h4
                    go_wp2_with (first
                      | (go_at_call 28; (with_reducible refine (N7.out _).mono ?_); rintro e w9 ⟨rfl, rfl⟩)
                      | (go_at_call 28; (with_reducible refine (N4.out _).mono ?_); rintro e w9 ⟨rfl, rfl⟩)
                      | (go_at_call 28; (with_reducible refine (I37.out _).mono ?_); rintro e w9 ⟨rfl, rfl⟩)
                      | (go_at_call 28; (with_reducible refine (I34.out _).mono ?_); rintro e w9 ⟨rfl, rfl⟩)
                      | (go_at_call 28; (with_reducible refine (I47.out _).mono ?_); rintro e w9 ⟨rfl, rfl⟩)
                      | (go_at_call 28; (with_reducible refine (I44.out _).mono ?_); rintro e w9 ⟨rfl, rfl⟩))
                    go_ret
                    exact ⟨rfl, ((Kept.refl _).alloc _).trans (K3.out.trans HK16.out)⟩
                  · have hz1 : errV q1 = .nilIface := by rw [show q1 = 0 by omega]; rfl
                    have hz2 : errV q2 = .iface 45 (.int .i64 q2) := errV_pos (by omega)
                    have I27 : Hid (∀ W, Calls Try.prog 28 #[.iface 45 (.int .i64 q2), .int .i64 7] W fun e w' => e = .returned (.bool false) ∧ W = w') := Lib.hid fun W => by
                      have h := is_any q2 7 (by omega) W
                      rw [show (q2 == 7) = false by simp; omega, hz2] at h
                      exact h
                    have I24 : Hid (∀ W, Calls Try.prog 28 #[.iface 45 (.int .i64 q2), .int .i64 4] W fun e w' => e = .returned (.bool true) ∧ W = w') := Lib.hid fun W => by
                      have h := is_any q2 4 (by omega) W
                      rw [show (q2 == 4) = true by simp; omega, hz2] at h
                      exact h
                    have hz3 : errV q3 = .nilIface := by rw [show q3 = 0 by omega]; rfl
                    have hz4 : errV q4 = .nilIface := by rw [show q4 = 0 by omega]; rfl
                    rw [hz1, hz2, hz3, hz4]
                    clear hz1 hz2 hz3 hz4
                    clear h1 h2 h3 h4
                    go_wp2_with (first
                      | (go_at_call 28; (with_reducible refine (N7.out _).mono ?_); rintro e w9 ⟨rfl, rfl⟩)
                      | (go_at_call 28; (with_reducible refine (N4.out _).mono ?_); rintro e w9 ⟨rfl, rfl⟩)
                      | (go_at_call 28; (with_reducible refine (I27.out _).mono ?_); rintro e w9 ⟨rfl, rfl⟩)
                      | (go_at_call 28; (with_reducible refine (I24.out _).mono ?_); rintro e w9 ⟨rfl, rfl⟩))
                    go_ret
                    exact ⟨rfl, ((Kept.refl _).alloc _).trans (K3.out.trans HK16.out)⟩
                  · have hz1 : errV q1 = .nilIface := by rw [show q1 = 0 by omega]; rfl
                    have hz2 : errV q2 = .iface 45 (.int .i64 q2) := errV_pos (by omega)
                    have I27 : Hid (∀ W, Calls Try.prog 28 #[.iface 45 (.int .i64 q2), .int .i64 7] W fun e w' => e = .returned (.bool false) ∧ W = w') := Lib.hid fun W => by
                      have h := is_any q2 7 (by omega) W
                      rw [show (q2 == 7) = false by simp; omega, hz2] at h
                      exact h
                    have I24 : Hid (∀ W, Calls Try.prog 28 #[.iface 45 (.int .i64 q2), .int .i64 4] W fun e w' => e = .returned (.bool true) ∧ W = w') := Lib.hid fun W => by
                      have h := is_any q2 4 (by omega) W
                      rw [show (q2 == 4) = true by simp; omega, hz2] at h
                      exact h
                    have hz3 : errV q3 = .nilIface := by rw [show q3 = 0 by omega]; rfl
                    have hz4 : errV q4 = .iface 45 (.int .i64 q4) := errV_pos (by omega)
                    have I47 : Hid (∀ W, Calls Try.prog 28 #[.iface 45 (.int .i64 q4), .int .i64 7] W fun e w' => e = .returned (.bool false) ∧ W = w') := Lib.hid fun W => by
                      have h := is_any q4 7 (by omega) W
                      rw [show (q4 == 7) = false by simp; omega, hz4] at h
                      exact h
                    have I44 : Hid (∀ W, Calls Try.prog 28 #[.iface 45 (.int .i64 q4), .int .i64 4] W fun e w' => e = .returned (.bool true) ∧ W = w') := Lib.hid fun W => by
                      have h := is_any q4 4 (by omega) W
                      rw [show (q4 == 4) = true by simp; omega, hz4] at h
                      exact h
                    rw [hz1, hz2, hz3, hz4]
                    clear hz1 hz2 hz3 hz4
                    clear h1 h2 h3 h4
                    go_wp2_with (first
                      | (go_at_call 28; (with_reducible refine (N7.out _).mono ?_); rintro e w9 ⟨rfl, rfl⟩)
                      | (go_at_call 28; (with_reducible refine (N4.out _).mono ?_); rintro e w9 ⟨rfl, rfl⟩)
                      | (go_at_call 28; (with_reducible refine (I27.out _).mono ?_); rintro e w9 ⟨rfl, rfl⟩)
                      | (go_at_call 28; (with_reducible refine (I24.out _).mono ?_); rintro e w9 ⟨rfl, rfl⟩)
                      | (go_at_call 28; (with_reducible refine (I47.out _).mono ?_); rintro e w9 ⟨rfl, rfl⟩)
                      | (go_at_call 28; (with_reducible refine (I44.out _).mono ?_); rintro e w9 ⟨rfl, rfl⟩))
                    go_ret
                    exact ⟨rfl, ((Kept.refl _).alloc _).trans (K3.out.trans HK16.out)⟩
                  · have hz1 : errV q1 = .nilIface := by rw [show q1 = 0 by omega]; rfl
                    have hz2 : errV q2 = .iface 45 (.int .i64 q2) := errV_pos (by omega)
                    have I27 : Hid (∀ W, Calls Try.prog 28 #[.iface 45 (.int .i64 q2), .int .i64 7] W fun e w' => e = .returned (.bool false) ∧ W = w') := Lib.hid fun W => by
                      have h := is_any q2 7 (by omega) W
                      rw [show (q2 == 7) = false by simp; omega, hz2] at h
                      exact h
                    have I24 : Hid (∀ W, Calls Try.prog 28 #[.iface 45 (.int .i64 q2), .int .i64 4] W fun e w' => e = .returned (.bool true) ∧ W = w') := Lib.hid fun W => by
                      have h := is_any q2 4 (by omega) W
                      rw [show (q2 == 4) = true by simp; omega, hz2] at h
                      exact h
                    have hz3 : errV q3 = .iface 45 (.int .i64 q3) := errV_pos (by omega)
                    have I37 : Hid (∀ W, Calls Try.prog 28 #[.iface 45 (.int .i64 q3), .int .i64 7] W fun e w' => e = .returned (.bool false) ∧ W = w') := Lib.hid fun W => by
                      have h := is_any q3 7 (by omega) W
                      rw [show (q3 == 7) = false by simp; omega, hz3] at h
                      exact h
                    have I34 : Hid (∀ W, Calls Try.prog 28 #[.iface 45 (.int .i64 q3), .int .i64 4] W fun e w' => e = .returned (.bool true) ∧ W = w') := Lib.hid fun W => by
                      have h := is_any q3 4 (by omega) W
                      rw [show (q3 == 4) = true by simp; omega, hz3] at h
                      exact h
                    have hz4 : errV q4 = .nilIface := by rw [show q4 = 0 by omega]; rfl
                    rw [hz1, hz2, hz3, hz4]
                    clear hz1 hz2 hz3 hz4
                    clear h1 h2 h3 h4
                    go_wp2_with (first
                      | (go_at_call 28; (with_reducible refine (N7.out _).mono ?_); rintro e w9 ⟨rfl, rfl⟩)
                      | (go_at_call 28; (with_reducible refine (N4.out _).mono ?_); rintro e w9 ⟨rfl, rfl⟩)
                      | (go_at_call 28; (with_reducible refine (I27.out _).mono ?_); rintro e w9 ⟨rfl, rfl⟩)
                      | (go_at_call 28; (with_reducible refine (I24.out _).mono ?_); rintro e w9 ⟨rfl, rfl⟩)
                      | (go_at_call 28; (with_reducible refine (I37.out _).mono ?_); rintro e w9 ⟨rfl, rfl⟩)
                      | (go_at_call 28; (with_reducible refine (I34.out _).mono ?_); rintro e w9 ⟨rfl, rfl⟩))
                    go_ret
                    exact ⟨rfl, ((Kept.refl _).alloc _).trans (K3.out.trans HK16.out)⟩
                  · have hz1 : errV q1 = .nilIface := by rw [show q1 = 0 by omega]; rfl
                    have hz2 : errV q2 = .iface 45 (.int .i64 q2) := errV_pos (by omega)
                    have I27 : Hid (∀ W, Calls Try.prog 28 #[.iface 45 (.int .i64 q2), .int .i64 7] W fun e w' => e = .returned (.bool false) ∧ W = w') := Lib.hid fun W => by
                      have h := is_any q2 7 (by omega) W
                      rw [show (q2 == 7) = false by simp; omega, hz2] at h
                      exact h
                    have I24 : Hid (∀ W, Calls Try.prog 28 #[.iface 45 (.int .i64 q2), .int .i64 4] W fun e w' => e = .returned (.bool true) ∧ W = w') := Lib.hid fun W => by
                      have h := is_any q2 4 (by omega) W
                      rw [show (q2 == 4) = true by simp; omega, hz2] at h
                      exact h
                    have hz3 : errV q3 = .iface 45 (.int .i64 q3) := errV_pos (by omega)
                    have I37 : Hid (∀ W, Calls Try.prog 28 #[.iface 45 (.int .i64 q3), .int .i64 7] W fun e w' => e = .returned (.bool false) ∧ W = w') := Lib.hid fun W => by
                      have h := is_any q3 7 (by omega) W
                      rw [show (q3 == 7) = false by simp; omega, hz3] at h
                      exact h
                    have I34 : Hid (∀ W, Calls Try.prog 28 #[.iface 45 (.int .i64 q3), .int .i64 4] W fun e w' => e = .returned (.bool true) ∧ W = w') := Lib.hid fun W => by
                      have h := is_any q3 4 (by omega) W
                      rw [show (q3 == 4) = true by simp; omega, hz3] at h
                      exact h
                    have hz4 : errV q4 = .iface 45 (.int .i64 q4) := errV_pos (by omega)
                    have I47 : Hid (∀ W, Calls Try.prog 28 #[.iface 45 (.int .i64 q4), .int .i64 7] W fun e w' => e = .returned (.bool false) ∧ W = w') := Lib.hid fun W => by
                      have h := is_any q4 7 (by omega) W
                      rw [show (q4 == 7) = false by simp; omega, hz4] at h
                      exact h
                    have I44 : Hid (∀ W, Calls Try.prog 28 #[.iface 45 (.int .i64 q4), .int .i64 4] W fun e w' => e = .returned (.bool true) ∧ W = w') := Lib.hid fun W => by
                      have h := is_any q4 4 (by omega) W
                      rw [show (q4 == 4) = true by simp; omega, hz4] at h
                      exact h
                    rw [hz1, hz2, hz3, hz4]
                    clear hz1 hz2 hz3 hz4
                    clear h1 h2 h3 h4
                    go_wp2_with (first
                      | (go_at_call 28; (with_reducible refine (N7.out _).mono ?_); rintro e w9 ⟨rfl, rfl⟩)
                      | (go_at_call 28; (with_reducible refine (N4.out _).mono ?_); rintro e w9 ⟨rfl, rfl⟩)
                      | (go_at_call 28; (with_reducible refine (I27.out _).mono ?_); rintro e w9 ⟨rfl, rfl⟩)
                      | (go_at_call 28; (with_reducible refine (I24.out _).mono ?_); rintro e w9 ⟨rfl, rfl⟩)
                      | (go_at_call 28; (with_reducible refine (I37.out _).mono ?_); rintro e w9 ⟨rfl, rfl⟩)
                      | (go_at_call 28; (with_reducible refine (I34.out _).mono ?_); rintro e w9 ⟨rfl, rfl⟩)
                      | (go_at_call 28; (with_reducible refine (I47.out _).mono ?_); rintro e w9 ⟨rfl, rfl⟩)
                      | (go_at_call 28; (with_reducible refine (I44.out _).mono ?_); rintro e w9 ⟨rfl, rfl⟩))
                    go_ret
                    exact ⟨rfl, ((Kept.refl _).alloc _).trans (K3.out.trans HK16.out)⟩
                  · have hz1 : errV q1 = .iface 45 (.int .i64 q1) := errV_pos (by omega)
                    have I17 : Hid (∀ W, Calls Try.prog 28 #[.iface 45 (.int .i64 q1), .int .i64 7] W fun e w' => e = .returned (.bool false) ∧ W = w') := Lib.hid fun W => by
                      have h := is_any q1 7 (by omega) W
                      rw [show (q1 == 7) = false by simp; omega, hz1] at h
                      exact h
                    have I14 : Hid (∀ W, Calls Try.prog 28 #[.iface 45 (.int .i64 q1), .int .i64 4] W fun e w' => e = .returned (.bool true) ∧ W = w') := Lib.hid fun W => by
                      have h := is_any q1 4 (by omega) W
                      rw [show (q1 == 4) = true by simp; omega, hz1] at h
                      exact h
                    have hz2 : errV q2 = .nilIface := by rw [show q2 = 0 by omega]; rfl
                    have hz3 : errV q3 = .nilIface := by rw [show q3 = 0 by omega]; rfl
                    have hz4 : errV q4 = .nilIface := by rw [show q4 = 0 by omega]; rfl
                    rw [hz1, hz2, hz3, hz4]
                    clear hz1 hz2 hz3 hz4
                    clear h1 h2 h3 h4
                    go_wp2_with (first
                      | (go_at_call 28; (with_reducible refine (N7.out _).mono ?_); rintro e w9 ⟨rfl, rfl⟩)
                      | (go_at_call 28; (with_reducible refine (N4.out _).mono ?_); rintro e w9 ⟨rfl, rfl⟩)
                      | (go_at_call 28; (with_reducible refine (I17.out _).mono ?_); rintro e w9 ⟨rfl, rfl⟩)
                      | (go_at_call 28; (with_reducible refine (I14.out _).mono ?_); rintro e w9 ⟨rfl, rfl⟩))
                    go_ret
                    exact ⟨rfl, ((Kept.refl _).alloc _).trans (K3.out.trans HK16.out)⟩
                  · have hz1 : errV q1 = .iface 45 (.int .i64 q1) := errV_pos (by omega)
                    have I17 : Hid (∀ W, Calls Try.prog 28 #[.iface 45 (.int .i64 q1), .int .i64 7] W fun e w' => e = .returned (.bool false) ∧ W = w') := Lib.hid fun W => by
                      have h := is_any q1 7 (by omega) W
                      rw [show (q1 == 7) = false by simp; omega, hz1] at h
                      exact h
                    have I14 : Hid (∀ W, Calls Try.prog 28 #[.iface 45 (.int .i64 q1), .int .i64 4] W fun e w' => e = .returned (.bool true) ∧ W = w') := Lib.hid fun W => by
                      have h := is_any q1 4 (by omega) W
                      rw [show (q1 == 4) = true by simp; omega, hz1] at h
                      exact h
                    have hz2 : errV q2 = .nilIface := by rw [show q2 = 0 by omega]; rfl
                    have hz3 : errV q3 = .nilIface := by rw [show q3 = 0 by omega]; rfl
                    have hz4 : errV q4 = .iface 45 (.int .i64 q4) := errV_pos (by omega)
                    have I47 : Hid (∀ W, Calls Try.prog 28 #[.iface 45 (.int .i64 q4), .int .i64 7] W fun e w' => e = .returned (.bool false) ∧ W = w') := Lib.hid fun W => by
                      have h := is_any q4 7 (by omega) W
                      rw [show (q4 == 7) = false by simp; omega, hz4] at h
                      exact h
                    have I44 : Hid (∀ W, Calls Try.prog 28 #[.iface 45 (.int .i64 q4), .int .i64 4] W fun e w' => e = .returned (.bool true) ∧ W = w') := Lib.hid fun W => by
                      have h := is_any q4 4 (by omega) W
                      rw [show (q4 == 4) = true by simp; omega, hz4] at h
                      exact h
                    rw [hz1, hz2, hz3, hz4]
                    clear hz1 hz2 hz3 hz4
                    clear h1 h2 h3 h4
                    go_wp2_with (first
                      | (go_at_call 28; (with_reducible refine (N7.out _).mono ?_); rintro e w9 ⟨rfl, rfl⟩)
                      | (go_at_call 28; (with_reducible refine (N4.out _).mono ?_); rintro e w9 ⟨rfl, rfl⟩)
                      | (go_at_call 28; (with_reducible refine (I17.out _).mono ?_); rintro e w9 ⟨rfl, rfl⟩)
                      | (go_at_call 28; (with_reducible refine (I14.out _).mono ?_); rintro e w9 ⟨rfl, rfl⟩)
                      | (go_at_call 28; (with_reducible refine (I47.out _).mono ?_); rintro e w9 ⟨rfl, rfl⟩)
                      | (go_at_call 28; (with_reducible refine (I44.out _).mono ?_); rintro e w9 ⟨rfl, rfl⟩))
                    go_ret
                    exact ⟨rfl, ((Kept.refl _).alloc _).trans (K3.out.trans HK16.out)⟩
                  · have hz1 : errV q1 = .iface 45 (.int .i64 q1) := errV_pos (by omega)
                    have I17 : Hid (∀ W, Calls Try.prog 28 #[.iface 45 (.int .i64 q1), .int .i64 7] W fun e w' => e = .returned (.bool false) ∧ W = w') := Lib.hid fun W => by
                      have h := is_any q1 7 (by omega) W
                      rw [show (q1 == 7) = false by simp; omega, hz1] at h
                      exact h
                    have I14 : Hid (∀ W, Calls Try.prog 28 #[.iface 45 (.int .i64 q1), .int .i64 4] W fun e w' => e = .returned (.bool true) ∧ W = w') := Lib.hid fun W => by
                      have h := is_any q1 4 (by omega) W
                      rw [show (q1 == 4) = true by simp; omega, hz1] at h
                      exact h
                    have hz2 : errV q2 = .nilIface := by rw [show q2 = 0 by omega]; rfl
                    have hz3 : errV q3 = .iface 45 (.int .i64 q3) := errV_pos (by omega)
                    have I37 : Hid (∀ W, Calls Try.prog 28 #[.iface 45 (.int .i64 q3), .int .i64 7] W fun e w' => e = .returned (.bool false) ∧ W = w') := Lib.hid fun W => by
                      have h := is_any q3 7 (by omega) W
                      rw [show (q3 == 7) = false by simp; omega, hz3] at h
                      exact h
                    have I34 : Hid (∀ W, Calls Try.prog 28 #[.iface 45 (.int .i64 q3), .int .i64 4] W fun e w' => e = .returned (.bool true) ∧ W = w') := Lib.hid fun W => by
                      have h := is_any q3 4 (by omega) W
                      rw [show (q3 == 4) = true by simp; omega, hz3] at h
                      exact h
                    have hz4 : errV q4 = .nilIface := by rw [show q4 = 0 by omega]; rfl
                    rw [hz1, hz2, hz3, hz4]
                    clear hz1 hz2 hz3 hz4
                    clear h1 h2 h3 h4
                    go_wp2_with (first
                      | (go_at_call 28; (with_reducible refine (N7.out _).mono ?_); rintro e w9 ⟨rfl, rfl⟩)
                      | (go_at_call 28; (with_reducible refine (N4.out _).mono ?_); rintro e w9 ⟨rfl, rfl⟩)
                      | (go_at_call 28; (with_reducible refine (I17.out _).mono ?_); rintro e w9 ⟨rfl, rfl⟩)
                      | (go_at_call 28; (with_reducible refine (I14.out _).mono ?_); rintro e w9 ⟨rfl, rfl⟩)
                      | (go_at_call 28; (with_reducible refine (I37.out _).mono ?_); rintro e w9 ⟨rfl, rfl⟩)
                      | (go_at_call 28; (with_reducible refine (I34.out _).mono ?_); rintro e w9 ⟨rfl, rfl⟩))
                    go_ret
                    exact ⟨rfl, ((Kept.refl _).alloc _).trans (K3.out.trans HK16.out)⟩
                  · have hz1 : errV q1 = .iface 45 (.int .i64 q1) := errV_pos (by omega)
                    have I17 : Hid (∀ W, Calls Try.prog 28 #[.iface 45 (.int .i64 q1), .int .i64 7] W fun e w' => e = .returned (.bool false) ∧ W = w') := Lib.hid fun W => by
                      have h := is_any q1 7 (by omega) W
                      rw [show (q1 == 7) = false by simp; omega, hz1] at h
                      exact h
                    have I14 : Hid (∀ W, Calls Try.prog 28 #[.iface 45 (.int .i64 q1), .int .i64 4] W fun e w' => e = .returned (.bool true) ∧ W = w') := Lib.hid fun W => by
                      have h := is_any q1 4 (by omega) W
                      rw [show (q1 == 4) = true by simp; omega, hz1] at h
                      exact h
                    have hz2 : errV q2 = .nilIface := by rw [show q2 = 0 by omega]; rfl
                    have hz3 : errV q3 = .iface 45 (.int .i64 q3) := errV_pos (by omega)
                    have I37 : Hid (∀ W, Calls Try.prog 28 #[.iface 45 (.int .i64 q3), .int .i64 7] W fun e w' => e = .returned (.bool false) ∧ W = w') := Lib.hid fun W => by
                      have h := is_any q3 7 (by omega) W
                      rw [show (q3 == 7) = false by simp; omega, hz3] at h
                      exact h
                    have I34 : Hid (∀ W, Calls Try.prog 28 #[.iface 45 (.int .i64 q3), .int .i64 4] W fun e w' => e = .returned (.bool true) ∧ W = w') := Lib.hid fun W => by
                      have h := is_any q3 4 (by omega) W
                      rw [show (q3 == 4) = true by simp; omega, hz3] at h
                      exact h
                    have hz4 : errV q4 = .iface 45 (.int .i64 q4) := errV_pos (by omega)
                    have I47 : Hid (∀ W, Calls Try.prog 28 #[.iface 45 (.int .i64 q4), .int .i64 7] W fun e w' => e = .returned (.bool false) ∧ W = w') := Lib.hid fun W => by
                      have h := is_any q4 7 (by omega) W
                      rw [show (q4 == 7) = false by simp; omega, hz4] at h
                      exact h
                    have I44 : Hid (∀ W, Calls Try.prog 28 #[.iface 45 (.int .i64 q4), .int .i64 4] W fun e w' => e = .returned (.bool true) ∧ W = w') := Lib.hid fun W => by
                      have h := is_any q4 4 (by omega) W
                      rw [show (q4 == 4) = true by simp; omega, hz4] at h
                      exact h
                    rw [hz1, hz2, hz3, hz4]
                    clear hz1 hz2 hz3 hz4
                    clear h1 h2 h3 h4
                    go_wp2_with (first
                      | (go_at_call 28; (with_reducible refine (N7.out _).mono ?_); rintro e w9 ⟨rfl, rfl⟩)
                      | (go_at_call 28; (with_reducible refine (N4.out _).mono ?_); rintro e w9 ⟨rfl, rfl⟩)
                      | (go_at_call 28; (with_reducible refine (I17.out _).mono ?_); rintro e w9 ⟨rfl, rfl⟩)
                      | (go_at_call 28; (with_reducible refine (I14.out _).mono ?_); rintro e w9 ⟨rfl, rfl⟩)
                      | (go_at_call 28; (with_reducible refine (I37.out _).mono ?_); rintro e w9 ⟨rfl, rfl⟩)
                      | (go_at_call 28; (with_reducible refine (I34.out _).mono ?_); rintro e w9 ⟨rfl, rfl⟩)
                      | (go_at_call 28; (with_reducible refine (I47.out _).mono ?_); rintro e w9 ⟨rfl, rfl⟩)
                      | (go_at_call 28; (with_reducible refine (I44.out _).mono ?_); rintro e w9 ⟨rfl, rfl⟩))
                    go_ret
                    exact ⟨rfl, ((Kept.refl _).alloc _).trans (K3.out.trans HK16.out)⟩
                  · have hz1 : errV q1 = .iface 45 (.int .i64 q1) := errV_pos (by omega)
                    have I17 : Hid (∀ W, Calls Try.prog 28 #[.iface 45 (.int .i64 q1), .int .i64 7] W fun e w' => e = .returned (.bool false) ∧ W = w') := Lib.hid fun W => by
                      have h := is_any q1 7 (by omega) W
                      rw [show (q1 == 7) = false by simp; omega, hz1] at h
                      exact h
                    have I14 : Hid (∀ W, Calls Try.prog 28 #[.iface 45 (.int .i64 q1), .int .i64 4] W fun e w' => e = .returned (.bool true) ∧ W = w') := Lib.hid fun W => by
                      have h := is_any q1 4 (by omega) W
                      rw [show (q1 == 4) = true by simp; omega, hz1] at h
                      exact h
                    have hz2 : errV q2 = .iface 45 (.int .i64 q2) := errV_pos (by omega)
                    have I27 : Hid (∀ W, Calls Try.prog 28 #[.iface 45 (.int .i64 q2), .int .i64 7] W fun e w' => e = .returned (.bool false) ∧ W = w') := Lib.hid fun W => by
                      have h := is_any q2 7 (by omega) W
                      rw [show (q2 == 7) = false by simp; omega, hz2] at h
                      exact h
                    have I24 : Hid (∀ W, Calls Try.prog 28 #[.iface 45 (.int .i64 q2), .int .i64 4] W fun e w' => e = .returned (.bool true) ∧ W = w') := Lib.hid fun W => by
                      have h := is_any q2 4 (by omega) W
                      rw [show (q2 == 4) = true by simp; omega, hz2] at h
                      exact h
                    have hz3 : errV q3 = .nilIface := by rw [show q3 = 0 by omega]; rfl
                    have hz4 : errV q4 = .nilIface := by rw [show q4 = 0 by omega]; rfl
                    rw [hz1, hz2, hz3, hz4]
                    clear hz1 hz2 hz3 hz4
                    clear h1 h2 h3 h4
                    go_wp2_with (first
                      | (go_at_call 28; (with_reducible refine (N7.out _).mono ?_); rintro e w9 ⟨rfl, rfl⟩)
                      | (go_at_call 28; (with_reducible refine (N4.out _).mono ?_); rintro e w9 ⟨rfl, rfl⟩)
                      | (go_at_call 28; (with_reducible refine (I17.out _).mono ?_); rintro e w9 ⟨rfl, rfl⟩)
                      | (go_at_call 28; (with_reducible refine (I14.out _).mono ?_); rintro e w9 ⟨rfl, rfl⟩)
                      | (go_at_call 28; (with_reducible refine (I27.out _).mono ?_); rintro e w9 ⟨rfl, rfl⟩)
                      | (go_at_call 28; (with_reducible refine (I24.out _).mono ?_); rintro e w9 ⟨rfl, rfl⟩))
                    go_ret
                    exact ⟨rfl, ((Kept.refl _).alloc _).trans (K3.out.trans HK16.out)⟩
                  · have hz1 : errV q1 = .iface 45 (.int .i64 q1) := errV_pos (by omega)
                    have I17 : Hid (∀ W, Calls Try.prog 28 #[.iface 45 (.int .i64 q1), .int .i64 7] W fun e w' => e = .returned (.bool false) ∧ W = w') := Lib.hid fun W => by
                      have h := is_any q1 7 (by omega) W
                      rw [show (q1 == 7) = false by simp; omega, hz1] at h
                      exact h
                    have I14 : Hid (∀ W, Calls Try.prog 28 #[.iface 45 (.int .i64 q1), .int .i64 4] W fun e w' => e = .returned (.bool true) ∧ W = w') := Lib.hid fun W => by
                      have h := is_any q1 4 (by omega) W
                      rw [show (q1 == 4) = true by simp; omega, hz1] at h
                      exact h
                    have hz2 : errV q2 = .iface 45 (.int .i64 q2) := errV_pos (by omega)
                    have I27 : Hid (∀ W, Calls Try.prog 28 #[.iface 45 (.int .i64 q2), .int .i64 7] W fun e w' => e = .returned (.bool false) ∧ W = w') := Lib.hid fun W => by
                      have h := is_any q2 7 (by omega) W
                      rw [show (q2 == 7) = false by simp; omega, hz2] at h
                      exact h
                    have I24 : Hid (∀ W, Calls Try.prog 28 #[.iface 45 (.int .i64 q2), .int .i64 4] W fun e w' => e = .returned (.bool true) ∧ W = w') := Lib.hid fun W => by
                      have h := is_any q2 4 (by omega) W
                      rw [show (q2 == 4) = true by simp; omega, hz2] at h
                      exact h
                    have hz3 : errV q3 = .nilIface := by rw [show q3 = 0 by omega]; rfl
                    have hz4 : errV q4 = .iface 45 (.int .i64 q4) := errV_pos (by omega)
                    have I47 : Hid (∀ W, Calls Try.prog 28 #[.iface 45 (.int .i64 q4), .int .i64 7] W fun e w' => e = .returned (.bool false) ∧ W = w') := Lib.hid fun W => by
                      have h := is_any q4 7 (by omega) W
                      rw [show (q4 == 7) = false by simp; omega, hz4] at h
                      exact h
                    have I44 : Hid (∀ W, Calls Try.prog 28 #[.iface 45 (.int .i64 q4), .int .i64 4] W fun e w' => e = .returned (.bool true) ∧ W = w') := Lib.hid fun W => by
                      have h := is_any q4 4 (by omega) W
                      rw [show (q4 == 4) = true by simp; omega, hz4] at h
                      exact h
                    rw [hz1, hz2, hz3, hz4]
                    clear hz1 hz2 hz3 hz4
                    clear h1 h2 h3 h4
                    go_wp2_with (first
                      | (go_at_call 28; (with_reducible refine (N7.out _).mono ?_); rintro e w9 ⟨rfl, rfl⟩)
                      | (go_at_call 28; (with_reducible refine (N4.out _).mono ?_); rintro e w9 ⟨rfl, rfl⟩)
                      | (go_at_call 28; (with_reducible refine (I17.out _).mono ?_); rintro e w9 ⟨rfl, rfl⟩)
                      | (go_at_call 28; (with_reducible refine (I14.out _).mono ?_); rintro e w9 ⟨rfl, rfl⟩)
                      | (go_at_call 28; (with_reducible refine (I27.out _).mono ?_); rintro e w9 ⟨rfl, rfl⟩)
                      | (go_at_call 28; (with_reducible refine (I24.out _).mono ?_); rintro e w9 ⟨rfl, rfl⟩)
                      | (go_at_call 28; (with_reducible refine (I47.out _).mono ?_); rintro e w9 ⟨rfl, rfl⟩)
                      | (go_at_call 28; (with_reducible refine (I44.out _).mono ?_); rintro e w9 ⟨rfl, rfl⟩))
                    go_ret
                    exact ⟨rfl, ((Kept.refl _).alloc _).trans (K3.out.trans HK16.out)⟩
                  · have hz1 : errV q1 = .iface 45 (.int .i64 q1) := errV_pos (by omega)
                    have I17 : Hid (∀ W, Calls Try.prog 28 #[.iface 45 (.int .i64 q1), .int .i64 7] W fun e w' => e = .returned (.bool false) ∧ W = w') := Lib.hid fun W => by
                      have h := is_any q1 7 (by omega) W
                      rw [show (q1 == 7) = false by simp; omega, hz1] at h
                      exact h
                    have I14 : Hid (∀ W, Calls Try.prog 28 #[.iface 45 (.int .i64 q1), .int .i64 4] W fun e w' => e = .returned (.bool true) ∧ W = w') := Lib.hid fun W => by
                      have h := is_any q1 4 (by omega) W
                      rw [show (q1 == 4) = true by simp; omega, hz1] at h
                      exact h
                    have hz2 : errV q2 = .iface 45 (.int .i64 q2) := errV_pos (by omega)
                    have I27 : Hid (∀ W, Calls Try.prog 28 #[.iface 45 (.int .i64 q2), .int .i64 7] W fun e w' => e = .returned (.bool false) ∧ W = w') := Lib.hid fun W => by
                      have h := is_any q2 7 (by omega) W
                      rw [show (q2 == 7) = false by simp; omega, hz2] at h
                      exact h
                    have I24 : Hid (∀ W, Calls Try.prog 28 #[.iface 45 (.int .i64 q2), .int .i64 4] W fun e w' => e = .returned (.bool true) ∧ W = w') := Lib.hid fun W => by
                      have h := is_any q2 4 (by omega) W
                      rw [show (q2 == 4) = true by simp; omega, hz2] at h
                      exact h
                    have hz3 : errV q3 = .iface 45 (.int .i64 q3) := errV_pos (by omega)
                    have I37 : Hid (∀ W, Calls Try.prog 28 #[.iface 45 (.int .i64 q3), .int .i64 7] W fun e w' => e = .returned (.bool false) ∧ W = w') := Lib.hid fun W => by
                      have h := is_any q3 7 (by omega) W
                      rw [show (q3 == 7) = false by simp; omega, hz3] at h
                      exact h
                    have I34 : Hid (∀ W, Calls Try.prog 28 #[.iface 45 (.int .i64 q3), .int .i64 4] W fun e w' => e = .returned (.bool true) ∧ W = w') := Lib.hid fun W => by
                      have h := is_any q3 4 (by omega) W
                      rw [show (q3 == 4) = true by simp; omega, hz3] at h
                      exact h
                    have hz4 : errV q4 = .nilIface := by rw [show q4 = 0 by omega]; rfl
                    rw [hz1, hz2, hz3, hz4]
                    clear hz1 hz2 hz3 hz4
                    clear h1 h2 h3 h4
                    go_wp2_with (first
                      | (go_at_call 28; (with_reducible refine (N7.out _).mono ?_); rintro e w9 ⟨rfl, rfl⟩)
                      | (go_at_call 28; (with_reducible refine (N4.out _).mono ?_); rintro e w9 ⟨rfl, rfl⟩)
                      | (go_at_call 28; (with_reducible refine (I17.out _).mono ?_); rintro e w9 ⟨rfl, rfl⟩)
                      | (go_at_call 28; (with_reducible refine (I14.out _).mono ?_); rintro e w9 ⟨rfl, rfl⟩)
                      | (go_at_call 28; (with_reducible refine (I27.out _).mono ?_); rintro e w9 ⟨rfl, rfl⟩)
                      | (go_at_call 28; (with_reducible refine (I24.out _).mono ?_); rintro e w9 ⟨rfl, rfl⟩)
                      | (go_at_call 28; (with_reducible refine (I37.out _).mono ?_); rintro e w9 ⟨rfl, rfl⟩)
                      | (go_at_call 28; (with_reducible refine (I34.out _).mono ?_); rintro e w9 ⟨rfl, rfl⟩))
                    go_ret
                    exact ⟨rfl, ((Kept.refl _).alloc _).trans (K3.out.trans HK16.out)⟩
                  · have hz1 : errV q1 = .iface 45 (.int .i64 q1) := errV_pos (by omega)
                    have I17 : Hid (∀ W, Calls Try.prog 28 #[.iface 45 (.int .i64 q1), .int .i64 7] W fun e w' => e = .returned (.bool false) ∧ W = w') := Lib.hid fun W => by
                      have h := is_any q1 7 (by omega) W
                      rw [show (q1 == 7) = false by simp; omega, hz1] at h
                      exact h
                    have I14 : Hid (∀ W, Calls Try.prog 28 #[.iface 45 (.int .i64 q1), .int .i64 4] W fun e w' => e = .returned (.bool true) ∧ W = w') := Lib.hid fun W => by
                      have h := is_any q1 4 (by omega) W
                      rw [show (q1 == 4) = true by simp; omega, hz1] at h
                      exact h
                    have hz2 : errV q2 = .iface 45 (.int .i64 q2) := errV_pos (by omega)
                    have I27 : Hid (∀ W, Calls Try.prog 28 #[.iface 45 (.int .i64 q2), .int .i64 7] W fun e w' => e = .returned (.bool false) ∧ W = w') := Lib.hid fun W => by
                      have h := is_any q2 7 (by omega) W
                      rw [show (q2 == 7) = false by simp; omega, hz2] at h
                      exact h
                    have I24 : Hid (∀ W, Calls Try.prog 28 #[.iface 45 (.int .i64 q2), .int .i64 4] W fun e w' => e = .returned (.bool true) ∧ W = w') := Lib.hid fun W => by
                      have h := is_any q2 4 (by omega) W
                      rw [show (q2 == 4) = true by simp; omega, hz2] at h
                      exact h
                    have hz3 : errV q3 = .iface 45 (.int .i64 q3) := errV_pos (by omega)
                    have I37 : Hid (∀ W, Calls Try.prog 28 #[.iface 45 (.int .i64 q3), .int .i64 7] W fun e w' => e = .returned (.bool false) ∧ W = w') := Lib.hid fun W => by
                      have h := is_any q3 7 (by omega) W
                      rw [show (q3 == 7) = false by simp; omega, hz3] at h
                      exact h
                    have I34 : Hid (∀ W, Calls Try.prog 28 #[.iface 45 (.int .i64 q3), .int .i64 4] W fun e w' => e = .returned (.bool true) ∧ W = w') := Lib.hid fun W => by
                      have h := is_any q3 4 (by omega) W
                      rw [show (q3 == 4) = true by simp; omega, hz3] at h
                      exact h
                    have hz4 : errV q4 = .iface 45 (.int .i64 q4) := errV_pos (by omega)
                    have I47 : Hid (∀ W, Calls Try.prog 28 #[.iface 45 (.int .i64 q4), .int .i64 7] W fun e w' => e = .returned (.bool false) ∧ W = w') := Lib.hid fun W => by
                      have h := is_any q4 7 (by omega) W
                      rw [show (q4 == 7) = false by simp; omega, hz4] at h
                      exact h
                    have I44 : Hid (∀ W, Calls Try.prog 28 #[.iface 45 (.int .i64 q4), .int .i64 4] W fun e w' => e = .returned (.bool true) ∧ W = w') := Lib.hid fun W => by
                      have h := is_any q4 4 (by omega) W
                      rw [show (q4 == 4) = true by simp; omega, hz4] at h
                      exact h
                    rw [hz1, hz2, hz3, hz4]
                    clear hz1 hz2 hz3 hz4
                    clear h1 h2 h3 h4
                    go_wp2_with (first
                      | (go_at_call 28; (with_reducible refine (N7.out _).mono ?_); rintro e w9 ⟨rfl, rfl⟩)
                      | (go_at_call 28; (with_reducible refine (N4.out _).mono ?_); rintro e w9 ⟨rfl, rfl⟩)
                      | (go_at_call 28; (with_reducible refine (I17.out _).mono ?_); rintro e w9 ⟨rfl, rfl⟩)
                      | (go_at_call 28; (with_reducible refine (I14.out _).mono ?_); rintro e w9 ⟨rfl, rfl⟩)
                      | (go_at_call 28; (with_reducible refine (I27.out _).mono ?_); rintro e w9 ⟨rfl, rfl⟩)
                      | (go_at_call 28; (with_reducible refine (I24.out _).mono ?_); rintro e w9 ⟨rfl, rfl⟩)
                      | (go_at_call 28; (with_reducible refine (I37.out _).mono ?_); rintro e w9 ⟨rfl, rfl⟩)
                      | (go_at_call 28; (with_reducible refine (I34.out _).mono ?_); rintro e w9 ⟨rfl, rfl⟩)
                      | (go_at_call 28; (with_reducible refine (I47.out _).mono ?_); rintro e w9 ⟨rfl, rfl⟩)
                      | (go_at_call 28; (with_reducible refine (I44.out _).mono ?_); rintro e w9 ⟨rfl, rfl⟩))
                    go_ret
                    exact ⟨rfl, ((Kept.refl _).alloc _).trans (K3.out.trans HK16.out)⟩
        · have hni : ¬ (n : Int) ≤ 100 := by omega
          clear fc hck hok
          go_wp2_with (go_at_call 31; refine (HA.out _).mono ?_; rintro e w4 ⟨rfl, hk4⟩)
          go_ret
          exact ⟨rfl, (((Kept.refl _).alloc _).trans K3.out).trans hk4⟩
      · have hVi : ¬ (V : Int) ≤ 10 := by omega
        clear fc hck hok
        go_wp2_with (go_at_call 31; refine (HA.out _).mono ?_; rintro e w4 ⟨rfl, hk4⟩)
        go_ret
        exact ⟨rfl, (((Kept.refl _).alloc _).trans K3.out).trans hk4⟩
    · have hqe : errV q = .iface 45 (.int .i64 q) := errV_pos hq0
      rw [hqe]
      clear hqe
      go_wp2_with (go_at_call 31; refine (HA.out _).mono ?_; rintro e w4 ⟨rfl, hk4⟩)
      go_ret
      exact ⟨rfl, (((Kept.refl _).alloc _).trans K3.out).trans hk4⟩
end Go.Proofs.Ytapniojbnochiaa
