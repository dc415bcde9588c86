import Derived.Test.YtngbjdaaogbjmaaGreatX4m
import Derived.Deep.RegionHeld3
import Derived.Deep.DeepCutAuto
/-
  Walks: faultlineref31.choices.
-/
namespace Go.Proofs.YtngbjdaaogbjmaaGreat
open Go.RowKit
variable {Z : Option Nat}

theorem below_cell {B : Nat} {w w' : World} (h : Below B w w') {b o : Nat} (hb : b < B) {v : Value} (hc : w.cell? ⟨b, o, none⟩ = some v) : w'.cell? ⟨b, o, none⟩ = some v := (Below.cell h hb).trans hc
set_option maxRecDepth 100000 in
theorem rch_zero (V m r : Nat) (T room : Int) (fa aa : Option Addr) (fn fc ac : Nat) (u : Value) (W : World) (hu : NdsAt Z W u r) (hr : RowLt 152 r) :
    Calls Tryz.prog 143 #[.agg #[.int .i64 V, .slice fa fn fc, .int .i64 T], .agg #[.int .i64 (evW r), u], .slice aa m ac, .int .i64 0, .int .i64 room] W fun e w' => (∃ v', e = .returned v' ∧ OwnRfs Z w' W.heap.size v' [r]) ∧ Kept W w' := by
  have HU := Lib.hid hu
  obtain ⟨ua, uc, rfl⟩ := hu.shape
  have HR := Lib.hid hr
  obtain ⟨x0, hx0⟩ : ∃ x, x = evW r := ⟨_, rfl⟩
  obtain ⟨un, hun⟩ : ∃ x, x = (nodesOf r).length := ⟨_, rfl⟩
  have HX : Hid (∀ W1 : World, W.heap.size ≤ W1.heap.size → Kept W W1 → OwnRfs Z (W1.alloc (.cells #[.int .i64 x0, .slice ua un uc] 118)) W.heap.size (.slice (some ⟨W1.heap.size, 0, none⟩) 1 1) [r]) := Lib.hid fun W1 h hk => by
    refine OwnRfs.one (u := .slice ua un uc) (by rw [← hx0]; exact heap_alloc_new W1 _) ?_ HR.out h
    have := HU.out.kept (hk.trans ((Kept.refl W1).alloc (.cells #[.int .i64 x0, .slice ua un uc] 118)))
    rw [← hun] at this
    exact this
  rw [← hx0, ← hun]
  clear hu hr hx0 hun HU
  go_enter Tryz.func143, Tryz.ntmps143
  go_wp2
  go_ret
  refine ⟨⟨_, rfl, ?_⟩, (((Kept.refl _).alloc _).alloc _).alloc _⟩
  have := HX.out ((W.alloc (.cells #[.int .i64 V, .slice fa fn fc, .int .i64 T] 24)).alloc (.cells #[.int .i64 x0, .slice ua un uc] 118)) (by simp; omega) (((Kept.refl _).alloc _).alloc _)
  simpa using this
set_option maxRecDepth 100000 in
theorem rch_none (V m k x0 un : Nat) (T room : Int) (fa aa ua : Option Addr) (fn fc ac uc : Nat) (W : World) (hk : k ≠ 0) (h : m < k ∨ room < 0) :
    Calls Tryz.prog 143 #[.agg #[.int .i64 V, .slice fa fn fc, .int .i64 T], .agg #[.int .i64 x0, .slice ua un uc], .slice aa m ac, .int .i64 k, .int .i64 room] W fun e w' => e = .returned (.slice none 0 0) ∧ Kept W w' := by
  have hk0 : ((k : Int) == 0) = false := by simp; omega
  by_cases h1 : m < k
  · have h1' : (m : Int) < (k : Int) := by omega
    clear h hk h1
    go_enter Tryz.func143, Tryz.ntmps143
    go_wp2
    go_ret
    exact ⟨rfl, ((Kept.refl _).alloc _).alloc _⟩
  · have h1' : ¬ (m : Int) < (k : Int) := by omega
    have h2 : room < 0 := h.resolve_left h1
    clear h hk h1
    go_enter Tryz.func143, Tryz.ntmps143
    go_wp2
    go_ret
    exact ⟨rfl, ((Kept.refl _).alloc _).alloc _⟩
set_option maxRecDepth 100000 in
set_option maxHeartbeats 16000000 in
theorem rch_step (V m k k1 b o ac x0 y0 un r1 : Nat) (T a room room2 : Int) (fa ua : Option Addr) (fn fc uc : Nat) (tv : Value) (M1 M2 : List Nat) (W : World) (hk : 1 ≤ k) (hkm : k ≤ m) (hm : m ≤ 200) (hmc : m ≤ ac) (hk1 : k1 = k - 1)
    (hrm : 0 ≤ room ∧ room ≤ 10000) (hl1 : M1.length ≤ 10001) (hl2 : M2.length ≤ 9999) (hr2 : room2 = room - M1.length)
    (htv : (2 ≤ ac ∧ tv = .slice (some ⟨b, o + 1, none⟩) (m - 1) (ac - 1)) ∨ (ac = 1 ∧ tv = .slice (some ⟨b, o, none⟩) 0 0))
    (harg : W.cell? ⟨b, o, none⟩ = some (.int .i64 a))
    (hwith : ∀ W', Kept W W' → Calls Tryz.prog 186 #[.agg #[.int .i64 V, .slice fa fn fc, .int .i64 T], .agg #[.int .i64 x0, .slice ua un uc], .int .i64 a] W' fun e w' => (∃ u', e = .returned (.agg #[.int .i64 y0, u']) ∧ NdsAt Z w' u' r1) ∧ Kept W' w')
    (hc1 : ∀ u' W', Kept W W' → NdsAt Z W' u' r1 → Calls Tryz.prog 143 #[.agg #[.int .i64 V, .slice fa fn fc, .int .i64 T], .agg #[.int .i64 y0, u'], tv, .int .i64 k1, .int .i64 room] W' fun e w' => (∃ v', e = .returned v' ∧ OwnRfs Z w' W'.heap.size v' M1) ∧ Kept W' w')
    (hc2 : ∀ W', Kept W W' → Calls Tryz.prog 143 #[.agg #[.int .i64 V, .slice fa fn fc, .int .i64 T], .agg #[.int .i64 x0, .slice ua un uc], tv, .int .i64 k, .int .i64 room2] W' fun e w' => (∃ v', e = .returned v' ∧ OwnRfs Z w' W'.heap.size v' M2) ∧ Kept W' w') :
    Calls Tryz.prog 143 #[.agg #[.int .i64 V, .slice fa fn fc, .int .i64 T], .agg #[.int .i64 x0, .slice ua un uc], .slice (some ⟨b, o, none⟩) m ac, .int .i64 k, .int .i64 room] W fun e w' => (∃ v', e = .returned v' ∧ OwnRfs Z w' W.heap.size v' (M1 ++ M2)) ∧ Kept W w' := by
  obtain ⟨w1, hw1⟩ : ∃ w1, w1 = (W.alloc (.cells #[.int .i64 V, .slice fa fn fc, .int .i64 T] 24)).alloc (.cells #[.int .i64 x0, .slice ua un uc] 118) := ⟨_, rfl⟩
  have hkw : Kept W w1 := by rw [hw1]; exact ((Kept.refl _).alloc _).alloc _
  have q0 : w1.cell? ⟨W.heap.size, 0, none⟩ = some (.int .i64 V) := by rw [hw1]; simp
  have q1 : w1.cell? ⟨W.heap.size, 1, none⟩ = some (.slice fa fn fc) := by rw [hw1]; simp
  have q2 : w1.cell? ⟨W.heap.size, 2, none⟩ = some (.int .i64 T) := by rw [hw1]; simp
  have q3 : w1.cell? ⟨W.heap.size + 1, 0, none⟩ = some (.int .i64 x0) := by rw [hw1]; simp
  have q4 : w1.cell? ⟨W.heap.size + 1, 1, none⟩ = some (.slice ua un uc) := by rw [hw1]; simp
  have qa := hkw.cell harg
  have HWI : Hid (∀ W', Kept w1 W' → Calls Tryz.prog 186 #[.agg #[.int .i64 V, .slice fa fn fc, .int .i64 T], .agg #[.int .i64 x0, .slice ua un uc], .int .i64 a] W' fun e w' => (∃ u', e = .returned (.agg #[.int .i64 y0, u']) ∧ NdsAt Z w' u' r1) ∧ Kept W' w') := Lib.hid fun W' hk => hwith W' (hkw.trans hk)
  have HC1 : Hid (∀ u' W', Kept w1 W' → NdsAt Z W' u' r1 → Calls Tryz.prog 143 #[.agg #[.int .i64 V, .slice fa fn fc, .int .i64 T], .agg #[.int .i64 y0, u'], tv, .int .i64 k1, .int .i64 room] W' fun e w' => (∃ v', e = .returned v' ∧ OwnRfs Z w' W'.heap.size v' M1) ∧ Kept W' w') := Lib.hid fun u' W' hk hn => hc1 u' W' (hkw.trans hk) hn
  have HC2 : Hid (∀ W', Kept w1 W' → Calls Tryz.prog 143 #[.agg #[.int .i64 V, .slice fa fn fc, .int .i64 T], .agg #[.int .i64 x0, .slice ua un uc], tv, .int .i64 k, .int .i64 room2] W' fun e w' => (∃ v', e = .returned v' ∧ OwnRfs Z w' W'.heap.size v' M2) ∧ Kept W' w') := Lib.hid fun W' hk => hc2 W' (hkw.trans hk)
  have HKW := Lib.hid hkw
  have HSZ1 : Hid (w1.heap.size = W.heap.size + 2) := Lib.hid (by rw [hw1]; simp)
  have HW1 : Hid (w1 = (W.alloc (.cells #[.int .i64 V, .slice fa fn fc, .int .i64 T] 24)).alloc (.cells #[.int .i64 x0, .slice ua un uc] 118)) := Lib.hid hw1
  obtain ⟨n1, hn1⟩ : ∃ n1, n1 = M1.length := ⟨_, rfl⟩
  rw [← hn1] at hl1 hr2
  have HN1 := Lib.hid hn1
  have hl12 : M1.length + M2.length ≤ 20000 := by omega
  have HL12 := Lib.hid hl12
  have hkm' : ¬ (m : Int) < (k : Int) := by omega
  have hk0 : ((k : Int) == 0) = false := by simp; omega
  have hm1 : (0 : Int) < (m : Int) := by omega
  have hm2 : 1 ≤ (m : Int) := by omega
  have hm3 : 0 < m := by omega
  have hk9 : (k : Int) ≤ 200 := by omega
  have hk91 : 1 ≤ (k : Int) := by omega
  have hmac : 1 ≤ (ac : Int) := by omega
  have hkk : (k : Int) - 1 = (k1 : Int) := by omega
  have hrr : room - (n1 : Int) = room2 := by omega
  have hrw : IntKind.i64.wrap room2 = room2 := by rw [IntKind.wrap_i64]; omega
  have hkw1 : IntKind.i64.wrap (k1 : Int) = (k1 : Int) := by rw [IntKind.wrap_i64]; omega
  obtain ⟨hrm0, hrm1⟩ := hrm
  have hr0 : ¬ room < 0 := by omega
  rcases htv with ⟨hac, rfl⟩ | ⟨hac, rfl⟩
  · have hac1 : ¬ ac = 1 := (by omega)
    have hac2 : ¬ (ac : Int) = 1 := (by omega)
    clear hc1 hc2 hwith hkw harg hk1 hk hkm hw1 hr2 hn1 hl12 hl1 hl2
    go_enter Tryz.func143, Tryz.ntmps143
    go_wp2
    rw [← HW1.out]
    go_upto_region 5 with fail
    go_cut [11] (fun p11 wx => ∃ v1, p11 = v1 ∧ Hid (OwnRfs Z wx w1.heap.size v1 M1) ∧ Hid (Kept w1 wx))
    case first =>
      go_region_held3 (fun w' => w'.cell? ⟨W.heap.size, 0, none⟩ = some (.int .i64 V) ∧ w'.cell? ⟨W.heap.size, 1, none⟩ = some (.slice fa fn fc) ∧ w'.cell? ⟨W.heap.size, 2, none⟩ = some (.int .i64 T) ∧ w'.cell? ⟨W.heap.size + 1, 0, none⟩ = some (.int .i64 x0) ∧ w'.cell? ⟨W.heap.size + 1, 1, none⟩ = some (.slice ua un uc) ∧ w'.cell? ⟨b, o, none⟩ = some (.int .i64 a))
        (first | go_keep | exact ⟨hk3.cell q0, hk3.cell q1, hk3.cell q2, hk3.cell q3, hk3.cell q4, hk3.cell qa⟩ | exact ⟨hk4.cell (hk3.cell q0), hk4.cell (hk3.cell q1), hk4.cell (hk3.cell q2), hk4.cell (hk3.cell q3), hk4.cell (hk3.cell q4), hk4.cell (hk3.cell qa)⟩)
        (first | (go_at_call 186; refine (HWI.out _ (Kept.refl _).drew).mono ?_; rintro e w3 ⟨⟨u3, rfl, hu3⟩, hk3⟩; obtain ⟨ua3, uc3, rfl⟩ := hu3.shape; have HU3 := Lib.hid hu3; clear hu3) | (go_at_call 143; refine (HC1.out _ _ ((Kept.refl _).drew.trans hk3) HU3.out).mono ?_; rintro e w4 ⟨⟨v4, rfl, hv4⟩, hk4⟩; obtain ⟨va4, vc4, rfl, _⟩ := hv4.slice; have HV4 := Lib.hid hv4; clear hv4))
      all_goals
        have HV5 := Lib.hid (HV4.out.mono (B' := w1.heap.size) (by have h2 := ((Kept.refl w1).drew.trans hk3).size; omega))
        have HK5 := Lib.hid (((Kept.refl w1).drew.trans hk3).trans hk4)
        clear hk3 hk4
        go_wp2_with fail
        go_meet
        exact ⟨_, rfl, HV5, HK5⟩
    case rest =>
      obtain ⟨v1, rfl, HO1, HK1⟩ := hcut
      obtain ⟨va1, vc1, hv1, _⟩ := HO1.out.slice
      rw [← HN1.out] at hv1
      subst hv1
      have g0 := HK1.out.cell q0
      have g1 := HK1.out.cell q1
      have g2 := HK1.out.cell q2
      have g3 := HK1.out.cell q3
      have g4 := HK1.out.cell q4
      have HC3 : Hid (∀ W', Kept wc W' → Calls Tryz.prog 143 #[.agg #[.int .i64 V, .slice fa fn fc, .int .i64 T], .agg #[.int .i64 x0, .slice ua un uc], .slice (some ⟨b, o + 1, none⟩) (m - 1) (ac - 1), .int .i64 k, .int .i64 room2] W' fun e w' => (∃ v', e = .returned v' ∧ OwnRfs Z w' W'.heap.size v' M2) ∧ Kept W' w') := Lib.hid fun W' hk => HC2.out W' (HK1.out.trans hk)
      have HSZ : Hid (w1.heap.size ≤ wc.heap.size) := Lib.hid HK1.out.size
      clear q0 q1 q2 q3 q4 qa HC1 HC2 HWI hkw1
      go_upto_region 6 with fail
      go_region_held3 (fun w' => w'.cell? ⟨W.heap.size, 0, none⟩ = some (.int .i64 V) ∧ w'.cell? ⟨W.heap.size, 1, none⟩ = some (.slice fa fn fc) ∧ w'.cell? ⟨W.heap.size, 2, none⟩ = some (.int .i64 T) ∧ w'.cell? ⟨W.heap.size + 1, 0, none⟩ = some (.int .i64 x0) ∧ w'.cell? ⟨W.heap.size + 1, 1, none⟩ = some (.slice ua un uc))
        (first | go_keep | exact ⟨hk4.cell g0, hk4.cell g1, hk4.cell g2, hk4.cell g3, hk4.cell g4⟩ | exact ⟨below_cell HB7.out (by have := HSZ1.out; omega) (hk4.cell g0), below_cell HB7.out (by have := HSZ1.out; omega) (hk4.cell g1), below_cell HB7.out (by have := HSZ1.out; omega) (hk4.cell g2), below_cell HB7.out (by have := HSZ1.out; omega) (hk4.cell g3), below_cell HB7.out (by have := HSZ1.out; omega) (hk4.cell g4)⟩)
        (first
          | (go_at_call 143; refine (HC3.out _ ((Kept.refl _).drew)).mono ?_; rintro e w4 ⟨⟨v4, rfl, hv4⟩, hk4⟩; obtain ⟨va4, vc4, rfl, _⟩ := hv4.slice; have HV4 := Lib.hid hv4; clear hv4)
          | (refine step_rfs (by rfl) _ _ (by rfl) w1.heap.size (.slice va1 n1 vc1) M1 (by rfl) (HO1.out.kept ((Kept.refl _).drew.trans hk4)) (.slice va4 M2.length vc4) M2 (by rfl) (HV4.out.mono (Nat.zero_le _)) HL12.out (by have h1 := HSZ.out; have h2 := ((Kept.refl wc).drew.trans hk4).size; omega) ?_; intro v7 w7 h7 hb7; have O7 := Lib.hid h7; have HB7 := Lib.hid hb7; clear h7 hb7))
      all_goals
        obtain ⟨va7, vc7, hv7, _⟩ := O7.out.slice
        subst hv7
        go_wp2
        go_ret
        exact ⟨⟨_, rfl, O7.out.mono HKW.out.size⟩, (HKW.out.trans (HK1.out.trans ((Kept.refl wc).drew.trans hk4))).app (HB7.out.mono HKW.out.size)⟩
  · subst hac
    skip
    clear hc1 hc2 hwith hkw harg hk1 hk hkm hw1 hr2 hn1 hl12 hl1 hl2
    go_enter Tryz.func143, Tryz.ntmps143
    go_wp2
    rw [← HW1.out]
    go_upto_region 5 with fail
    go_cut [11] (fun p11 wx => ∃ v1, p11 = v1 ∧ Hid (OwnRfs Z wx w1.heap.size v1 M1) ∧ Hid (Kept w1 wx))
    case first =>
      go_region_held3 (fun w' => w'.cell? ⟨W.heap.size, 0, none⟩ = some (.int .i64 V) ∧ w'.cell? ⟨W.heap.size, 1, none⟩ = some (.slice fa fn fc) ∧ w'.cell? ⟨W.heap.size, 2, none⟩ = some (.int .i64 T) ∧ w'.cell? ⟨W.heap.size + 1, 0, none⟩ = some (.int .i64 x0) ∧ w'.cell? ⟨W.heap.size + 1, 1, none⟩ = some (.slice ua un uc) ∧ w'.cell? ⟨b, o, none⟩ = some (.int .i64 a))
        (first | go_keep | exact ⟨hk3.cell q0, hk3.cell q1, hk3.cell q2, hk3.cell q3, hk3.cell q4, hk3.cell qa⟩ | exact ⟨hk4.cell (hk3.cell q0), hk4.cell (hk3.cell q1), hk4.cell (hk3.cell q2), hk4.cell (hk3.cell q3), hk4.cell (hk3.cell q4), hk4.cell (hk3.cell qa)⟩)
        (first | (go_at_call 186; refine (HWI.out _ (Kept.refl _).drew).mono ?_; rintro e w3 ⟨⟨u3, rfl, hu3⟩, hk3⟩; obtain ⟨ua3, uc3, rfl⟩ := hu3.shape; have HU3 := Lib.hid hu3; clear hu3) | (go_at_call 143; refine (HC1.out _ _ ((Kept.refl _).drew.trans hk3) HU3.out).mono ?_; rintro e w4 ⟨⟨v4, rfl, hv4⟩, hk4⟩; obtain ⟨va4, vc4, rfl, _⟩ := hv4.slice; have HV4 := Lib.hid hv4; clear hv4))
      all_goals
        have HV5 := Lib.hid (HV4.out.mono (B' := w1.heap.size) (by have h2 := ((Kept.refl w1).drew.trans hk3).size; omega))
        have HK5 := Lib.hid (((Kept.refl w1).drew.trans hk3).trans hk4)
        clear hk3 hk4
        go_wp2_with fail
        go_meet
        exact ⟨_, rfl, HV5, HK5⟩
    case rest =>
      obtain ⟨v1, rfl, HO1, HK1⟩ := hcut
      obtain ⟨va1, vc1, hv1, _⟩ := HO1.out.slice
      rw [← HN1.out] at hv1
      subst hv1
      have g0 := HK1.out.cell q0
      have g1 := HK1.out.cell q1
      have g2 := HK1.out.cell q2
      have g3 := HK1.out.cell q3
      have g4 := HK1.out.cell q4
      have HC3 : Hid (∀ W', Kept wc W' → Calls Tryz.prog 143 #[.agg #[.int .i64 V, .slice fa fn fc, .int .i64 T], .agg #[.int .i64 x0, .slice ua un uc], .slice (some ⟨b, o, none⟩) 0 0, .int .i64 k, .int .i64 room2] W' fun e w' => (∃ v', e = .returned v' ∧ OwnRfs Z w' W'.heap.size v' M2) ∧ Kept W' w') := Lib.hid fun W' hk => HC2.out W' (HK1.out.trans hk)
      have HSZ : Hid (w1.heap.size ≤ wc.heap.size) := Lib.hid HK1.out.size
      clear q0 q1 q2 q3 q4 qa HC1 HC2 HWI hkw1
      go_upto_region 6 with fail
      go_region_held3 (fun w' => w'.cell? ⟨W.heap.size, 0, none⟩ = some (.int .i64 V) ∧ w'.cell? ⟨W.heap.size, 1, none⟩ = some (.slice fa fn fc) ∧ w'.cell? ⟨W.heap.size, 2, none⟩ = some (.int .i64 T) ∧ w'.cell? ⟨W.heap.size + 1, 0, none⟩ = some (.int .i64 x0) ∧ w'.cell? ⟨W.heap.size + 1, 1, none⟩ = some (.slice ua un uc))
        (first | go_keep | exact ⟨hk4.cell g0, hk4.cell g1, hk4.cell g2, hk4.cell g3, hk4.cell g4⟩ | exact ⟨below_cell HB7.out (by have := HSZ1.out; omega) (hk4.cell g0), below_cell HB7.out (by have := HSZ1.out; omega) (hk4.cell g1), below_cell HB7.out (by have := HSZ1.out; omega) (hk4.cell g2), below_cell HB7.out (by have := HSZ1.out; omega) (hk4.cell g3), below_cell HB7.out (by have := HSZ1.out; omega) (hk4.cell g4)⟩)
        (first
          | (go_at_call 143; refine (HC3.out _ ((Kept.refl _).drew)).mono ?_; rintro e w4 ⟨⟨v4, rfl, hv4⟩, hk4⟩; obtain ⟨va4, vc4, rfl, _⟩ := hv4.slice; have HV4 := Lib.hid hv4; clear hv4)
          | (refine step_rfs (by rfl) _ _ (by rfl) w1.heap.size (.slice va1 n1 vc1) M1 (by rfl) (HO1.out.kept ((Kept.refl _).drew.trans hk4)) (.slice va4 M2.length vc4) M2 (by rfl) (HV4.out.mono (Nat.zero_le _)) HL12.out (by have h1 := HSZ.out; have h2 := ((Kept.refl wc).drew.trans hk4).size; omega) ?_; intro v7 w7 h7 hb7; have O7 := Lib.hid h7; have HB7 := Lib.hid hb7; clear h7 hb7))
      all_goals
        obtain ⟨va7, vc7, hv7, _⟩ := O7.out.slice
        subst hv7
        go_wp2
        go_ret
        exact ⟨⟨_, rfl, O7.out.mono HKW.out.size⟩, (HKW.out.trans (HK1.out.trans ((Kept.refl wc).drew.trans hk4))).app (HB7.out.mono HKW.out.size)⟩
set_option maxRecDepth 100000 in
theorem rchoices_any (V : Nat) (T : Int) (v0 : Value) (hs : ∃ a n c, v0 = .slice a n c) (hV : V ≤ 24) :
    ∀ (args : List Int) (va : Value) (W0 : World), (∀ z, Z = some z → z < W0.heap.size) → IntsAt W0 va args → (∀ a ∈ args, 0 ≤ a ∧ a < (V : Int) + 128) → args.length ≤ 100 → ∀ (k r : Nat) (room : Int) (u : Value) (W : World), Kept W0 W → NdsAt Z W u r → RowLt 152 r → k ≤ 1000 → -10 ≤ room → room ≤ 9998 →
      Calls Tryz.prog 143 #[.agg #[.int .i64 V, v0, .int .i64 T], .agg #[.int .i64 (evW r), u], va, .int .i64 k, .int .i64 room] W fun e w' => (∃ v', e = .returned v' ∧ OwnRfs Z w' W.heap.size v' (refCh V args k r room)) ∧ Kept W w' := by
  obtain ⟨fa, fn, fc, rfl⟩ := hs
  intro args
  induction args with
  | nil =>
    intro va W0 hZ hva _ _ k r room u W hW hu hr _ _ _
    obtain ⟨aa, an, ac, rfl⟩ := hva.shape
    have han : an = 0 := by
      obtain ⟨_, _, h, _⟩ := hva
      injection h
    subst han
    by_cases hk0 : k = 0
    · subst hk0
      rw [refCh_zero]
      exact rch_zero V 0 r T room fa aa fn fc ac u W hu hr
    · obtain ⟨ua, uc, rfl⟩ := hu.shape
      refine (rch_none V 0 k (evW r) (nodesOf r).length T room fa aa ua fn fc ac uc W hk0 (.inl (by omega))).mono fun e w' ⟨he, hk⟩ => ⟨⟨_, he, ?_⟩, hk⟩
      unfold refCh
      rw [if_neg hk0]
      exact OwnRfs.nil _ _
  | cons a l ih =>
    intro va W0 hZ hva hargs hal k r room u W hW hu hr hk hr0 hr9
    have hvW := hva.kept hW
    obtain ⟨aa, an, ac, rfl⟩ := hva.shape
    have han : an = l.length + 1 := by
      obtain ⟨_, _, h, _⟩ := hva
      injection h
    subst han
    by_cases hk0 : k = 0
    · subst hk0
      rw [refCh_zero]
      exact rch_zero V _ r T room fa aa fn fc ac u W hu hr
    · by_cases hno : l.length + 1 < k ∨ room < 0
      · obtain ⟨ua, uc, rfl⟩ := hu.shape
        refine (rch_none V _ k (evW r) (nodesOf r).length T room fa aa ua fn fc ac uc W hk0 hno).mono fun e w' ⟨he, hk⟩ => ⟨⟨_, he, ?_⟩, hk⟩
        unfold refCh
        rw [if_neg hk0, if_pos hno]
        exact OwnRfs.nil _ _
      · have hlt : ∀ x ∈ l, 0 ≤ x ∧ x < (V : Int) + 128 := fun x hx => hargs x (List.mem_cons_of_mem _ hx)
        have ha := hargs a (List.mem_cons_self ..)
        have hr1 : RowLt 152 (withC V r a) := rowLt_or hr (rowLt_mono (rowLt_cond (V := V) (m := 128) (by omega) hV) (by omega))
        have hac : l.length + 1 ≤ ac := by
          obtain ⟨_, _, h1, h2, _⟩ := hva
          injection h1 with _ _ h3
          rw [h3]; simpa using h2.1
        obtain ⟨b, o, rfl, hca⟩ : ∃ b o, aa = some ⟨b, o, none⟩ ∧ W.cell? ⟨b, o, none⟩ = some (.int .i64 a) := by
          obtain ⟨a', c', h1, _, _, h4⟩ := hvW
          injection h1 with h1 h2 h3
          obtain ⟨b, o, h5, h6⟩ := h4 0 (by simp)
          exact ⟨b, o, by rw [h1, h5], by simpa using h6⟩
        obtain ⟨ua, uc, rfl⟩ := hu.shape
        simp at hal
        have hlen1 : (refCh V l (k - 1) (withC V r a) room).length ≤ room.toNat + 1 := by
          by_cases e : k - 1 = 0
          · rw [e, refCh_zero]; simp
          · have := refCh_len V l (k - 1) (withC V r a) room e; omega
        have hlen2 := refCh_len V l k r (room - (refCh V l (k - 1) (withC V r a) room).length) hk0
        have htail : ∃ tv, ((2 ≤ ac ∧ tv = .slice (some ⟨b, o + 1, none⟩) (l.length + 1 - 1) (ac - 1)) ∨ (ac = 1 ∧ tv = .slice (some ⟨b, o, none⟩) 0 0)) ∧ IntsAt W tv l := by
          by_cases h2 : 2 ≤ ac
          · exact ⟨_, .inl ⟨h2, rfl⟩, ints_tail hvW h2⟩
          · have hl0 : l = [] := List.eq_nil_of_length_eq_zero (by omega)
            subst hl0
            exact ⟨_, .inr ⟨by omega, rfl⟩, ⟨some ⟨b, o, none⟩, 0, rfl, ⟨by simp, fun h => by cases h⟩, by simp, fun i hi => by simp at hi⟩⟩
        obtain ⟨tv, htv, hti⟩ := htail
        have e1 : refCh V (a :: l) k r room = refCh V l (k - 1) (withC V r a) room ++ refCh V l k r (room - (refCh V l (k - 1) (withC V r a) room).length) := by
          conv => lhs; unfold refCh
          rw [if_neg hk0, if_neg hno]
        rw [e1]
        refine rch_step V (l.length + 1) k (k - 1) b o ac (evW r) (evW (withC V r a)) (nodesOf r).length (withC V r a) T a room _ fa ua fn fc uc tv _ _ W (by omega) (by omega) (by omega) hac rfl ⟨by omega, by omega⟩ (by omega) (by omega) rfl htv hca
          (fun W' hk' => rrwith_any r V (.slice fa fn fc) T ⟨_, _, _, rfl⟩ hV a ha _ W' (fun z hz => by have h1 := hZ z hz; have h2 := hW.size; have h3 := hk'.size; omega) (hu.kept hk'))
          (fun u' W' hk' hu' => ih tv W (fun z hz => by have h1 := hZ z hz; have h2 := hW.size; omega) hti hlt (by omega) (k - 1) (withC V r a) room u' W' hk' hu' hr1 (by omega) hr0 hr9)
          (fun W' hk' => ih tv W (fun z hz => by have h1 := hZ z hz; have h2 := hW.size; omega) hti hlt (by omega) k r _ _ W' hk' (hu.kept hk') hr hk (by omega) (by omega))
end Go.Proofs.YtngbjdaaogbjmaaGreat
