import Derived.Test.YtngbjdaaogbjmaaGreatY7m
import Derived.Test.YtngbjdaaogbjmaaGreatK4
import Derived.Test.YtngbjdaaogbjmaaGreatX1m
/-
  Walks: the cutter of truncate: replace.
-/
namespace Go.Proofs.YtngbjdaaogbjmaaGreat.Tr
open Go.RowKit
variable {y0 y1 y2 y3 y4 y6 : Value}

set_option maxRecDepth 100000 in
set_option maxHeartbeats 16000000 in
theorem replace_any (gl B V i r b o n c : Nat) (x : Nd) (ua : Option Addr) (un uc : Nat) (v : Value) (L : List Nat) (W : World) (hB : B ≤ gl) (hV : V ≤ 24) (hBW : B ≤ W.heap.size) (hL : CutAt (.int .i64 V) (.slice (some ⟨b, o, none⟩) n c) y2 y3 y4 y6 W gl B v L) (hl : L.length ≤ 4097) (hr : RowLt 152 r) (hi : i < 128) (hin : i < n)
    (hnd : W.rangeAt b (o + i * 3) [.int .i64 x.kind, .int .i64 x.k, .slice ua un uc]) (hia : ∀ w', Below B W w' → IntsAt w' (.slice ua un uc) x.args) (hargs : ∀ a ∈ x.args, 0 ≤ a ∧ a < (V : Int) + 128) (h16 : x.args.length ≤ 16)
    (hkd : x.kind = 0 ∨ x.kind = 2 ∨ x.kind = 3 ∨ x.kind = 4) (hk4 : x.kind = 4 → 1 ≤ x.k ∧ x.k ≤ x.args.length) :
    Calls Tryz.prog 80 #[.pointer (some ⟨gl, 0, none⟩), rowV r, .int .i64 i] W fun e w' => e = .returned (.tuple #[]) ∧ ∃ v', CutAt (.int .i64 V) (.slice (some ⟨b, o, none⟩) n c) y2 y3 y4 y6 w' gl B v' ((L ++ expandK V x i r).take 4097) ∧ Frm gl v v' W w' := by
  obtain ⟨kd, kk, args⟩ := x
  simp only at hnd hia hargs h16 hkd hk4
  have hr1 : RowLt 152 (sdiff r (2 ^ (24 + i))) := fun j hj => by rw [sdiff_bit] at hj; simp at hj; exact hr j hj.1
  have HWO : Hid (∀ W', Calls Tryz.prog 133 #[rowV r, .int .i64 i, .bool false] W' fun e w' => e = .returned (rowV (sdiff r (2 ^ (24 + i)))) ∧ Kept W' w') := Lib.hid fun W' => tunflip_any hr i hi W'
  have HEX : Hid ((kd = 2 → expandK V ⟨kd, kk, args⟩ i r = chooseK V args args.length (sdiff r (2 ^ (24 + i)))) ∧ (kd = 3 → expandK V ⟨kd, kk, args⟩ i r = chooseK V args 1 (sdiff r (2 ^ (24 + i)))) ∧ (kd = 4 → expandK V ⟨kd, kk, args⟩ i r = chooseK V args kk.toNat (sdiff r (2 ^ (24 + i)))) ∧ (kd = 0 → expandK V ⟨kd, kk, args⟩ i r = if kk = 1 then [sdiff r (2 ^ (24 + i))] else [])) := Lib.hid (by
    unfold expandK
    refine ⟨fun h => ?_, fun h => ?_, fun h => ?_, fun h => ?_⟩
    · simp only [h]; rw [if_neg (by decide), if_pos trivial, chooseK_all]
    · simp only [h]; rw [if_neg (by decide), if_neg (by decide), if_pos trivial, chooseK_one]
    · simp only [h]; rw [if_neg (by decide), if_neg (by decide), if_neg (by decide)]
    · simp only [h]; rw [if_pos trivial])
  generalize sdiff r (2 ^ (24 + i)) = r1 at *
  obtain ⟨ex, hex⟩ : ∃ ex, ex = expandK V ⟨kd, kk, args⟩ i r := ⟨_, rfl⟩
  rw [← hex] at HEX ⊢
  have HL := Lib.hid hL
  have HR1 := Lib.hid hr1
  have hun : un = args.length := by
    obtain ⟨_, _, h, _⟩ := hia W (Below.refl _ _)
    injection h
  have HUN := Lib.hid hun
  have hun16 : un ≤ 16 := by omega
  have HVO : Hid (∀ (K : Nat) (W' : World), K ≤ 1000 → Kept W W' → Calls Tryz.prog 141 #[.pointer (some ⟨gl, 0, none⟩), rowV r1, .slice ua un uc, .int .i64 K] W' fun e w' => e = .returned (.tuple #[]) ∧ ∃ v', CutAt (.int .i64 V) (.slice (some ⟨b, o, none⟩) n c) y2 y3 y4 y6 w' gl B v' ((L ++ chooseK V args K r1).take 4097) ∧ Frm gl v v' W w') := Lib.hid fun K W' hK hk => by
    have hV0 := (hL.kept hk).1.cell (i := 0) (by simp)
    simp only [List.getElem_cons_zero] at hV0
    exact (votes_any gl B V W hV hB hBW args (.slice ua un uc) hia hargs (by omega) K r1 v L W' (hk.mono hBW) hV0 (hL.kept hk) hl hr1 hK).mono fun _ _ ⟨h1, v', h2, h3⟩ => ⟨h1, v', h2, (Frm.of_kept hk).trans h3⟩
  have HEM : Hid (∀ W', Kept W W' → Calls Tryz.prog 81 #[.pointer (some ⟨gl, 0, none⟩), rowV r1] W' fun e w' => e = .returned (.tuple #[]) ∧ ∃ v', CutAt (.int .i64 V) (.slice (some ⟨b, o, none⟩) n c) y2 y3 y4 y6 w' gl B v' ((L ++ [r1]).take 4097) ∧ Frm gl v v' W w') := Lib.hid fun W' hk => by
    have := emit_any gl B r1 v L W' (hL.kept hk) hr1 hl hB
    rw [addK_take hl] at this
    exact this.mono fun _ _ ⟨h1, v', h2, h3⟩ => ⟨h1, v', h2, (Frm.of_kept hk).trans h3⟩
  have HOUT : Hid (∀ W', Kept W W' → CutAt (.int .i64 V) (.slice (some ⟨b, o, none⟩) n c) y2 y3 y4 y6 W' gl B v (L.take 4097)) := Lib.hid fun W' hk => by rw [List.take_of_length_le hl]; exact hL.kept hk
  have hc1 := (hL.kept ((Kept.refl W).alloc (.cells #[.int .i64 (evW r), .int .u64 (loW r), .int .u64 (hiW r)] 109))).1.cell (i := 1) (by simp)
  simp only [List.getElem_cons_succ, List.getElem_cons_zero] at hc1
  unfold rowV at *
  obtain ⟨z0, hz0⟩ : ∃ y, y = evW r1 := ⟨_, rfl⟩
  obtain ⟨z1, hz1⟩ : ∃ y, y = loW r1 := ⟨_, rfl⟩
  obtain ⟨z2, hz2⟩ : ∃ y, y = hiW r1 := ⟨_, rfl⟩
  rw [← hz0, ← hz1, ← hz2] at HWO HVO HEM
  generalize evW r = x0 at *
  generalize loW r = x1 at *
  generalize hiW r = x2 at *
  have hii : (i : Int) < (n : Int) := by omega
  have HND : Hid (((W.alloc (.cells #[.int .i64 x0, .int .u64 x1, .int .u64 x2] 109))).rangeAt b (o + i * 3) [.int .i64 kd, .int .i64 kk, .slice ua un uc]) := Lib.hid (range_kept hnd ((Kept.refl W).alloc _))
  have HK4 := Lib.hid hk4
  have hgl := hL.1.lt
  clear hL hr hr1 hnd hin hi hia hargs hun hex hz0 hz1 hz2 hk4
  go_enter Tryz.func80, Tryz.ntmps80
  go_upto_region 2 with (first | (with_reducible refine wpList_load_mid rfl 70 _ rfl b (o + i * 3) rfl _ _ HND.out Tryz.underlying70 rfl (by kernel_rfl) ?_))
  go_cut [] (fun wx => Hid (Kept W wx ∧ RowAt wx W.heap.size 109 [.int .i64 z0, .int .u64 z1, .int .u64 z2] ∧ RowAt wx (W.heap.size + 1) 70 [.int .i64 kd, .int .i64 kk, .slice ua un uc]))
  case first =>
    go_wp2_with fail
    refine (HWO.out _).mono ?_
    rintro e w2 ⟨rfl, hk2⟩
    have hbx := (RowAt.made2 W #[.int .i64 x0, .int .u64 x1, .int .u64 x2] 109 (.cells #[.int .i64 kd, .int .i64 kk, .slice ua un uc] 70)).kept hk2
    have hnx : RowAt w2 (W.heap.size + 1) 70 [.int .i64 kd, .int .i64 kk, .slice ua un uc] := by
      have := (RowAt.made (W.alloc (.cells #[.int .i64 x0, .int .u64 x1, .int .u64 x2] 109)) #[.int .i64 kd, .int .i64 kk, .slice ua un uc] 70).kept hk2
      simpa using this
    have d0 := hbx.cell (i := 0) (by simp)
    have d1 := hbx.cell (i := 1) (by simp)
    have d2 := hbx.cell (i := 2) (by simp)
    have f0 := hbx.free 0
    have f1 := hbx.free 1
    have f2 := hbx.free 2
    simp only [List.getElem_cons_succ, List.getElem_cons_zero] at d0 d1 d2
    have HS : Hid (Kept W (((w2.setCell ⟨W.heap.size, 0, none⟩ (.int .i64 z0)).setCell ⟨W.heap.size, 1, none⟩ (.int .u64 z1)).setCell ⟨W.heap.size, 2, none⟩ (.int .u64 z2)) ∧ RowAt (((w2.setCell ⟨W.heap.size, 0, none⟩ (.int .i64 z0)).setCell ⟨W.heap.size, 1, none⟩ (.int .u64 z1)).setCell ⟨W.heap.size, 2, none⟩ (.int .u64 z2)) W.heap.size 109 [.int .i64 z0, .int .u64 z1, .int .u64 z2] ∧ RowAt (((w2.setCell ⟨W.heap.size, 0, none⟩ (.int .i64 z0)).setCell ⟨W.heap.size, 1, none⟩ (.int .u64 z1)).setCell ⟨W.heap.size, 2, none⟩ (.int .u64 z2)) (W.heap.size + 1) 70 [.int .i64 kd, .int .i64 kk, .slice ua un uc]) := Lib.hid (by
      refine ⟨((((((Kept.refl W).alloc _).alloc _).trans hk2).store (Nat.le_refl _) 0 _).store (Nat.le_refl _) 1 _).store (Nat.le_refl _) 2 _, ?_, ((hnx.other (by omega) 0 _).other (by omega) 1 _).other (by omega) 2 _⟩
      have := ((hbx.store 0 (.int .i64 z0)).store 1 (.int .u64 z1)).store 2 (.int .u64 z2)
      simpa using this)
    clear hbx hnx hk2
    go_wp2
    go_meet
    exact HS
  case rest =>
    obtain ⟨hkc, hrw, hnw⟩ := hcut.out
    have hsz : W.heap.size + 1 < wc.heap.size := hnw.lt
    have d0 := hrw.cell (i := 0) (by simp)
    have d1 := hrw.cell (i := 1) (by simp)
    have d2 := hrw.cell (i := 2) (by simp)
    have m0 := hnw.cell (i := 0) (by simp)
    have m1 := hnw.cell (i := 1) (by simp)
    have m2 := hnw.cell (i := 2) (by simp)
    simp only [List.getElem_cons_succ, List.getElem_cons_zero] at d0 d1 d2 m0 m1 m2
    have HKC := Lib.hid hkc
    clear hcut hkc hrw hnw HWO HND hc1
    rcases hkd with hkd | hkd | hkd | hkd
    · subst hkd
      have hex := HEX.out.2.2.2 (by trivial)
      by_cases hk1 : kk = 1
      · have hk1b : (kk == 1) = true := by simpa using hk1
        rw [if_pos hk1] at hex
        have HA := Lib.hid (HEM.out wc HKC.out)
        rw [← hex] at HA
        clear hk1 hex
        go_wp2_with (go_at_call 81; refine HA.out.mono ?_; rintro e w3 ⟨rfl, v', h3, h4⟩)
        refine bodyPost_end (results_none rfl _ _ _) rfl ?_
        exact ⟨rfl, v', h3, h4⟩
      · have hk1b : (kk == 1) = false := by simpa using hk1
        rw [if_neg hk1] at hex
        have HF := Lib.hid (HOUT.out wc HKC.out)
        have HX := Lib.hid hex
        clear hk1 hex
        go_wp2
        refine bodyPost_end (results_none rfl _ _ _) rfl ?_
        exact ⟨rfl, v, by rw [HX.out, List.append_nil]; exact HF.out, Frm.of_kept HKC.out⟩
    · subst hkd
      have hex := HEX.out.1 (by trivial)
      have HA := Lib.hid (HVO.out un wc (by omega) HKC.out)
      rw [HUN.out, ← hex, ← HUN.out] at HA
      clear hex
      go_wp2_with (go_at_call 141; refine HA.out.mono ?_; rintro e w3 ⟨rfl, v', h3, h4⟩)
      refine bodyPost_end (results_none rfl _ _ _) rfl ?_
      exact ⟨rfl, v', h3, h4⟩
    · subst hkd
      have hex := HEX.out.2.1 (by trivial)
      have HA := Lib.hid (HVO.out 1 wc (by omega) HKC.out)
      rw [← hex] at HA
      clear hex
      go_wp2_with (go_at_call 141; refine HA.out.mono ?_; rintro e w3 ⟨rfl, v', h3, h4⟩)
      refine bodyPost_end (results_none rfl _ _ _) rfl ?_
      exact ⟨rfl, v', h3, h4⟩
    · subst hkd
      obtain ⟨K, rfl⟩ := Int.eq_ofNat_of_zero_le (show 0 ≤ kk by have := HK4.out (by trivial); omega)
      have hK9 : K ≤ 16 := by have := HK4.out (by trivial); omega
      have hex := HEX.out.2.2.1 (by trivial)
      rw [Int.toNat_natCast] at hex
      have HA := Lib.hid (HVO.out K wc (by omega) HKC.out)
      rw [← hex] at HA
      clear hex
      go_wp2_with (go_at_call 141; refine HA.out.mono ?_; rintro e w3 ⟨rfl, v', h3, h4⟩)
      refine bodyPost_end (results_none rfl _ _ _) rfl ?_
      exact ⟨rfl, v', h3, h4⟩
end Go.Proofs.YtngbjdaaogbjmaaGreat.Tr
