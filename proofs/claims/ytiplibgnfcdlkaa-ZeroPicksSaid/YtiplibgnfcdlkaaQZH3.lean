import Derived.Test.YtiplibgnfcdlkaaQZH2
/-
  Walks: the reference's Make, the law's is.
-/
namespace Go.Proofs.Ytiplibgnfcdlkaa
open Go.RowKit

theorem OwnDns.past {w : World} {v : Value} {M : List ZNode} (h : OwnDns w v M) {B g : Nat} (hb : ∀ k, v.ownBlock = some k → B ≤ k) (hg : g < B) (i : Nat) (u : Value) : OwnDns (w.setCell ⟨g, i, none⟩ u) v M :=
  own_block h fun k hk => Below.heap_setCell w ⟨g, i, none⟩ u k (by show k ≠ g; have := hb k hk; omega)
set_option maxRecDepth 100000 in
set_option maxHeartbeats 4000000 in
theorem rmake_any (lv : Value) (ns : List Nat) (W : World) (h : IntsAt W lv (natI ns)) (hm : ∀ n ∈ ns, n < 16777216) (hl : ns.length ≤ 4000) :
    Calls Try.prog 52 #[lv] W fun e w' => (∃ a m c x, e = .returned (.agg #[.slice a m c, .int .i64 x]) ∧ ZDia w' (.agg #[.slice a m c, .int .i64 x]) (zin ns)) ∧ Kept W w' := by
  obtain ⟨w1, hw1⟩ : ∃ w1, w1 = (W.alloc (.cells #[.slice none 0 0, .int .i64 0] 24)).alloc (.cells #[.slice none 0 0, .int .i64 0] 24) := ⟨_, rfl⟩
  obtain ⟨hk1, x0, x1, hr1⟩ := box1 hw1
  have hrow : RowAt w1 W.heap.size 24 [.slice none 0 0, .int .i64 0] := by
    have hx := RowAt.made W #[.slice none 0 0, .int .i64 0] 24
    have hk : Kept (W.alloc (.cells #[.slice none 0 0, .int .i64 0] 24)) w1 := by rw [hw1]; exact (Kept.refl _).alloc _
    exact hx.kept hk
  have hsz1 : w1.heap.size = W.heap.size + 2 := by rw [hw1]; simp
  have hadd := radd_any 24 (Nat.le_refl _) w1 (.slice none 0 0) lv 0 [] ns (World.ownsRow_nil _ _ _ _) (h.kept hk1) hm (by simp; omega) (by omega)
  obtain ⟨Z, hZ⟩ : ∃ Z, Z = zcan (zin ns) := ⟨_, rfl⟩
  rw [show 24 - 24 = 0 from rfl, zft_zero, ← zcan_eq, ← hZ] at hadd
  have hfr : ZFrom 0 (zin ns) := fun s hs j hj => ⟨Nat.zero_le _, by
    have h1 := hm s (of_decide_eq_true hs)
    apply Classical.byContradiction
    intro hn
    have := Nat.ge_two_pow_of_testBit hj
    have h3 : 2 ^ 24 ≤ 2 ^ j := Nat.pow_le_pow_right (by decide) (by omega)
    omega⟩
  have hlen : Z.1.length ≤ 1000000 := by
    have h1 := zcan_len2 hfr
    have h2 : zcard (zin ns) ≤ ns.length := zcard_le hfr fun s hs => of_decide_eq_true hs
    rw [← hZ] at h1
    omega
  have HA := Lib.hid hadd
  have HW1 := Lib.hid hw1
  have HK1 := Lib.hid hk1
  have HROW := Lib.hid hrow
  have HR1 := Lib.hid hr1
  have HSZ := Lib.hid hsz1
  have HZ := Lib.hid hZ
  have HL := Lib.hid hlen
  clear h hm hl hw1 hk1 hrow hr1 hsz1 hadd hZ hfr hlen x0 x1
  obtain ⟨c0, c1, f0, f1⟩ := HR1.out.cells
  go_enter Try.func52, Try.ntmps52
  go_upto_region 2 with fail
  rw [← HW1.out]
  go_wp2_with fail
  refine HA.out.mono ?_
  rintro e w4 ⟨a, m, c, rfl, ho4, hf4⟩
  have hk4 : Kept w1 w4 := hf4.toKept (Kept.refl _) (fun k hk => by cases hk)
  have hab : ∀ k, (Value.slice a m c).ownBlock = some k → w1.heap.size ≤ k := fun k hk => (hf4.own k hk).elim (fun e => by cases e) id
  have hr4 := HR1.out.row.kept hk4
  have ht4 := HROW.out.kept hk4
  have d0 := hr4.cell (i := 0) (by simp)
  have d1 := hr4.cell (i := 1) (by simp)
  have t0 := ht4.cell (i := 0) (by simp)
  have t1 := ht4.cell (i := 1) (by simp)
  simp only [List.getElem_cons_succ, List.getElem_cons_zero] at d0 d1 t0 t1
  have g0 := hr4.free 0
  have g1 := hr4.free 1
  have u0 := ht4.free 0
  have u1 := ht4.free 1
  obtain ⟨rz, hrz⟩ : ∃ r, r = Z.2 := ⟨_, rfl⟩
  have HRZ := Lib.hid hrz
  have HK4 := Lib.hid (HK1.out.trans hk4)
  have HO4 := Lib.hid ho4
  have HAB := Lib.hid hab
  have HR4 := Lib.hid hr4
  have HT4 := Lib.hid ht4
  rw [← hrz]
  clear ho4 hf4 hk4 hab hr4 ht4 hrz c0 c1 f0 f1
  obtain ⟨w5, hw5⟩ : ∃ w5, w5 = ((w4.setCell ⟨W.heap.size + 1, 0, none⟩ (.slice a m c)).setCell ⟨W.heap.size + 1, 1, none⟩ (.int .i64 0)).setCell ⟨W.heap.size + 1, 1, none⟩ (.int .i64 rz) := ⟨_, rfl⟩
  have hr5 : RowAt w5 (W.heap.size + 1) 24 [.slice a m c, .int .i64 rz] := by
    rw [hw5]
    have := ((HR4.out.store 0 (.slice a m c)).store 1 (.int .i64 0)).store 1 (.int .i64 rz)
    simpa using this
  have ht5 : RowAt w5 W.heap.size 24 [.slice none 0 0, .int .i64 0] := by
    rw [hw5]
    exact ((HT4.out.other (by omega) 0 _).other (by omega) 1 _).other (by omega) 1 _
  have ho5 : OwnDns w5 (.slice a m c) Z.1 := by
    rw [hw5]
    have hlt : W.heap.size + 1 < w1.heap.size := by have := HSZ.out; omega
    exact ((HO4.out.past HAB.out hlt 0 _).past HAB.out hlt 1 _).past HAB.out hlt 1 _
  have hk5 : Kept W w5 := by
    rw [hw5]
    exact ((HK4.out.store (by omega) 0 _).store (by omega) 1 _).store (by omega) 1 _
  have HW5 := Lib.hid hw5
  have HR5 := Lib.hid hr5
  have HT5 := Lib.hid ht5
  have HO5 := Lib.hid ho5
  have HK5 := Lib.hid hk5
  clear hw5 ht5 ho5 hk5
  go_upto_region 3 with fail
  rw [← HW5.out]
  clear d0 d1 t0 t1 g0 g1 u0 u1
  have d0 := hr5.cell (i := 0) (by simp)
  have d1 := hr5.cell (i := 1) (by simp)
  have t0 := HT5.out.cell (i := 0) (by simp)
  have t1 := HT5.out.cell (i := 1) (by simp)
  simp only [List.getElem_cons_succ, List.getElem_cons_zero] at d0 d1 t0 t1
  have u0 := HT5.out.free 0
  have u1 := HT5.out.free 1
  clear hr5
  go_wp2_with fail
  have hF := (HT5.out.store 0 (.slice a m c)).store 1 (.int .i64 rz)
  have y0 := hF.cell (i := 0) (by simp)
  have y1 := hF.cell (i := 1) (by simp)
  simp only [List.set_cons_zero, List.set_cons_succ, List.getElem_cons_succ, List.getElem_cons_zero] at y0 y1
  have hlt : W.heap.size < w1.heap.size := by have := HSZ.out; omega
  have ho6 := (HO5.out.past HAB.out hlt 0 (.slice a m c)).past HAB.out hlt 1 (.int .i64 rz)
  have hd6 : ZDia ((w5.setCell ⟨W.heap.size, 0, none⟩ (.slice a m c)).setCell ⟨W.heap.size, 1, none⟩ (.int .i64 rz)) (.agg #[.slice a m c, .int .i64 rz]) (zin ns) := by
    unfold ZDia
    rw [← HZ.out, ← HRZ.out]
    exact ⟨_, rfl, own_dns ho6 (by have := HL.out; omega)⟩
  refine bodyPost_ret (v := .agg #[.slice a m c, .int .i64 rz]) (by simp [results, Try.results52, go_sem, y0, y1]) rfl ⟨⟨_, _, _, _, rfl, hd6⟩, ?_⟩
  exact (HK5.out.store (Nat.le_refl _) 0 _).store (Nat.le_refl _) 1 _
set_option maxRecDepth 100000 in
set_option maxHeartbeats 4000000 in
theorem is_true_any (v lv : Value) (F : Nat → Bool) (ns : List Nat) (W : World) (hv : ZDia W v F) (h : IntsAt W lv (natI ns)) (hm : ∀ n ∈ ns, n < 16777216) (hl : ns.length ≤ 4000) (hF : zin ns = F) (hFf : ZFrom 0 F) :
    Calls Try.prog 18 #[v, .nilIface, lv] W fun e w' => e = .returned (.bool true) ∧ Kept W w' := by
  obtain ⟨s, rfl, hd⟩ := id hv
  obtain ⟨a, cp, rfl⟩ := hd.shape
  obtain ⟨n, hn⟩ : ∃ n, n = ((zcan F).1.map zi).length := ⟨_, rfl⟩
  obtain ⟨r, hr⟩ : ∃ r : Int, r = (zcan F).2 := ⟨_, rfl⟩
  rw [← hn, ← hr] at hv ⊢
  obtain ⟨w1, hw1⟩ : ∃ w1, w1 = W.alloc (.cells #[.slice a n cp, .int .i64 r] 24) := ⟨_, rfl⟩
  have hk1 : Kept W w1 := by rw [hw1]; exact (Kept.refl _).alloc _
  have hx1 : RowAt w1 W.heap.size 24 [.slice a n cp, .int .i64 r] := by rw [hw1]; exact RowAt.made W #[.slice a n cp, .int .i64 r] 24
  have z0 := hx1.cell (i := 0) (by simp)
  have z1 := hx1.cell (i := 1) (by simp)
  simp only [List.getElem_cons_succ, List.getElem_cons_zero] at z0 z1
  have HMK : Hid (Calls Try.prog 52 #[lv] w1.drew fun e w' => (∃ a m c x, e = .returned (.agg #[.slice a m c, .int .i64 x]) ∧ ZDia w' (.agg #[.slice a m c, .int .i64 x]) F) ∧ Kept w1.drew w') := Lib.hid (by
    have := rmake_any lv ns w1.drew (h.kept hk1.drew) hm hl
    rwa [hF] at this)
  have HSM : Hid (∀ w u, Kept w1 w → ZDia w u F → Calls Try.prog 23 #[.agg #[.slice a n cp, .int .i64 r], u] w fun e w' => e = .returned (.bool true) ∧ Kept w w') := Lib.hid fun w u hk hu => zsame_eq hFf (hv.kept (hk1.trans hk)) hu
  have HW1 := Lib.hid hw1
  have HK1 := Lib.hid hk1
  have k0 := (Kept.refl w1).drew.cell z0
  have k1 := (Kept.refl w1).drew.cell z1
  clear hv hd hn hr h hm hl hF hFf hw1 hk1 hx1
  go_enter Try.func18, Try.ntmps18
  go_upto_region 1 with fail
  rw [← HW1.out]
  go_region_with (first
    | (go_at_call 52; (with_reducible refine HMK.out.mono ?_); rintro e w2 ⟨⟨a2, m2, c2, x2, rfl, hd2⟩, hk2⟩; have HK2 := Lib.hid ((Kept.refl w1).drew.trans hk2); have j0 := hk2.cell k0; have j1 := hk2.cell k1; have HD2 := Lib.hid hd2; clear hk2 hd2)
    | (go_at_call 23; (with_reducible refine (HSM.out _ _ HK2.out HD2.out).mono ?_); rintro e w3 ⟨rfl, hk3⟩; have HK3 := Lib.hid (HK2.out.trans hk3); clear hk3))
  all_goals
    go_wp2_with fail
    go_ret
    exact ⟨rfl, HK1.out.trans HK3.out⟩
end Go.Proofs.Ytiplibgnfcdlkaa
