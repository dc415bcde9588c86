import Derived.Test.YtiplibgnfcdlkaaQ28
import Derived.Test.YtiplibgnfcdlkaaQ31
import Derived.Test.YtiplibgnfcdlkaaQ32
import Derived.Test.YtiplibgnfcdlkaaQ29
import Derived.Test.YtiplibgnfcdlkaaQ30
/-
  Walk: the laws' awake.
-/
namespace Go.Proofs.Ytiplibgnfcdlkaa
open Go.RowKit

theorem ZOut.ok {w : World} {e : Ending} {F : Nat → Bool} (h : ZOut w e 0 F) : ∃ a n c x, e = .returned (.tuple #[.agg #[.slice a n c, .int .i64 x], .nilIface]) ∧ ZDia w (.agg #[.slice a n c, .int .i64 x]) F := by
  obtain ⟨v, rfl, hd⟩ := h
  rw [if_pos rfl] at hd
  obtain ⟨s, rfl, h2⟩ := id hd
  obtain ⟨a, cp, rfl⟩ := h2.shape
  exact ⟨_, _, _, _, rfl, hd⟩
theorem ints_made (w : World) (xs : List Int) (hl : xs.length ≤ 1000) : IntsAt (w.alloc (.cells (xs.map (Value.int .i64)).toArray 3)) (.slice (some ⟨w.heap.size, 0, none⟩) xs.length xs.length) xs := by
  refine ⟨_, _, rfl, ⟨Nat.le_refl _, fun e => by cases e⟩, by omega, fun i hi => ⟨w.heap.size, 0, rfl, ?_⟩⟩
  rw [Nat.zero_add]
  simp [hi]
theorem dns_made (w : World) : DnsAt (w.alloc (.cells #[.int .i64 1, .int .i64 0, .int .i64 1, .int .i64 1, .int .i64 1, .int .i64 1, .int .i64 0, .int .i64 2, .int .i64 3] 63)) (.slice (some ⟨w.heap.size, 0, none⟩) 3 3) (exN.map zi) := by
  refine ⟨_, _, rfl, ⟨Nat.le_refl _, fun e => by cases e⟩, by decide, fun i hi => ⟨w.heap.size, 0, rfl, ?_⟩⟩
  have hx := RowAt.made w #[.int .i64 1, .int .i64 0, .int .i64 1, .int .i64 1, .int .i64 1, .int .i64 1, .int .i64 0, .int .i64 2, .int .i64 3] 63
  have c := fun i (hi : i < 9) => hx.cell (i := i) (by simpa using hi)
  have hi3 : i < 3 := hi
  rcases (show i = 0 ∨ i = 1 ∨ i = 2 by omega) with rfl | rfl | rfl
  · exact ⟨c 0 (by omega), c 1 (by omega), c 2 (by omega)⟩
  · exact ⟨c 3 (by omega), c 4 (by omega), c 5 (by omega)⟩
  · exact ⟨c 6 (by omega), c 7 (by omega), c 8 (by omega)⟩
set_option maxRecDepth 100000 in
set_option maxHeartbeats 4000000 in
theorem awake18 (W : World) : Calls Try.prog 10 #[] W fun e w' => e = .returned (.bool true) ∧ Kept W w' := by
  have HMK : Hid (∀ w, Calls Try.prog 12 #[.slice (some ⟨w.heap.size, 0, none⟩) 3 3] (w.alloc (.cells #[.int .i64 1, .int .i64 2, .int .i64 3] 3)) fun e w' => (∃ a n c x, e = .returned (.tuple #[.agg #[.slice a n c, .int .i64 x], .nilIface]) ∧ ZDia w' (.agg #[.slice a n c, .int .i64 x]) (zfl [1, 2, 3])) ∧ Kept w w') := Lib.hid fun w => by
    have e0 : zlc [1, 2, 3] = 0 := by decide
    refine (zMake_any _ [1, 2, 3] _ (ints_made w [1, 2, 3] (by decide)) (fun _ => by rw [exF_can]; decide)).mono ?_
    rintro e w' ⟨h, hk⟩
    rw [e0] at h
    exact ⟨h.ok, ((Kept.refl w).alloc _).trans hk⟩
  have HMN : Hid (∀ w v, ZDia w v (zfl [1, 2, 3]) → Calls Try.prog 20 #[v] w fun e w' => (∃ a n c x, e = .returned (.tuple #[.agg #[.slice a n c, .int .i64 x], .nilIface]) ∧ ZDia w' (.agg #[.slice a n c, .int .i64 x]) (zmin (zfl [1, 2, 3]))) ∧ Kept w w') := Lib.hid fun w v hv => by
    refine (zMinimal_any v 0 _ w (hv.zin exF_from (by rw [exF_can]; decide)) (fun _ => ?_)).mono fun e w' ⟨h, hk⟩ => ⟨h.ok, hk⟩
    have := zcan_len2 (zmin_from exF_from)
    rw [exM_card] at this
    omega
  have HLS : Hid (∀ w v, ZDia w v (zmin (zfl [1, 2, 3])) → Calls Try.prog 21 #[v] w fun e w' => (∃ u, e = .returned (.tuple #[u, .nilIface]) ∧ IntsAt w' u [1, 2]) ∧ Kept w w') := Lib.hid fun w v hv => by
    have hl := zcan_len2 (zmin_from exF_from)
    rw [exM_card] at hl
    refine (zList_any v 0 _ w (hv.zin (zmin_from exF_from) (by omega))).mono ?_
    rintro e w' ⟨⟨u, L, rfl, h1, h2, _⟩, hk⟩
    have e : zlE 0 (zcard (zmin (zfl [1, 2, 3]))) = 0 := by rw [exM_card]; decide
    rw [e] at h2 ⊢
    have hL := (h2 rfl).uniq exM_sorted
    rw [hL] at h1
    exact ⟨⟨u, rfl, h1⟩, hk⟩
  have HIN : Hid (∀ w u, IntsAt w u [1, 2] → Calls Try.prog 27 #[u, .slice (some ⟨w.heap.size, 0, none⟩) 2 2] (w.alloc (.cells #[.int .i64 1, .int .i64 2] 3)) fun e w' => e = .returned (.bool true) ∧ Kept w w') := Lib.hid fun w u hu => by
    refine (ints_at [1, 2] [1, 2] _ _ _ (hu.kept ((Kept.refl w).alloc _)) (ints_made w [1, 2] (by decide))).mono ?_
    rintro e w' ⟨rfl, hk⟩
    exact ⟨rfl, ((Kept.refl w).alloc _).trans hk⟩
  have HSM : Hid (∀ w v, ZDia w v (zfl [1, 2, 3]) → Calls Try.prog 23 #[v, .agg #[.slice (some ⟨w.heap.size, 0, none⟩) 3 3, .int .i64 4]] (w.alloc (.cells #[.int .i64 1, .int .i64 0, .int .i64 1, .int .i64 1, .int .i64 1, .int .i64 1, .int .i64 0, .int .i64 2, .int .i64 3] 63)) fun e w' => e = .returned (.bool true) ∧ Kept w w') := Lib.hid fun w v hv => by
    refine (zsameD_any v _ (zfl [1, 2, 3]) (zfl [1, 2, 3]) _ exF_from exF_from (hv.kept ((Kept.refl w).alloc _)) ?_).mono ?_
    · unfold ZDia
      rw [exF_can]
      exact ⟨_, rfl, dns_made w⟩
    · rintro e w' ⟨⟨b, rfl, hb⟩, hk⟩
      rw [hb.2 rfl]
      exact ⟨rfl, ((Kept.refl w).alloc _).trans hk⟩
  go_enter Try.func10, Try.ntmps10
  go_wp2_with fail
  refine (HMK.out _).mono ?_
  rintro e w1 ⟨⟨a1, n1, c1, x1, rfl, hd1⟩, hk1⟩
  obtain ⟨w2, hw2⟩ : ∃ w2, w2 = w1.alloc (.cells #[.slice a1 n1 c1, .int .i64 x1] 24) := ⟨_, rfl⟩
  have hk2 : Kept w1 w2 := by rw [hw2]; exact (Kept.refl _).alloc _
  have hx2 : RowAt w2 w1.heap.size 24 [.slice a1 n1 c1, .int .i64 x1] := by rw [hw2]; exact RowAt.made w1 #[.slice a1 n1 c1, .int .i64 x1] 24
  have y0 := hx2.cell (i := 0) (by simp)
  have y1 := hx2.cell (i := 1) (by simp)
  simp only [List.getElem_cons_succ, List.getElem_cons_zero] at y0 y1
  have HW2 := Lib.hid hw2
  have HD2 := Lib.hid (hd1.kept hk2)
  have HK2 := Lib.hid (hk1.trans hk2)
  have HY := Lib.hid (And.intro y0 y1)
  clear hw2 hk2 hx2 hd1 hk1
  go_upto_region 2 with fail
  rw [← HW2.out]
  go_wp2_with fail
  refine (HMN.out _ _ HD2.out).mono ?_
  rintro e w3 ⟨⟨a3, n3, c3, x3, rfl, hd3⟩, hk3⟩
  obtain ⟨w4, hw4⟩ : ∃ w4, w4 = w3.alloc (.cells #[.slice a3 n3 c3, .int .i64 x3] 24) := ⟨_, rfl⟩
  have hk4 : Kept w3 w4 := by rw [hw4]; exact (Kept.refl _).alloc _
  have hx4 : RowAt w4 w3.heap.size 24 [.slice a3 n3 c3, .int .i64 x3] := by rw [hw4]; exact RowAt.made w3 #[.slice a3 n3 c3, .int .i64 x3] 24
  have u0 := hx4.cell (i := 0) (by simp)
  have u1 := hx4.cell (i := 1) (by simp)
  simp only [List.getElem_cons_succ, List.getElem_cons_zero] at u0 u1
  have HW4 := Lib.hid hw4
  have HD4 := Lib.hid (hd3.kept hk4)
  have HK24 := Lib.hid (hk3.trans hk4)
  clear hw4 hk4 hx4 hd3 hk3 y0 y1
  go_upto_region 3 with fail
  rw [← HW4.out]
  go_wp2_with fail
  refine (HLS.out _ _ HD4.out).mono ?_
  rintro e w5 ⟨⟨u, rfl, hi5⟩, hk5⟩
  have HK25 := Lib.hid (HK24.out.trans hk5)
  have HI5 := Lib.hid hi5
  clear hi5 hk5 u0 u1
  go_wp2_with fail
  refine (HIN.out _ _ HI5.out).mono ?_
  rintro e w6 ⟨rfl, hk6⟩
  have HK26 := Lib.hid (HK25.out.trans hk6)
  have z0 := HK26.out.cell HY.out.1
  have z1 := HK26.out.cell HY.out.2
  clear hk6
  go_wp2_with fail
  refine (HSM.out _ _ (HD2.out.kept HK26.out)).mono ?_
  rintro e w7 ⟨rfl, hk7⟩
  have HK7 := Lib.hid ((HK2.out.trans HK26.out).trans hk7)
  clear hk7
  go_wp2_with fail
  go_ret
  exact ⟨rfl, HK7.out⟩
end Go.Proofs.Ytiplibgnfcdlkaa

/-
  The operations at diagrams that are in order; families of few sets.
-/
namespace Go.Proofs.Ytiplibgnfcdlkaa
open Go.RowKit

/-- A family whose diagram is small enough. -/
structure ZFv (F : Nat → Bool) : Prop where
  frm : ZFrom 0 F
  len : (zcan F).1.length ≤ 4096
theorem ZFv.of {F : Nat → Bool} (h : ZFrom 0 F) (hc : zcard F ≤ 170) : ZFv F := ⟨h, by have := zcan_len2 h; omega⟩
theorem zfv_no : ZFv zno := ⟨zfrom_no 0, by rw [zcan_no]; simp⟩
theorem ZIn.fv {w : World} {v : Value} {F : Nat → Bool} (h : ZIn w v 0 F) : ZFv F := ⟨h.from rfl, h.len rfl⟩
theorem ZDia.inn {w : World} {v : Value} {F : Nat → Bool} (h : ZDia w v F) (hF : ZFv F) : ZIn w v 0 F := h.zin hF.frm hF.len
/-- A diagram is returned, and no error. -/
def OkRes (F : Nat → Bool) (W : World) (e : Ending) (w' : World) : Prop := (∃ a n c x, e = .returned (.tuple #[.agg #[.slice a n c, .int .i64 x], .nilIface]) ∧ ZDia w' (.agg #[.slice a n c, .int .i64 x]) F) ∧ Kept W w'
theorem zUnion_ok {v v' : Value} {F G : Nat → Bool} {W : World} (h : ZDia W v F) (h' : ZDia W v' G) (hF : ZFv F) (hG : ZFv G) (hR : ZFv (fun s => or (F s) (G s))) : Calls Try.prog 31 #[v, v'] W (OkRes (fun s => or (F s) (G s)) W) :=
  (zUnion_any v v' 0 0 F G W (h.inn hF) (h'.inn hG) (fun _ _ => hR.len)).mono fun _ _ ⟨h1, h2⟩ => ⟨h1.ok, h2⟩
theorem zMeet_ok {v v' : Value} {F G : Nat → Bool} {W : World} (h : ZDia W v F) (h' : ZDia W v' G) (hF : ZFv F) (hG : ZFv G) (hR : ZFv (fun s => and (F s) (G s))) : Calls Try.prog 40 #[v, v'] W (OkRes (fun s => and (F s) (G s)) W) :=
  (zMeet_any v v' 0 0 F G W (h.inn hF) (h'.inn hG) (fun _ _ => hR.len)).mono fun _ _ ⟨h1, h2⟩ => ⟨h1.ok, h2⟩
theorem zMinus_ok {v v' : Value} {F G : Nat → Bool} {W : World} (h : ZDia W v F) (h' : ZDia W v' G) (hF : ZFv F) (hG : ZFv G) (hR : ZFv (fun s => and (F s) (not (G s)))) : Calls Try.prog 41 #[v, v'] W (OkRes (fun s => and (F s) (not (G s))) W) :=
  (zMinus_any v v' 0 0 F G W (h.inn hF) (h'.inn hG) (fun _ _ => hR.len)).mono fun _ _ ⟨h1, h2⟩ => ⟨h1.ok, h2⟩
theorem zWithout_ok {v v' : Value} {F G : Nat → Bool} {W : World} (h : ZDia W v F) (h' : ZDia W v' G) (hF : ZFv F) (hG : ZFv G) (hR : ZFv (zwithout F G)) : Calls Try.prog 22 #[v, v'] W (OkRes (zwithout F G) W) :=
  (zWithout_any v v' 0 0 F G W (h.inn hF) (h'.inn hG) (fun _ _ => hR.len)).mono fun _ _ ⟨h1, h2⟩ => ⟨h1.ok, h2⟩
theorem zJoin_ok {v v' : Value} {F G : Nat → Bool} {W : World} (h : ZDia W v F) (h' : ZDia W v' G) (hF : ZFv F) (hG : ZFv G) (hc : zcard F * zcard G ≤ 2500) (hR : ZFv (zjoin F G)) : Calls Try.prog 30 #[v, v'] W (OkRes (zjoin F G) W) :=
  (zJoin_any v v' 0 0 F G W (h.inn hF) (h'.inn hG) (fun _ _ => ⟨hc, hR.len⟩)).mono fun _ _ ⟨h1, h2⟩ => ⟨h1.ok, h2⟩
theorem zMinimal_ok {v : Value} {F : Nat → Bool} {W : World} (h : ZDia W v F) (hF : ZFv F) (hR : ZFv (zmin F)) : Calls Try.prog 20 #[v] W (OkRes (zmin F) W) :=
  (zMinimal_any v 0 F W (h.inn hF) (fun _ => hR.len)).mono fun _ _ ⟨h1, h2⟩ => ⟨h1.ok, h2⟩
theorem zCount_ok {v : Value} {F : Nat → Bool} {W : World} (h : ZDia W v F) (hF : ZFv F) : Calls Try.prog 32 #[v] W fun e w' => e = .returned (.tuple #[.int .i64 (zcard F : Nat), .nilIface]) ∧ Kept W w' := zCount_any v 0 F W (h.inn hF)
theorem zMake_ok {v : Value} {xs : List Int} {W : World} (h : IntsAt W v xs) (hl : xs.length ≤ 1024) (ho : xs.all zok = true) (hR : ZFv (zfl xs)) : Calls Try.prog 12 #[v] W (OkRes (zfl xs) W) := by
  have e0 : zlc xs = 0 := by unfold zlc; rw [if_neg (by omega), if_pos ho]
  refine (zMake_any v xs W h (fun _ => hR.len)).mono ?_
  rintro e w' ⟨h1, h2⟩
  rw [e0] at h1
  exact ⟨h1.ok, h2⟩
theorem zList_ok {v : Value} {F : Nat → Bool} {W : World} (h : ZDia W v F) (hF : ZFv F) (hc : zcard F ≤ 1024) : Calls Try.prog 21 #[v] W fun e w' => (∃ u L, e = .returned (.tuple #[u, .nilIface]) ∧ IntsAt w' u (natI L) ∧ ZSorted F L) ∧ Kept W w' := by
  refine (zList_any v 0 F W (h.inn hF)).mono ?_
  rintro e w' ⟨⟨u, L, rfl, h1, h2, _⟩, hk⟩
  have e0 : zlE 0 (zcard F) = 0 := by unfold zlE; rw [if_pos rfl, if_neg (by omega)]
  rw [e0] at h2 ⊢
  exact ⟨⟨u, L, rfl, h1, h2 rfl⟩, hk⟩
/-- A diagram in a box. -/
structure ZBox (w : World) (b : Nat) (a : Option Addr) (n c : Nat) (x : Int) (F : Nat → Bool) : Prop where
  c0 : w.cell? ⟨b, 0, none⟩ = some (.slice a n c)
  c1 : w.cell? ⟨b, 1, none⟩ = some (.int .i64 x)
  dia : ZDia w (.agg #[.slice a n c, .int .i64 x]) F
theorem ZBox.kept {w w' : World} {b : Nat} {a : Option Addr} {n c : Nat} {x : Int} {F : Nat → Bool} (h : ZBox w b a n c x F) (hk : Kept w w') : ZBox w' b a n c x F := ⟨hk.cell h.c0, hk.cell h.c1, h.dia.kept hk⟩
theorem ZBox.made {w w1 : World} {a : Option Addr} {n c : Nat} {x : Int} {F : Nat → Bool} (h : ZDia w (.agg #[.slice a n c, .int .i64 x]) F) (e : w1 = w.alloc (.cells #[.slice a n c, .int .i64 x] 24)) : ZBox w1 w.heap.size a n c x F ∧ Kept w w1 := by
  have hk : Kept w w1 := by rw [e]; exact (Kept.refl _).alloc _
  have hx : RowAt w1 w.heap.size 24 [.slice a n c, .int .i64 x] := by rw [e]; exact RowAt.made w #[.slice a n c, .int .i64 x] 24
  have c0 := hx.cell (i := 0) (by simp)
  have c1 := hx.cell (i := 1) (by simp)
  exact ⟨⟨by simpa using c0, by simpa using c1, h.kept hk⟩, hk⟩
/- Families of few sets. -/
theorem zfrom_or {F G : Nat → Bool} {v : Nat} (h : ZFrom v F) (k : ZFrom v G) : ZFrom v (fun s => or (F s) (G s)) := fun s hs => by
  rcases Bool.or_eq_true_iff.1 hs with e | e
  · exact h s e
  · exact k s e
theorem zfrom_and {F : Nat → Bool} {G : Nat → Bool} {v : Nat} (h : ZFrom v F) : ZFrom v (fun s => and (F s) (G s)) := fun s hs => h s (Bool.and_eq_true_iff.1 hs).1
theorem zfrom_without {F G : Nat → Bool} {v : Nat} (h : ZFrom v F) : ZFrom v (zwithout F G) := fun s hs => h s (zwithout_iff.1 hs).1
theorem zcard_mono {F G : Nat → Bool} (hF : ZFrom 0 F) (hG : ZFrom 0 G) (h : ∀ s, F s = true → G s = true) : zcard F ≤ zcard G := zcard_le hF fun s hs => (zls_mem hG s).2 (h s hs)
theorem zcard_or {F G : Nat → Bool} (hF : ZFrom 0 F) (hG : ZFrom 0 G) : zcard (fun s => or (F s) (G s)) ≤ zcard F + zcard G := by
  have := zcard_le (l := zls F ++ zls G) (zfrom_or hF hG) fun s hs => by
    rcases Bool.or_eq_true_iff.1 hs with e | e
    · exact List.mem_append.2 (.inl ((zls_mem hF s).2 e))
    · exact List.mem_append.2 (.inr ((zls_mem hG s).2 e))
  rwa [List.length_append] at this
theorem zcard_apart {F G H : Nat → Bool} (hF : ZFrom 0 F) (hG : ZFrom 0 G) (hH : ZFrom 0 H) (h : ∀ s, H s = or (F s) (G s)) (hd : ∀ s, F s = true → G s = false) : zcard F + zcard G = zcard H := by
  have := zcard_list (F := H) (l := zls F ++ zls G) hH (List.nodup_append.2 ⟨zls_nodup hF, zls_nodup hG, fun a ha b hb e => by
    subst e
    have h1 := hd a ((zls_mem hF a).1 ha)
    rw [(zls_mem hG a).1 hb] at h1
    cases h1⟩) fun s => by rw [List.mem_append, zls_mem hF, zls_mem hG, h, Bool.or_eq_true_iff]
  rwa [List.length_append] at this
theorem zcard_both {F G : Nat → Bool} (hF : ZFrom 0 F) (hG : ZFrom 0 G) : zcard (fun s => or (F s) (G s)) + zcard (fun s => and (F s) (G s)) = zcard F + zcard G := by
  have hd : ZFrom 0 (fun s => and (F s) (not (G s))) := zfrom_and hF
  have h1 := zcard_apart (F := fun s => and (F s) (G s)) (G := fun s => and (F s) (not (G s))) (H := F) (zfrom_and hF) hd hF (fun s => by cases F s <;> cases G s <;> rfl) (fun s hs => by
    obtain ⟨_, e⟩ := Bool.and_eq_true_iff.1 hs
    simp [e])
  have h2 := zcard_apart (F := G) (G := fun s => and (F s) (not (G s))) (H := fun s => or (F s) (G s)) hG hd (zfrom_or hF hG) (fun s => by cases F s <;> cases G s <;> rfl) (fun s hs => by simp [hs])
  omega
end Go.Proofs.Ytiplibgnfcdlkaa

/-
  The laws' valid at one, two, three diagrams; equal diagrams are the same.
-/
namespace Go.Proofs.Ytiplibgnfcdlkaa
open Go.RowKit

theorem RetB.mono {Q R : Bool → Prop} {W : World} {e : Ending} {w' : World} (h : RetB Q W e w') (hq : ∀ b, Q b → R b) : RetB R W e w' := let ⟨⟨b, h1, h2⟩, h3⟩ := h; ⟨⟨b, h1, hq b h2⟩, h3⟩
theorem RetB.world {Q : Bool → Prop} {W W' : World} {e : Ending} {w' : World} (h : RetB Q W' e w') (hk : Kept W W') : RetB Q W e w' := ⟨h.1, hk.trans h.2⟩
theorem valid1 {a : Option Addr} {n cp : Nat} {r : Int} {c : Nat} {F : Nat → Bool} {W : World} (h : ZIn W (.agg #[.slice a n cp, .int .i64 r]) c F) (w : World) (hk : Kept W w) :
    Calls Try.prog 19 #[.slice (some ⟨w.heap.size, 0, none⟩) 1 1] (w.alloc (.cells #[.slice a n cp, .int .i64 r] 24)) (RetB (fun b => b = true → c = 0 ∧ zcard F ≤ 60) w) := by
  have hk2 := (Kept.refl w).alloc (.cells #[.slice a n cp, .int .i64 r] 24)
  refine (valid_any w.heap.size 1 1 (fun _ => c) (fun _ => F) _ (by omega) (by omega) (fun i hi => ?_)).mono fun e w' h => (h.world hk2).mono fun b hb hbt => hb hbt 0 (by omega)
  obtain rfl : i = 0 := by omega
  exact ⟨_, _, _, _, by simp, by simp, h.kept (hk.trans hk2)⟩
theorem valid2 {a b : Option Addr} {n cp m cq : Nat} {r s : Int} {c d : Nat} {F G : Nat → Bool} {W : World} (h : ZIn W (.agg #[.slice a n cp, .int .i64 r]) c F) (h' : ZIn W (.agg #[.slice b m cq, .int .i64 s]) d G) (w : World) (hk : Kept W w) :
    Calls Try.prog 19 #[.slice (some ⟨w.heap.size, 0, none⟩) 2 2] (w.alloc (.cells #[.slice a n cp, .int .i64 r, .slice b m cq, .int .i64 s] 24)) (RetB (fun b => b = true → (c = 0 ∧ zcard F ≤ 60) ∧ d = 0 ∧ zcard G ≤ 60) w) := by
  obtain ⟨hk2, x0, x1, x2, x3⟩ := open2_at (a := a) (b := b) (n := n) (cp := cp) (m := m) (cq := cq) (r := r) (s := s) (w1 := w) rfl
  refine (valid_any w.heap.size 2 2 (fun i => if i = 0 then c else d) (fun i => if i = 0 then F else G) _ (by omega) (by omega) (fun i hi => ?_)).mono fun e w' h => (h.world hk2).mono fun b hb hbt => ⟨hb hbt 0 (by omega), hb hbt 1 (by omega)⟩
  rcases (show i = 0 ∨ i = 1 by omega) with rfl | rfl
  · exact ⟨_, _, _, _, x0, x1, h.kept (hk.trans hk2)⟩
  · exact ⟨_, _, _, _, x2, x3, h'.kept (hk.trans hk2)⟩
theorem valid3 {a b a3 : Option Addr} {n cp m cq n3 c3 : Nat} {r s r3 : Int} {c d k : Nat} {F G H : Nat → Bool} {W : World} (h : ZIn W (.agg #[.slice a n cp, .int .i64 r]) c F) (h' : ZIn W (.agg #[.slice b m cq, .int .i64 s]) d G) (h3 : ZIn W (.agg #[.slice a3 n3 c3, .int .i64 r3]) k H) (w : World) (hk : Kept W w) :
    Calls Try.prog 19 #[.slice (some ⟨w.heap.size, 0, none⟩) 3 3] (w.alloc (.cells #[.slice a n cp, .int .i64 r, .slice b m cq, .int .i64 s, .slice a3 n3 c3, .int .i64 r3] 24)) (RetB (fun b => b = true → (c = 0 ∧ zcard F ≤ 60) ∧ (d = 0 ∧ zcard G ≤ 60) ∧ k = 0 ∧ zcard H ≤ 60) w) := by
  have hk2 := (Kept.refl w).alloc (.cells #[.slice a n cp, .int .i64 r, .slice b m cq, .int .i64 s, .slice a3 n3 c3, .int .i64 r3] 24)
  refine (valid_any w.heap.size 3 3 (fun i => if i = 0 then c else if i = 1 then d else k) (fun i => if i = 0 then F else if i = 1 then G else H) _ (by omega) (by omega) (fun i hi => ?_)).mono fun e w' h => (h.world hk2).mono fun b hb hbt => ⟨hb hbt 0 (by omega), hb hbt 1 (by omega), hb hbt 2 (by omega)⟩
  rcases (show i = 0 ∨ i = 1 ∨ i = 2 by omega) with rfl | rfl | rfl
  · exact ⟨_, _, _, _, by simp, by simp, h.kept (hk.trans hk2)⟩
  · exact ⟨_, _, _, _, by simp, by simp, h'.kept (hk.trans hk2)⟩
  · exact ⟨_, _, _, _, by simp, by simp, h3.kept (hk.trans hk2)⟩
theorem zsame_eq {u v : Value} {F : Nat → Bool} {W : World} (hF : ZFrom 0 F) (hu : ZDia W u F) (hv : ZDia W v F) : Calls Try.prog 23 #[u, v] W fun e w' => e = .returned (.bool true) ∧ Kept W w' := by
  refine (zsameD_any u v F F W hF hF hu hv).mono ?_
  rintro e w' ⟨⟨b, rfl, hb⟩, hk⟩
  rw [hb.2 rfl]
  exact ⟨rfl, hk⟩
/-- The boxes of two arguments. -/
theorem boxA2 {W w1 : World} {a b : Option Addr} {n cp m cq : Nat} {r s : Int} (h : w1 = (W.alloc (.cells #[.slice a n cp, .int .i64 r] 24)).alloc (.cells #[.slice b m cq, .int .i64 s] 24)) :
    Kept W w1 ∧ (w1.cell? ⟨W.heap.size, 0, none⟩ = some (.slice a n cp) ∧ w1.cell? ⟨W.heap.size, 1, none⟩ = some (.int .i64 r)) ∧ w1.cell? ⟨W.heap.size + 1, 0, none⟩ = some (.slice b m cq) ∧ w1.cell? ⟨W.heap.size + 1, 1, none⟩ = some (.int .i64 s) := by
  have hx := RowAt.made W #[.slice a n cp, .int .i64 r] 24
  have hk : Kept (W.alloc (.cells #[.slice a n cp, .int .i64 r] 24)) w1 := by rw [h]; exact (Kept.refl _).alloc _
  have hy : RowAt w1 (W.alloc (.cells #[.slice a n cp, .int .i64 r] 24)).heap.size 24 [.slice b m cq, .int .i64 s] := by rw [h]; exact RowAt.made _ #[.slice b m cq, .int .i64 s] 24
  have c0 := (hx.kept hk).cell (i := 0) (by simp)
  have c1 := (hx.kept hk).cell (i := 1) (by simp)
  have d0 := hy.cell (i := 0) (by simp)
  have d1 := hy.cell (i := 1) (by simp)
  rw [World.size_alloc] at d0 d1
  exact ⟨((Kept.refl _).alloc _).trans hk, ⟨by simpa using c0, by simpa using c1⟩, by simpa using d0, by simpa using d1⟩
end Go.Proofs.Ytiplibgnfcdlkaa
