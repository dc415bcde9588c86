import Derived.WalkKit
import Derived.WalkSpells
import Derived.WalkLawsBesides
import Derived.Deep.QuietTactic
import Derived.BigQuiet
import Derived.Lib.Hide
import Derived.Shelf.Abstract
import Derived.Deep.RegionWith
import Derived.Laws.AppendOwnNone
import Derived.Lib.AppendZerosOnto
import Derived.Lib.SliceRun
import Derived.Lib.SlicesCompact
import Derived.Shelf.SlSortCmp.NoneTotal
import Derived.Maps.OwnOps
import Derived.Maps.OwnSet
import Derived.Maps.Views
import Derived.Deep.MidRow
import Derived.Deep.RegionHeld3
import Derived.Deep.AppendLies
import Derived.Deep.RegionLaw
import Derived.IntWalk
import Derived.StillTailTactics
import Derived.ProofKit
import Derived.OpenShut
import Derived.SizedLaws
import Derived.Lib.SmallJoins
import Derived.Deep.Slices
import Derived.Deep.Fields
import Derived.Deep.Strs
import Derived.Carry
import Derived.Deep.DeepCutAuto
import Derived.BigRegion
import Derived.ChangeAlike
import Derived.Deep.LoopGhost
import Derived.Lib.ItoaNum
import Derived.RegionTactic
import Derived.Shelf.SlSortCmp.PdqK
import Derived.Sort.LotA
import Derived.Sort.LotD2
import Derived.Lib.BitFns
import Derived.Deep.CutBlock
import Derived.Test.YtpaedhlacbpmpaaGreatDoorPX2
/-
  Walks: rational.parts, form.
-/
namespace Go.Proofs.YtpaedhlacbpmpaaGreatDoor
open Go.RowKit

/-- A block that holds these cells and no more. -/
def FixAt (w : World) (g : Nat) (xs : List Value) : Prop := ∃ cur e, w.heap[g]? = some (.cells cur e (0, 0)) ∧ cur.toList = xs
theorem FixAt.made (w : World) (cs : Array Value) (e : TypeId) : FixAt (w.alloc (.cells cs e)) w.heap.size cs.toList := ⟨cs, e, heap_alloc_new w _, rfl⟩
theorem FixAt.lt {w : World} {g : Nat} {xs : List Value} (h : FixAt w g xs) : g < w.heap.size := by
  obtain ⟨cur, e, h1, _⟩ := h
  rcases Nat.lt_or_ge g w.heap.size with h2 | h2
  · exact h2
  · simp [Array.getElem?_eq_none h2] at h1
theorem FixAt.kept {w w' : World} {g : Nat} {xs : List Value} (h : FixAt w g xs) (hk : Kept w w') : FixAt w' g xs := by
  have hl := h.lt
  obtain ⟨cur, e, h1, h2⟩ := h
  exact ⟨cur, e, (hk.block g hl).trans h1, h2⟩
theorem FixAt.only {w : World} {g i : Nat} {xs : List Value} {u : Value} (h : FixAt w g xs) (hc : w.cell? ⟨g, i, none⟩ = some u) : u ∈ xs := by
  obtain ⟨arr, e, h1, h2⟩ := h
  simp only [World.cell?, h1] at hc
  rw [← h2]
  have := Array.mem_of_getElem? hc
  simpa using this
/-- A slice of words does not lie in a fraction's own cells. -/
theorem WdsAt.apart {w w' : World} {g : Nat} {v : Value} {xs : List Nat} {row : List Value} (h : WdsAt w v xs) (hr : FixAt w g row) (hn : ∀ k x, Value.int k x ∉ row) (ho : OnlyAt g w w') : WdsAt w' v xs := by
  obtain ⟨a, c, h1, h2, h3, h4, h5⟩ := h
  refine ⟨a, c, h1, h2, h3, h4, fun i hi => ?_⟩
  obtain ⟨b, o, h6, h7⟩ := h5 i hi
  refine ⟨b, o, h6, ?_⟩
  have hne : b ≠ g := fun e => by
    subst e
    exact hn _ _ (hr.only h7)
  have hlt : b < w.heap.size := by
    rcases Nat.lt_or_ge b w.heap.size with h8 | h8
    · exact h8
    · simp [World.cell?, Array.getElem?_eq_none h8] at h7
  have := ho.block b hlt hne
  simp only [World.cell?, this] at h7 ⊢
  exact h7
set_option maxRecDepth 100000 in
set_option maxHeartbeats 4000000 in
theorem rparts_any (v : Value) (r : Rw) (w : World) (hv : RatAt w v r) (hs : r.Short 274877906944) : Calls Tryz.prog 66 #[v] w fun e w' => (∃ u1 u2, e = .returned (.tuple #[.bool (partsR r).1, u1, u2]) ∧ WdsAt w' u1 (partsR r).2.1 ∧ WdsAt w' u2 (partsR r).2.2) ∧ Kept w w' := by
  have HVA := Lib.hid (fun W (hk : Kept w W) => ratvalid_any v r W (hv.kept hk) hs)
  obtain ⟨neg, num, den⟩ := r
  obtain ⟨u1, u2, rfl, h1, h2⟩ := hv
  simp only at h1 h2
  obtain ⟨a1, c1, rfl⟩ := h1.shape
  obtain ⟨a2, c2, rfl⟩ := h2.shape
  obtain ⟨n1, hn1⟩ : ∃ n1, n1 = num.length := ⟨_, rfl⟩
  obtain ⟨n2, hn2⟩ : ∃ n2, n2 = den.length := ⟨_, rfl⟩
  rw [← hn1] at h1 HVA ⊢
  rw [← hn2] at h2 HVA ⊢
  have H1 := Lib.hid h1
  have H2 := Lib.hid h2
  obtain ⟨w1, hw1⟩ : ∃ w1, w1 = w.alloc (.cells #[.bool neg, .slice a1 n1 c1, .slice a2 n2 c2] 38) := ⟨_, rfl⟩
  have HR : Hid (RowAt w1 w.heap.size 38 [.bool neg, .slice a1 n1 c1, .slice a2 n2 c2]) := Lib.hid (by rw [hw1]; exact RowAt.made w #[.bool neg, .slice a1 n1 c1, .slice a2 n2 c2] 38)
  have HK0 : Hid (Kept w w1) := Lib.hid (by rw [hw1]; exact (Kept.refl w).alloc _)
  have q0 := HR.out.cell (i := 0) (by simp)
  have q1 := HR.out.cell (i := 1) (by simp)
  have q2 := HR.out.cell (i := 2) (by simp)
  simp only [List.getElem_cons_succ, List.getElem_cons_zero] at q0 q1 q2
  have HW1 := Lib.hid hw1
  clear hw1
  by_cases hg : validR ⟨neg, num, den⟩ = true ∧ num ≠ []
  · have hP : partsR ⟨neg, num, den⟩ = (neg, num, den) := by unfold partsR; rw [if_pos hg]
    rw [hP]
    rw [hg.1] at HVA
    have hb1 : ((n1 : Int) == 0) = false := by
      have : n1 ≠ 0 := fun h => hg.2 (List.eq_nil_of_length_eq_zero (hn1.symm.trans h))
      simp; exact this
    clear h1 h2 hP hg hn1 hn2 hs
    go_enter Tryz.func66, Tryz.ntmps66
    go_wp2_with fail
    rw [← HW1.out]
    refine (HVA.out _ HK0.out).mono ?_
    rintro e w2 ⟨rfl, hk2⟩
    have y0 := hk2.cell q0
    have y1 := hk2.cell q1
    have y2 := hk2.cell q2
    have HK2 := Lib.hid (HK0.out.trans hk2)
    clear hk2 q0 q1 q2
    go_wp2_with fail
    go_quiet (fail)
    go_wp2
    go_ret3
    exact ⟨⟨_, _, rfl, H1.out.kept (HK2.out.drewN _), H2.out.kept (HK2.out.drewN _)⟩, HK2.out.drewN _⟩
  · have hP : partsR ⟨neg, num, den⟩ = (false, [], [1]) := by unfold partsR; rw [if_neg hg]
    rw [hP]
    by_cases hvv : validR ⟨neg, num, den⟩ = true
    · have h0 : n1 = 0 := by
        rw [hn1]
        by_cases h : num = []
        · rw [h]; rfl
        · exact absurd ⟨hvv, h⟩ hg
      rw [hvv] at HVA
      subst h0
      clear h1 h2 hP hg hn1 hn2 hs hvv
      go_enter Tryz.func66, Tryz.ntmps66
      go_wp2_with fail
      rw [← HW1.out]
      refine (HVA.out _ HK0.out).mono ?_
      rintro e w2 ⟨rfl, hk2⟩
      have y1 := hk2.cell q1
      have HK2 := Lib.hid (HK0.out.trans hk2)
      clear hk2 q0 q1 q2
      go_wp2_with fail
      refine (rone_any _).mono ?_
      rintro e w3 ⟨⟨v3, rfl, hv3⟩, hk3⟩
      have H3 := Lib.hid hv3
      have HK3 := Lib.hid (HK2.out.trans hk3)
      clear hv3 hk3
      go_wp2
      go_ret3
      exact ⟨⟨_, _, rfl, WdsAt.nil _, H3.out⟩, HK3.out⟩
    · have hvf : validR ⟨neg, num, den⟩ = false := by simpa using hvv
      rw [hvf] at HVA
      clear h1 h2 hP hg hn1 hn2 hs hvv hvf
      go_enter Tryz.func66, Tryz.ntmps66
      go_wp2_with fail
      rw [← HW1.out]
      refine (HVA.out _ HK0.out).mono ?_
      rintro e w2 ⟨rfl, hk2⟩
      have HK2 := Lib.hid (HK0.out.trans hk2)
      clear hk2 q0 q1 q2
      go_wp2_with fail
      refine (rone_any _).mono ?_
      rintro e w3 ⟨⟨v3, rfl, hv3⟩, hk3⟩
      have H3 := Lib.hid hv3
      have HK3 := Lib.hid (HK2.out.trans hk3)
      clear hv3 hk3
      go_wp2
      go_ret3
      exact ⟨⟨_, _, rfl, WdsAt.nil _, H3.out⟩, HK3.out⟩
set_option maxRecDepth 100000 in
set_option maxHeartbeats 4000000 in
theorem rform_any (neg : Bool) (va vb : Value) (xs ys : List Nat) (w : World) (ha : WdsAt w va xs) (hb : WdsAt w vb ys) (hla : xs.length ≤ 274877906944) (hlb : ys.length ≤ 274877906944) (hd : nv ys ≠ 0) :
    Calls Tryz.prog 68 #[.bool neg, va, vb] w fun e w' => (∃ v, e = .returned v ∧ RatAt w' v (formR neg (nv xs) (nv ys))) ∧ Kept w w' := by
  have HB := Lib.hid (fun W (hk : Kept w W) => nbits_any va xs W (ha.kept hk))
  have HG := Lib.hid (fun W (hk : Kept w W) => ngcd_any va vb xs ys W (ha.kept hk) (hb.kept hk) hla hlb)
  have HD1 : Hid (∀ W vg, Kept w W → WdsAt W vg (nw (Nat.gcd (nv xs) (nv ys))) → Calls Tryz.prog 108 #[va, vg] W fun e w' => (∃ v1 v2, e = .returned (.tuple #[v1, v2, .nilIface]) ∧ WdsAt w' v1 (nw (nv xs / Nat.gcd (nv xs) (nv ys)))) ∧ Kept W w') := Lib.hid fun W vg hk hg =>
    (ndiv_any va vg xs _ W (ha.kept hk) hg hla (by rw [nv_nw]; exact fun h => hd (Nat.eq_zero_of_gcd_eq_zero_right h))).mono fun _ _ ⟨⟨v1, v2, h1, h2, _⟩, h3⟩ => ⟨⟨v1, v2, h1, by rw [nv_nw] at h2; exact h2⟩, h3⟩
  have HD2 : Hid (∀ W vg, Kept w W → WdsAt W vg (nw (Nat.gcd (nv xs) (nv ys))) → Calls Tryz.prog 108 #[vb, vg] W fun e w' => (∃ v1 v2, e = .returned (.tuple #[v1, v2, .nilIface]) ∧ WdsAt w' v1 (nw (nv ys / Nat.gcd (nv xs) (nv ys)))) ∧ Kept W w') := Lib.hid fun W vg hk hg =>
    (ndiv_any vb vg ys _ W (hb.kept hk) hg hlb (by rw [nv_nw]; exact fun h => hd (Nat.eq_zero_of_gcd_eq_zero_right h))).mono fun _ _ ⟨⟨v1, v2, h1, h2, _⟩, h3⟩ => ⟨⟨v1, v2, h1, by rw [nv_nw] at h2; exact h2⟩, h3⟩
  obtain ⟨a0, c0, rfl⟩ := ha.shape
  obtain ⟨a1, c1, rfl⟩ := hb.shape
  generalize xs.length = n0 at *
  generalize ys.length = n1 at *
  obtain ⟨w1, hw1⟩ : ∃ w1, w1 = w.alloc (.cells #[.bool false, .slice none 0 0, .slice none 0 0] 38) := ⟨_, rfl⟩
  have HR : Hid (RowAt w1 w.heap.size 38 [.bool false, .slice none 0 0, .slice none 0 0]) := Lib.hid (by rw [hw1]; exact RowAt.made w #[.bool false, .slice none 0 0, .slice none 0 0] 38)
  have HK0 : Hid (Kept w w1) := Lib.hid (by rw [hw1]; exact (Kept.refl w).alloc _)
  have HFX : Hid (FixAt w1 w.heap.size [.bool false, .slice none 0 0, .slice none 0 0]) := Lib.hid (by rw [hw1]; exact FixAt.made w #[.bool false, .slice none 0 0, .slice none 0 0] 38)
  have HW1 := Lib.hid hw1
  clear hw1 ha hb hla hlb hd
  by_cases h0 : nv xs = 0
  · have hF : formR neg (nv xs) (nv ys) = ⟨false, [], []⟩ := by unfold formR; rw [if_pos h0]
    rw [hF]
    have H0 := Lib.hid h0
    clear hF h0
    go_enter Tryz.func68, Tryz.ntmps68
    go_wp2_with fail
    rw [← HW1.out]
    refine (HB.out _ HK0.out).mono ?_
    rintro e w2 ⟨⟨k, rfl, hk⟩, rfl⟩
    have hk0 : k = 0 := hk.2 H0.out
    subst hk0
    clear hk
    have g0 := HR.out.cell (i := 0) (by simp)
    have g1 := HR.out.cell (i := 1) (by simp)
    have g2 := HR.out.cell (i := 2) (by simp)
    have f0 := HR.out.free 0
    have f1 := HR.out.free 1
    have f2 := HR.out.free 2
    go_wp2
    have hF := (((HR.out.store 0 (.bool false)).store 1 (.slice none 0 0)).store 2 (.slice none 0 0))
    have y0 := hF.cell (i := 0) (by simp)
    have y1 := hF.cell (i := 1) (by simp)
    have y2 := hF.cell (i := 2) (by simp)
    simp only [List.set_cons_zero, List.set_cons_succ, List.getElem_cons_succ, List.getElem_cons_zero] at y0 y1 y2
    refine bodyPost_ret (v := .agg #[.bool false, .slice none 0 0, .slice none 0 0]) ?_ rfl ⟨⟨_, rfl, RatAt.zero _⟩, ?_⟩
    · simp [results, Tryz.results68, go_sem, y0, y1, y2]
    · exact ((HK0.out.store (Nat.le_refl _) _ _).store (Nat.le_refl _) _ _).store (Nat.le_refl _) _ _
  · have hF : formR neg (nv xs) (nv ys) = ⟨neg, nw (nv xs / Nat.gcd (nv xs) (nv ys)), nw (nv ys / Nat.gcd (nv xs) (nv ys))⟩ := by unfold formR; rw [if_neg h0]
    rw [hF]
    have H0 := Lib.hid h0
    clear hF h0
    generalize nw (nv xs / Nat.gcd (nv xs) (nv ys)) = P at *
    generalize nw (nv ys / Nat.gcd (nv xs) (nv ys)) = Q at *
    generalize nw (Nat.gcd (nv xs) (nv ys)) = G at *
    go_enter Tryz.func68, Tryz.ntmps68
    go_wp2_with fail
    rw [← HW1.out]
    refine (HB.out _ HK0.out).mono ?_
    rintro e w2 ⟨⟨k, rfl, hk⟩, rfl⟩
    have hk0 : ((k : Int) == 0) = false := by
      have : k ≠ 0 := fun h => H0.out (hk.1 h)
      simp; exact this
    clear hk
    go_wp2_with fail
    refine (HG.out _ HK0.out).mono ?_
    rintro e w3 ⟨⟨v3, rfl, hv3⟩, hk3⟩
    have HV3 := Lib.hid hv3
    have HK3 := Lib.hid (HK0.out.trans hk3)
    have HR3 := Lib.hid (HR.out.kept hk3)
    have HFX3 := Lib.hid (HFX.out.kept hk3)
    clear hv3 hk3 hk0
    go_wp2_with fail
    refine (HD1.out _ _ HK3.out HV3.out).mono ?_
    rintro e w4 ⟨⟨v4, v5, rfl, hv4⟩, hk4⟩
    have HV4 := Lib.hid hv4
    have HV3' := Lib.hid (HV3.out.kept hk4)
    have HK4 := Lib.hid (HK3.out.trans hk4)
    have HR4 := Lib.hid (HR3.out.kept hk4)
    have HFX4 := Lib.hid (HFX3.out.kept hk4)
    clear hv4 hk4
    go_wp2_with fail
    refine (HD2.out _ _ HK4.out HV3'.out).mono ?_
    rintro e w5 ⟨⟨v6, v7, rfl, hv6⟩, hk5⟩
    have HV6 := Lib.hid hv6
    have HV4' := Lib.hid (HV4.out.kept hk5)
    have HK5 := Lib.hid (HK4.out.trans hk5)
    have HR5 := Lib.hid (HR4.out.kept hk5)
    have HFX5 := Lib.hid (HFX4.out.kept hk5)
    clear hv6 hk5
    obtain ⟨a4, c4, rfl⟩ := HV4'.out.shape
    obtain ⟨a6, c6, rfl⟩ := HV6.out.shape
    have g0 := HR5.out.cell (i := 0) (by simp)
    have g1 := HR5.out.cell (i := 1) (by simp)
    have g2 := HR5.out.cell (i := 2) (by simp)
    have f0 := HR5.out.free 0
    have f1 := HR5.out.free 1
    have f2 := HR5.out.free 2
    go_wp2
    have hF := (((HR5.out.store 0 (.bool neg)).store 1 (.slice a4 P.length c4)).store 2 (.slice a6 Q.length c6))
    have y0 := hF.cell (i := 0) (by simp)
    have y1 := hF.cell (i := 1) (by simp)
    have y2 := hF.cell (i := 2) (by simp)
    simp only [List.set_cons_zero, List.set_cons_succ, List.getElem_cons_succ, List.getElem_cons_zero] at y0 y1 y2
    have hO := (((OnlyAt.refl w.heap.size w5).store 0 (.bool neg)).store 1 (.slice a4 P.length c4)).store 2 (.slice a6 Q.length c6)
    have z1 := HV4'.out.apart HFX5.out (by simp) hO
    have z2 := HV6.out.apart HFX5.out (by simp) hO
    refine bodyPost_ret (v := .agg #[.bool neg, .slice a4 P.length c4, .slice a6 Q.length c6]) ?_ rfl ⟨⟨_, rfl, ⟨_, _, rfl, z1, z2⟩⟩, ?_⟩
    · simp [results, Tryz.results68, go_sem, y0, y1, y2]
    · exact ((HK5.out.store (Nat.le_refl _) _ _).store (Nat.le_refl _) _ _).store (Nat.le_refl _) _ _
end Go.Proofs.YtpaedhlacbpmpaaGreatDoor

/-
  Walks: rational.Neg, Sign, Mul: in numbers.
-/
namespace Go.Proofs.YtpaedhlacbpmpaaGreatDoor
open Go.RowKit

theorem parts_short {r : Rw} {k : Nat} (h : r.Short k) (hk : 1 ≤ k) : (partsR r).2.1.length ≤ k ∧ (partsR r).2.2.length ≤ k := by
  unfold partsR
  split
  · exact h
  · exact ⟨by simp, by simpa using hk⟩
theorem ratOf_neg (r : Rw) : mkRat (sg (!(partsR r).1) (nv (partsR r).2.1)) (nv (partsR r).2.2) = - ratOf r := by
  unfold ratOf; rw [sg_not, Rat.neg_mkRat]
theorem ratOf_mul {r s : Rw} : mkRat (sg ((partsR r).1 != (partsR s).1) (nv (partsR r).2.1 * nv (partsR s).2.1)) (nv (partsR r).2.2 * nv (partsR s).2.2) = ratOf r * ratOf s := by
  unfold ratOf; rw [sg_mul, Rat.mkRat_mul_mkRat]
theorem ratOf_add {r s : Rw} (hr : r.Ok) (hs : s.Ok) (h : (partsR r).1 = (partsR s).1) : mkRat (sg (partsR r).1 (nv (partsR r).2.1 * nv (partsR s).2.2 + nv (partsR s).2.1 * nv (partsR r).2.2)) (nv (partsR r).2.2 * nv (partsR s).2.2) = ratOf r + ratOf s := by
  unfold ratOf
  rw [Rat.mkRat_add_mkRat _ _ (partsR_ok hr).2.2.1 (partsR_ok hs).2.2.1, sg_add, sg_scale, h, sg_scale]
theorem ratOf_sub {r s : Rw} (hr : r.Ok) (hs : s.Ok) (h : (partsR r).1 ≠ (partsR s).1) (hle : nv (partsR s).2.1 * nv (partsR r).2.2 ≤ nv (partsR r).2.1 * nv (partsR s).2.2) : mkRat (sg (partsR r).1 (nv (partsR r).2.1 * nv (partsR s).2.2 - nv (partsR s).2.1 * nv (partsR r).2.2)) (nv (partsR r).2.2 * nv (partsR s).2.2) = ratOf r + ratOf s := by
  unfold ratOf
  rw [Rat.mkRat_add_mkRat _ _ (partsR_ok hr).2.2.1 (partsR_ok hs).2.2.1, sg_sub h hle, sg_scale, sg_scale]
theorem ratOf_sub' {r s : Rw} (hr : r.Ok) (hs : s.Ok) (h : (partsR r).1 ≠ (partsR s).1) (hle : nv (partsR r).2.1 * nv (partsR s).2.2 ≤ nv (partsR s).2.1 * nv (partsR r).2.2) : mkRat (sg (partsR s).1 (nv (partsR s).2.1 * nv (partsR r).2.2 - nv (partsR r).2.1 * nv (partsR s).2.2)) (nv (partsR r).2.2 * nv (partsR s).2.2) = ratOf r + ratOf s := by
  unfold ratOf
  rw [Rat.mkRat_add_mkRat _ _ (partsR_ok hr).2.2.1 (partsR_ok hs).2.2.1, sg_sub' h hle, sg_scale, sg_scale]
theorem sign_ratOf {r : Rw} (hr : r.Ok) : ((partsR r).2.1.length = 0 ↔ ratOf r = 0) ∧ ((partsR r).2.1.length ≠ 0 → ((partsR r).1 = true ↔ ratOf r < 0)) := by
  have hok := partsR_ok hr
  have h0 : (partsR r).2.1.length = 0 ↔ nv (partsR r).2.1 = 0 := by
    constructor
    · intro h; rw [List.eq_nil_of_length_eq_zero h]; rfl
    · intro h
      have := nw_nv hok.1 hok.2.2.2.1
      rw [h, nw_zero] at this
      rw [← this]; rfl
  have h1 : ratOf r = 0 ↔ nv (partsR r).2.1 = 0 := by
    unfold ratOf
    rw [Rat.mkRat_eq_zero hok.2.2.1]
    constructor
    · intro h; have := sg_abs (partsR r).1 (nv (partsR r).2.1); rw [h] at this; simpa using this.symm
    · intro h; rw [h]; exact sg_zero _
  refine ⟨h0.trans h1.symm, fun hne => ?_⟩
  have hn : nv (partsR r).2.1 ≠ 0 := fun h => hne (h0.2 h)
  unfold ratOf
  have h2 : mkRat (sg (partsR r).1 (nv (partsR r).2.1)) (nv (partsR r).2.2) < 0 ↔ sg (partsR r).1 (nv (partsR r).2.1) < 0 := by
    have hd : (0 : Int) < (nv (partsR r).2.2 : Int) := by have := hok.2.2.1; omega
    rw [← Rat.divInt_ofNat, ← Int.not_le, ← Rat.not_le]
    rw [show (0 ≤ Rat.divInt (sg (partsR r).1 (nv (partsR r).2.1)) (nv (partsR r).2.2 : Int)) ↔ 0 ≤ sg (partsR r).1 (nv (partsR r).2.1) from Rat.divInt_nonneg_iff_of_pos_right hd]
  rw [h2]
  unfold sg
  cases (partsR r).1 with
  | true => simp; omega
  | false => simp
/-- A fraction that has been stored into its own cells. -/
theorem rat_stored {w : World} {g : Nat} {T : TypeId} {v1 v2 : Value} {r : Rw} (hr : RowAt w g T [.bool false, .slice none 0 0, .slice none 0 0]) (hf : FixAt w g [.bool false, .slice none 0 0, .slice none 0 0]) (h1 : WdsAt w v1 r.num) (h2 : WdsAt w v2 r.den) :
    (((w.setCell ⟨g, 0, none⟩ (.bool r.neg)).setCell ⟨g, 1, none⟩ v1).setCell ⟨g, 2, none⟩ v2).cell? ⟨g, 0, none⟩ = some (.bool r.neg) ∧
    (((w.setCell ⟨g, 0, none⟩ (.bool r.neg)).setCell ⟨g, 1, none⟩ v1).setCell ⟨g, 2, none⟩ v2).cell? ⟨g, 1, none⟩ = some v1 ∧
    (((w.setCell ⟨g, 0, none⟩ (.bool r.neg)).setCell ⟨g, 1, none⟩ v1).setCell ⟨g, 2, none⟩ v2).cell? ⟨g, 2, none⟩ = some v2 ∧
    RatAt (((w.setCell ⟨g, 0, none⟩ (.bool r.neg)).setCell ⟨g, 1, none⟩ v1).setCell ⟨g, 2, none⟩ v2) (.agg #[.bool r.neg, v1, v2]) r := by
  have hF := (((hr.store 0 (.bool r.neg)).store 1 v1).store 2 v2)
  have y0 := hF.cell (i := 0) (by simp)
  have y1 := hF.cell (i := 1) (by simp)
  have y2 := hF.cell (i := 2) (by simp)
  simp only [List.set_cons_zero, List.set_cons_succ, List.getElem_cons_succ, List.getElem_cons_zero] at y0 y1 y2
  have hO := (((OnlyAt.refl g w).store 0 (.bool r.neg)).store 1 v1).store 2 v2
  exact ⟨y0, y1, y2, _, _, rfl, h1.apart hf (by simp) hO, h2.apart hf (by simp) hO⟩
end Go.Proofs.YtpaedhlacbpmpaaGreatDoor

/-
  Walks: rational.Neg, Sign, Mul, Add.
-/
namespace Go.Proofs.YtpaedhlacbpmpaaGreatDoor
open Go.RowKit

theorem res_made (w : World) (box : Obj) : RowAt ((w.alloc box).alloc (.cells #[.bool false, .slice none 0 0, .slice none 0 0] 38)) (w.heap.size + 1) 38 [.bool false, .slice none 0 0, .slice none 0 0] ∧ FixAt ((w.alloc box).alloc (.cells #[.bool false, .slice none 0 0, .slice none 0 0] 38)) (w.heap.size + 1) [.bool false, .slice none 0 0, .slice none 0 0] ∧ Kept w ((w.alloc box).alloc (.cells #[.bool false, .slice none 0 0, .slice none 0 0] 38)) := by
  have h1 := RowAt.made (w.alloc box) #[.bool false, .slice none 0 0, .slice none 0 0] 38
  have h2 := FixAt.made (w.alloc box) #[.bool false, .slice none 0 0, .slice none 0 0] 38
  simp only [World.size_alloc] at h1 h2
  exact ⟨h1, h2, ((Kept.refl w).alloc _).alloc _⟩
theorem res_made2 (w : World) (b1 b2 : Obj) : RowAt (((w.alloc b1).alloc b2).alloc (.cells #[.bool false, .slice none 0 0, .slice none 0 0] 38)) (w.heap.size + 1 + 1) 38 [.bool false, .slice none 0 0, .slice none 0 0] ∧ FixAt (((w.alloc b1).alloc b2).alloc (.cells #[.bool false, .slice none 0 0, .slice none 0 0] 38)) (w.heap.size + 1 + 1) [.bool false, .slice none 0 0, .slice none 0 0] ∧ Kept w (((w.alloc b1).alloc b2).alloc (.cells #[.bool false, .slice none 0 0, .slice none 0 0] 38)) := by
  have h1 := RowAt.made ((w.alloc b1).alloc b2) #[.bool false, .slice none 0 0, .slice none 0 0] 38
  have h2 := FixAt.made ((w.alloc b1).alloc b2) #[.bool false, .slice none 0 0, .slice none 0 0] 38
  simp only [World.size_alloc] at h1 h2
  exact ⟨h1, h2, (((Kept.refl w).alloc _).alloc _).alloc _⟩
set_option maxRecDepth 100000 in
set_option maxHeartbeats 4000000 in
theorem rneg_any (v : Value) (r : Rw) (w : World) (hv : RatAt w v r) (hs : r.Short 274877906944) : Calls Tryz.prog 57 #[v] w fun e w' => (∃ v', e = .returned v' ∧ RatAt w' v' (canR (- ratOf r))) ∧ Kept w w' := by
  have HPA := Lib.hid (fun W (hk : Kept w W) => rparts_any v r W (hv.kept hk) hs)
  have hok := partsR_ok hv.ok
  have hsh := parts_short hs (by omega)
  obtain ⟨R, hR⟩ : ∃ R, R = canR (- ratOf r) := ⟨_, rfl⟩
  have HFO : Hid (∀ W u1 u2, WdsAt W u1 (partsR r).2.1 → WdsAt W u2 (partsR r).2.2 → Calls Tryz.prog 68 #[.bool (!(partsR r).1), u1, u2] W fun e w' => (∃ v, e = .returned v ∧ RatAt w' v R) ∧ Kept W w') := Lib.hid fun W u1 u2 k1 k2 => by
    have h := rform_any (!(partsR r).1) u1 u2 _ _ W k1 k2 hsh.1 hsh.2 hok.2.2.1
    rw [form_can _ _ _ hok.2.2.1, ratOf_neg, ← hR] at h
    exact h
  rw [← hR]
  obtain ⟨u1, u2, rfl, h1, h2⟩ := hv
  obtain ⟨a1, c1, rfl⟩ := h1.shape
  obtain ⟨a2, c2, rfl⟩ := h2.shape
  obtain ⟨w2, hw2⟩ : ∃ w2, w2 = (w.alloc (.cells #[.bool r.neg, .slice a1 r.num.length c1, .slice a2 r.den.length c2] 38)).alloc (.cells #[.bool false, .slice none 0 0, .slice none 0 0] 38) := ⟨_, rfl⟩
  have HM := Lib.hid (res_made w (.cells #[.bool r.neg, .slice a1 r.num.length c1, .slice a2 r.den.length c2] 38))
  rw [← hw2] at HM
  have HW2 := Lib.hid hw2
  generalize (partsR r).1 = s at *
  generalize (partsR r).2.1 = N at *
  generalize (partsR r).2.2 = D at *
  generalize r.num.length = n1 at *
  generalize r.den.length = n2 at *
  generalize r.neg = neg at *
  clear hok hsh hR h1 h2 hs hw2
  go_enter Tryz.func57, Tryz.ntmps57
  go_wp2_with fail
  rw [← HW2.out]
  refine (HPA.out _ HM.out.2.2).mono ?_
  rintro e w3 ⟨⟨u3, u4, rfl, hu3, hu4⟩, hk3⟩
  have H3 := Lib.hid hu3
  have H4 := Lib.hid hu4
  have HR3 := Lib.hid (HM.out.1.kept hk3)
  have HF3 := Lib.hid (HM.out.2.1.kept hk3)
  have HK3 := Lib.hid (HM.out.2.2.trans hk3)
  clear hu3 hu4 hk3
  go_wp2_with fail
  refine (HFO.out _ _ _ H3.out H4.out).mono ?_
  rintro e w4 ⟨⟨v4, rfl, hv4⟩, hk4⟩
  have HV4 := Lib.hid hv4
  have hr4 := HR3.out.kept hk4
  have HR4 := Lib.hid hr4
  have HF4 := Lib.hid (HF3.out.kept hk4)
  have HK4 := Lib.hid (HK3.out.trans hk4)
  obtain ⟨u5, u6, rfl, k5, k6⟩ := hv4
  obtain ⟨a5, c5, rfl⟩ := k5.shape
  obtain ⟨a6, c6, rfl⟩ := k6.shape
  obtain ⟨y0, y1, y2, hra⟩ := rat_stored hr4 HF4.out k5 k6
  have g0 := hr4.cell (i := 0) (by simp)
  have g1 := hr4.cell (i := 1) (by simp)
  have g2 := hr4.cell (i := 2) (by simp)
  have f0 := hr4.free 0
  have f1 := hr4.free 1
  have f2 := hr4.free 2
  have HRA := Lib.hid hra
  have Y0 := Lib.hid y0
  have Y1 := Lib.hid y1
  have Y2 := Lib.hid y2
  clear hra y0 y1 y2 k5 k6 hr4 hk4
  generalize R.num.length = n5 at *
  generalize R.den.length = n6 at *
  go_wp2
  refine bodyPost_ret (v := .agg #[.bool R.neg, .slice a5 n5 c5, .slice a6 n6 c6]) ?_ rfl ⟨⟨_, rfl, HRA.out⟩, ?_⟩
  · simp [results, Tryz.results57, go_sem, Y0.out, Y1.out, Y2.out]
  · exact ((HK4.out.store (by omega) _ _).store (by omega) _ _).store (by omega) _ _
end Go.Proofs.YtpaedhlacbpmpaaGreatDoor

/-
  Walks: rational.Sign, Mul, Add.
-/
namespace Go.Proofs.YtpaedhlacbpmpaaGreatDoor
open Go.RowKit

/-- The sign of a number. -/
def sgnR (q : Rat) : Int := if q = 0 then 0 else if q < 0 then -1 else 1
set_option maxRecDepth 100000 in
set_option maxHeartbeats 4000000 in
theorem rsign_any (v : Value) (r : Rw) (w : World) (hv : RatAt w v r) (hs : r.Short 274877906944) : Calls Tryz.prog 37 #[v] w fun e w' => e = .returned (.int .i64 (sgnR (ratOf r))) ∧ Kept w w' := by
  have HPA := Lib.hid (fun W (hk : Kept w W) => rparts_any v r W (hv.kept hk) hs)
  obtain ⟨k1, k2⟩ := sign_ratOf hv.ok
  obtain ⟨u1, u2, rfl, h1, h2⟩ := hv
  obtain ⟨a1, c1, rfl⟩ := h1.shape
  obtain ⟨a2, c2, rfl⟩ := h2.shape
  have HK0 : Hid (Kept w (w.alloc (.cells #[.bool r.neg, .slice a1 r.num.length c1, .slice a2 r.den.length c2] 38))) := Lib.hid ((Kept.refl w).alloc _)
  obtain ⟨ln, hln⟩ : ∃ ln, ln = (partsR r).2.1.length := ⟨_, rfl⟩
  have HLN := Lib.hid hln
  rw [← hln] at k1 k2
  obtain ⟨S, hS⟩ : ∃ S, S = sgnR (ratOf r) := ⟨_, rfl⟩
  rw [← hS]
  have hSS : S = if ln = 0 then 0 else if (partsR r).1 = true then -1 else 1 := by
    rw [hS]
    unfold sgnR
    by_cases h : ln = 0
    · rw [if_pos h, if_pos (k1.1 h)]
    · rw [if_neg h, if_neg (fun e => h (k1.2 e))]
      by_cases h3 : (partsR r).1 = true
      · rw [if_pos h3, if_pos ((k2 h).1 h3)]
      · rw [if_neg h3, if_neg (fun e => h3 ((k2 h).2 e))]
  generalize (partsR r).1 = s at *
  generalize (partsR r).2.1 = N at *
  generalize (partsR r).2.2 = D at *
  generalize r.num.length = n1 at *
  generalize r.den.length = n2 at *
  generalize r.neg = neg at *
  clear h1 h2 hs hS k1 k2 hln
  by_cases h0 : ln = 0
  · have hE : S = 0 := by rw [hSS, if_pos h0]
    subst h0 hE
    clear hSS
    go_enter Tryz.func37, Tryz.ntmps37
    go_wp2_with fail
    refine (HPA.out _ HK0.out).mono ?_
    rintro e w3 ⟨⟨u3, u4, rfl, hu3, hu4⟩, hk3⟩
    obtain ⟨a3, c3, rfl⟩ := hu3.shape
    rw [← HLN.out]
    have HK3 := Lib.hid (HK0.out.trans hk3)
    clear hu3 hu4 hk3
    go_wp2
    go_ret
    exact ⟨rfl, HK3.out⟩
  · have hb : ((ln : Int) == 0) = false := by simp; exact h0
    cases s with
    | true =>
      have hE : S = -1 := by rw [hSS, if_neg h0, if_pos rfl]
      subst hE
      clear hSS h0
      go_enter Tryz.func37, Tryz.ntmps37
      go_wp2_with fail
      refine (HPA.out _ HK0.out).mono ?_
      rintro e w3 ⟨⟨u3, u4, rfl, hu3, hu4⟩, hk3⟩
      obtain ⟨a3, c3, rfl⟩ := hu3.shape
      rw [← HLN.out]
      have HK3 := Lib.hid (HK0.out.trans hk3)
      clear hu3 hu4 hk3
      go_wp2
      go_ret
      exact ⟨rfl, HK3.out⟩
    | false =>
      have hE : S = 1 := by rw [hSS, if_neg h0, if_neg (by simp)]
      subst hE
      clear hSS h0
      go_enter Tryz.func37, Tryz.ntmps37
      go_wp2_with fail
      refine (HPA.out _ HK0.out).mono ?_
      rintro e w3 ⟨⟨u3, u4, rfl, hu3, hu4⟩, hk3⟩
      obtain ⟨a3, c3, rfl⟩ := hu3.shape
      rw [← HLN.out]
      have HK3 := Lib.hid (HK0.out.trans hk3)
      clear hu3 hu4 hk3
      go_wp2
      go_ret
      exact ⟨rfl, HK3.out⟩
theorem nw_mul_len {xs ys : List Nat} (hx : Wd xs) (hy : Wd ys) : (nw (nv xs * nv ys)).length ≤ xs.length + ys.length := by
  refine nw_len_lt.2 ?_
  rw [Nat.pow_add]
  exact Nat.mul_lt_mul'' (nv_lt hx) (nv_lt hy)
set_option maxRecDepth 100000 in
set_option maxHeartbeats 4000000 in
theorem rmul_any (va vb : Value) (r s : Rw) (w : World) (ha : RatAt w va r) (hb : RatAt w vb s) (hr : r.Short 137438953472) (hs : s.Short 137438953472) : Calls Tryz.prog 26 #[va, vb] w fun e w' => (∃ v', e = .returned v' ∧ RatAt w' v' (canR (ratOf r * ratOf s))) ∧ Kept w w' := by
  have HP1 := Lib.hid (fun W (hk : Kept w W) => rparts_any va r W (ha.kept hk) ⟨Nat.le_trans hr.1 (by omega), Nat.le_trans hr.2 (by omega)⟩)
  have HP2 := Lib.hid (fun W (hk : Kept w W) => rparts_any vb s W (hb.kept hk) ⟨Nat.le_trans hs.1 (by omega), Nat.le_trans hs.2 (by omega)⟩)
  have hok1 := partsR_ok ha.ok
  have hok2 := partsR_ok hb.ok
  have hsh1 := parts_short hr (by omega)
  have hsh2 := parts_short hs (by omega)
  obtain ⟨R, hR⟩ : ∃ R, R = canR (ratOf r * ratOf s) := ⟨_, rfl⟩
  obtain ⟨x, hx⟩ : ∃ x, x = ((partsR r).1 != (partsR s).1) := ⟨_, rfl⟩
  have HFO : Hid (∀ W u1 u2, WdsAt W u1 (nw (nv (partsR r).2.1 * nv (partsR s).2.1)) → WdsAt W u2 (nw (nv (partsR r).2.2 * nv (partsR s).2.2)) → Calls Tryz.prog 68 #[.bool x, u1, u2] W fun e w' => (∃ v, e = .returned v ∧ RatAt w' v R) ∧ Kept W w') := Lib.hid fun W u1 u2 k1 k2 => by
    have hd : nv (partsR r).2.2 * nv (partsR s).2.2 ≠ 0 := Nat.mul_ne_zero hok1.2.2.1 hok2.2.2.1
    have h := rform_any x u1 u2 _ _ W k1 k2 (Nat.le_trans (nw_mul_len hok1.1 hok2.1) (by omega)) (Nat.le_trans (nw_mul_len hok1.2.1 hok2.2.1) (by omega)) (by rw [nv_nw]; exact hd)
    rw [nv_nw, nv_nw, form_can _ _ _ hd, hx, ratOf_mul, ← hR] at h
    rw [hx]
    exact h
  have HM1 : Hid (∀ W u1 u2, WdsAt W u1 (partsR r).2.1 → WdsAt W u2 (partsR s).2.1 → Calls Tryz.prog 67 #[u1, u2] W fun e w' => (∃ v', e = .returned v' ∧ WdsAt w' v' (nw (nv (partsR r).2.1 * nv (partsR s).2.1))) ∧ Kept W w') := Lib.hid fun W u1 u2 k1 k2 => nmul_any u1 u2 _ _ W k1 k2 (by omega) (by omega)
  have HM2 : Hid (∀ W u1 u2, WdsAt W u1 (partsR r).2.2 → WdsAt W u2 (partsR s).2.2 → Calls Tryz.prog 67 #[u1, u2] W fun e w' => (∃ v', e = .returned v' ∧ WdsAt w' v' (nw (nv (partsR r).2.2 * nv (partsR s).2.2))) ∧ Kept W w') := Lib.hid fun W u1 u2 k1 k2 => nmul_any u1 u2 _ _ W k1 k2 (by omega) (by omega)
  rw [← hR]
  obtain ⟨u1, u2, rfl, h1, h2⟩ := ha
  obtain ⟨u3, u4, rfl, h3, h4⟩ := hb
  obtain ⟨a1, c1, rfl⟩ := h1.shape
  obtain ⟨a2, c2, rfl⟩ := h2.shape
  obtain ⟨a3, c3, rfl⟩ := h3.shape
  obtain ⟨a4, c4, rfl⟩ := h4.shape
  obtain ⟨w2, hw2⟩ : ∃ w2, w2 = ((w.alloc (.cells #[.bool r.neg, .slice a1 r.num.length c1, .slice a2 r.den.length c2] 38)).alloc (.cells #[.bool s.neg, .slice a3 s.num.length c3, .slice a4 s.den.length c4] 38)).alloc (.cells #[.bool false, .slice none 0 0, .slice none 0 0] 38) := ⟨_, rfl⟩
  have HM := Lib.hid (res_made2 w (.cells #[.bool r.neg, .slice a1 r.num.length c1, .slice a2 r.den.length c2] 38) (.cells #[.bool s.neg, .slice a3 s.num.length c3, .slice a4 s.den.length c4] 38))
  rw [← hw2] at HM
  have hb2 := RowAt.made (w.alloc (.cells #[.bool r.neg, .slice a1 r.num.length c1, .slice a2 r.den.length c2] 38)) #[.bool s.neg, .slice a3 s.num.length c3, .slice a4 s.den.length c4] 38
  simp only [World.size_alloc] at hb2
  have HB2 : Hid (RowAt w2 (w.heap.size + 1) 38 [.bool s.neg, .slice a3 s.num.length c3, .slice a4 s.den.length c4]) := Lib.hid (by rw [hw2]; exact hb2.kept ((Kept.refl _).alloc _))
  have HW2 := Lib.hid hw2
  generalize nw (nv (partsR r).2.1 * nv (partsR s).2.1) = NM at *
  generalize nw (nv (partsR r).2.2 * nv (partsR s).2.2) = DE at *
  generalize (partsR r).1 = s1 at *
  generalize (partsR s).1 = s2 at *
  generalize (partsR r).2.1 = N at *
  generalize (partsR r).2.2 = D at *
  generalize (partsR s).2.1 = M at *
  generalize (partsR s).2.2 = E at *
  generalize r.num.length = n1 at *
  generalize r.den.length = n2 at *
  generalize s.num.length = n3 at *
  generalize s.den.length = n4 at *
  generalize r.neg = neg1 at *
  generalize s.neg = neg2 at *
  have hx1 : (s1 != s2) = x := hx.symm
  have hx2 : (s1 == s2) = !x := by rw [hx]; simp [bne]
  clear hok1 hok2 hsh1 hsh2 hR h1 h2 h3 h4 hr hs hw2 hb2 hx
  go_enter Tryz.func26, Tryz.ntmps26
  go_wp2_with fail
  rw [← HW2.out]
  refine (HP1.out _ HM.out.2.2).mono ?_
  rintro e w3 ⟨⟨u3, u4, rfl, hu3, hu4⟩, hk3⟩
  have HN := Lib.hid hu3
  have HD := Lib.hid hu4
  have HR3 := Lib.hid (HM.out.1.kept hk3)
  have HF3 := Lib.hid (HM.out.2.1.kept hk3)
  have hb3 := HB2.out.kept hk3
  have g0 := hb3.cell (i := 0) (by simp)
  have g1 := hb3.cell (i := 1) (by simp)
  have g2 := hb3.cell (i := 2) (by simp)
  simp only [List.getElem_cons_succ, List.getElem_cons_zero] at g0 g1 g2
  have HK3 := Lib.hid (HM.out.2.2.trans hk3)
  clear hu3 hu4 hk3 hb3
  go_wp2_with fail
  refine (HP2.out _ HK3.out).mono ?_
  rintro e w4 ⟨⟨u5, u6, rfl, hu5, hu6⟩, hk4⟩
  have HN' := Lib.hid (HN.out.kept hk4)
  have HD' := Lib.hid (HD.out.kept hk4)
  have HMM := Lib.hid hu5
  have HEE := Lib.hid hu6
  have HR4 := Lib.hid (HR3.out.kept hk4)
  have HF4 := Lib.hid (HF3.out.kept hk4)
  have HK4 := Lib.hid (HK3.out.trans hk4)
  clear hu5 hu6 hk4 g0 g1 g2
  go_wp2_with fail
  refine (HM1.out _ _ _ HN'.out HMM.out).mono ?_
  rintro e w5 ⟨⟨v5, rfl, hv5⟩, hk5⟩
  have HV5 := Lib.hid hv5
  have HR5 := Lib.hid (HR4.out.kept hk5)
  have HF5 := Lib.hid (HF4.out.kept hk5)
  have HD5 := Lib.hid (HD'.out.kept hk5)
  have HE5 := Lib.hid (HEE.out.kept hk5)
  have HK5 := Lib.hid (HK4.out.trans hk5)
  clear hv5 hk5
  go_wp2_with fail
  refine (HM2.out _ _ _ HD5.out HE5.out).mono ?_
  rintro e w6 ⟨⟨v6, rfl, hv6⟩, hk6⟩
  have HV6 := Lib.hid hv6
  have HV5' := Lib.hid (HV5.out.kept hk6)
  have HR6 := Lib.hid (HR5.out.kept hk6)
  have HF6 := Lib.hid (HF5.out.kept hk6)
  have HK6 := Lib.hid (HK5.out.trans hk6)
  clear hv6 hk6
  go_wp2_with fail
  first
    | (refine (HFO.out _ _ _ HV5'.out HV6.out).mono ?_)
    | (rw [hx1]; refine (HFO.out _ _ _ HV5'.out HV6.out).mono ?_)
  rintro e w7 ⟨⟨v7, rfl, hv7⟩, hk7⟩
  have HV7 := Lib.hid hv7
  have hr7 := HR6.out.kept hk7
  have HF7 := Lib.hid (HF6.out.kept hk7)
  have HK7 := Lib.hid (HK6.out.trans hk7)
  obtain ⟨u7, u8, rfl, k7, k8⟩ := hv7
  obtain ⟨a7, c7, rfl⟩ := k7.shape
  obtain ⟨a8, c8, rfl⟩ := k8.shape
  obtain ⟨y0, y1, y2, hra⟩ := rat_stored hr7 HF7.out k7 k8
  have g0 := hr7.cell (i := 0) (by simp)
  have g1 := hr7.cell (i := 1) (by simp)
  have g2 := hr7.cell (i := 2) (by simp)
  have f0 := hr7.free 0
  have f1 := hr7.free 1
  have f2 := hr7.free 2
  have HRA := Lib.hid hra
  have Y0 := Lib.hid y0
  have Y1 := Lib.hid y1
  have Y2 := Lib.hid y2
  clear hra y0 y1 y2 k7 k8 hr7 hk7
  generalize R.num.length = n7 at *
  generalize R.den.length = n8 at *
  go_wp2
  refine bodyPost_ret (v := .agg #[.bool R.neg, .slice a7 n7 c7, .slice a8 n8 c8]) ?_ rfl ⟨⟨_, rfl, HRA.out⟩, ?_⟩
  · simp [results, Tryz.results26, go_sem, Y0.out, Y1.out, Y2.out]
  · exact ((HK7.out.store (by omega) _ _).store (by omega) _ _).store (by omega) _ _
end Go.Proofs.YtpaedhlacbpmpaaGreatDoor

/-
  Walks: rational.Add. Printed by gen_A24.py.
-/
namespace Go.Proofs.YtpaedhlacbpmpaaGreatDoor
open Go.RowKit

theorem nw_add_len {p q k : Nat} (hp : (nw p).length ≤ k) (hq : (nw q).length ≤ k) : (nw (p + q)).length ≤ k + 1 := by
  have hp := nw_len_lt.1 hp
  have hq := nw_len_lt.1 hq
  refine nw_len_lt.2 ?_
  rw [Nat.pow_succ]
  omega
theorem nw_mono_len {p q : Nat} (h : p ≤ q) : (nw p).length ≤ (nw q).length := nw_len_lt.2 (Nat.lt_of_le_of_lt h (nw_len_lt.1 (Nat.le_refl _)))
set_option maxRecDepth 100000 in
set_option maxHeartbeats 4000000 in
theorem radd_same (va vb : Value) (r s : Rw) (w : World) (ha : RatAt w va r) (hb : RatAt w vb s) (hr : r.Short 68719476736) (hs : s.Short 68719476736) (hss : (partsR r).1 = (partsR s).1) : Calls Tryz.prog 24 #[va, vb] w fun e w' => (∃ v', e = .returned v' ∧ RatAt w' v' (canR (ratOf r + ratOf s))) ∧ Kept w w' := by
  have HP1 := Lib.hid (fun W (hk : Kept w W) => rparts_any va r W (ha.kept hk) ⟨Nat.le_trans hr.1 (by omega), Nat.le_trans hr.2 (by omega)⟩)
  have HP2 := Lib.hid (fun W (hk : Kept w W) => rparts_any vb s W (hb.kept hk) ⟨Nat.le_trans hs.1 (by omega), Nat.le_trans hs.2 (by omega)⟩)
  have hok1 := partsR_ok ha.ok
  have hok2 := partsR_ok hb.ok
  have hsh1 := parts_short hr (by omega)
  have hsh2 := parts_short hs (by omega)
  obtain ⟨R, hR⟩ : ∃ R, R = canR (ratOf r + ratOf s) := ⟨_, rfl⟩
  obtain ⟨p, hp⟩ : ∃ p, p = nv (partsR r).2.1 * nv (partsR s).2.2 := ⟨_, rfl⟩
  obtain ⟨q, hq⟩ : ∃ q, q = nv (partsR s).2.1 * nv (partsR r).2.2 := ⟨_, rfl⟩
  obtain ⟨d, hd⟩ : ∃ d, d = nv (partsR r).2.2 * nv (partsR s).2.2 := ⟨_, rfl⟩
  have hlp : (nw p).length ≤ 137438953472 := by rw [hp]; exact Nat.le_trans (nw_mul_len hok1.1 hok2.2.1) (by omega)
  have hlq : (nw q).length ≤ 137438953472 := by rw [hq]; exact Nat.le_trans (nw_mul_len hok2.1 hok1.2.1) (by omega)
  have hld : (nw d).length ≤ 137438953472 := by rw [hd]; exact Nat.le_trans (nw_mul_len hok1.2.1 hok2.2.1) (by omega)
  have hd0 : d ≠ 0 := by rw [hd]; exact Nat.mul_ne_zero hok1.2.2.1 hok2.2.2.1
  have HAD : Hid (∀ W u1 u2, WdsAt W u1 (nw p) → WdsAt W u2 (nw q) → Calls Tryz.prog 69 #[u1, u2] W fun e w' => (∃ v', e = .returned v' ∧ WdsAt w' v' (nw (p + q))) ∧ Kept W w') := Lib.hid fun W u1 u2 k1 k2 => by
    have h := nadd_any u1 u2 _ _ W k1 k2 (by omega) (by omega)
    rw [nv_nw, nv_nw] at h
    exact h
  have HFO : Hid (∀ W u1 u2, WdsAt W u1 (nw (p + q)) → WdsAt W u2 (nw d) → Calls Tryz.prog 68 #[.bool (partsR r).1, u1, u2] W fun e w' => (∃ v, e = .returned v ∧ RatAt w' v R) ∧ Kept W w') := Lib.hid fun W u1 u2 k1 k2 => by
    have h := rform_any (partsR r).1 u1 u2 _ _ W k1 k2 (Nat.le_trans (nw_add_len hlp hlq) (by omega)) (Nat.le_trans hld (by omega)) (by rw [nv_nw]; exact hd0)
    rw [nv_nw, nv_nw, form_can _ _ _ hd0, hp, hq, hd, ratOf_add ha.ok hb.ok hss, ← hR] at h
    exact h
  have HM1 : Hid (∀ W u1 u2, WdsAt W u1 (partsR r).2.1 → WdsAt W u2 (partsR s).2.2 → Calls Tryz.prog 67 #[u1, u2] W fun e w' => (∃ v', e = .returned v' ∧ WdsAt w' v' (nw p)) ∧ Kept W w') := Lib.hid fun W u1 u2 k1 k2 => by rw [hp]; exact nmul_any u1 u2 _ _ W k1 k2 (by omega) (by omega)
  have HM2 : Hid (∀ W u1 u2, WdsAt W u1 (partsR s).2.1 → WdsAt W u2 (partsR r).2.2 → Calls Tryz.prog 67 #[u1, u2] W fun e w' => (∃ v', e = .returned v' ∧ WdsAt w' v' (nw q)) ∧ Kept W w') := Lib.hid fun W u1 u2 k1 k2 => by rw [hq]; exact nmul_any u1 u2 _ _ W k1 k2 (by omega) (by omega)
  have HM3 : Hid (∀ W u1 u2, WdsAt W u1 (partsR r).2.2 → WdsAt W u2 (partsR s).2.2 → Calls Tryz.prog 67 #[u1, u2] W fun e w' => (∃ v', e = .returned v' ∧ WdsAt w' v' (nw d)) ∧ Kept W w') := Lib.hid fun W u1 u2 k1 k2 => by rw [hd]; exact nmul_any u1 u2 _ _ W k1 k2 (by omega) (by omega)
  rw [← hR]
  obtain ⟨u1, u2, rfl, h1, h2⟩ := ha
  obtain ⟨u3, u4, rfl, h3, h4⟩ := hb
  obtain ⟨a1, c1, rfl⟩ := h1.shape
  obtain ⟨a2, c2, rfl⟩ := h2.shape
  obtain ⟨a3, c3, rfl⟩ := h3.shape
  obtain ⟨a4, c4, rfl⟩ := h4.shape
  obtain ⟨w2, hw2⟩ : ∃ w2, w2 = ((w.alloc (.cells #[.bool r.neg, .slice a1 r.num.length c1, .slice a2 r.den.length c2] 38)).alloc (.cells #[.bool s.neg, .slice a3 s.num.length c3, .slice a4 s.den.length c4] 38)).alloc (.cells #[.bool false, .slice none 0 0, .slice none 0 0] 38) := ⟨_, rfl⟩
  have HM := Lib.hid (res_made2 w (.cells #[.bool r.neg, .slice a1 r.num.length c1, .slice a2 r.den.length c2] 38) (.cells #[.bool s.neg, .slice a3 s.num.length c3, .slice a4 s.den.length c4] 38))
  rw [← hw2] at HM
  have hb2 := RowAt.made (w.alloc (.cells #[.bool r.neg, .slice a1 r.num.length c1, .slice a2 r.den.length c2] 38)) #[.bool s.neg, .slice a3 s.num.length c3, .slice a4 s.den.length c4] 38
  simp only [World.size_alloc] at hb2
  have HB2 : Hid (RowAt w2 (w.heap.size + 1) 38 [.bool s.neg, .slice a3 s.num.length c3, .slice a4 s.den.length c4]) := Lib.hid (by rw [hw2]; exact hb2.kept ((Kept.refl _).alloc _))
  have HW2 := Lib.hid hw2
  generalize nw d = DE at *
  generalize (partsR r).1 = s1 at *
  generalize (partsR s).1 = s2 at *
  generalize (partsR r).2.1 = N at *
  generalize (partsR r).2.2 = D at *
  generalize (partsR s).2.1 = M at *
  generalize (partsR s).2.2 = E at *
  generalize r.num.length = n1 at *
  generalize r.den.length = n2 at *
  generalize s.num.length = n3 at *
  generalize s.den.length = n4 at *
  generalize r.neg = neg1 at *
  generalize s.neg = neg2 at *
  clear hok1 hok2 hsh1 hsh2 hR h1 h2 h3 h4 hr hs hw2 hb2 hp hq hd hlp hlq hld hd0
  have hb : (s1 == s2) = true := by simpa using hss
  clear hss
  go_enter Tryz.func24, Tryz.ntmps24
  go_wp2_with fail
  rw [← HW2.out]
  refine (HP1.out _ HM.out.2.2).mono ?_
  rintro e w3 ⟨⟨u3, u4, rfl, hu3, hu4⟩, hk3⟩
  have HN := Lib.hid hu3
  have HD := Lib.hid hu4
  have HR3 := Lib.hid (HM.out.1.kept hk3)
  have HF3 := Lib.hid (HM.out.2.1.kept hk3)
  have hb3 := HB2.out.kept hk3
  have g0 := hb3.cell (i := 0) (by simp)
  have g1 := hb3.cell (i := 1) (by simp)
  have g2 := hb3.cell (i := 2) (by simp)
  simp only [List.getElem_cons_succ, List.getElem_cons_zero] at g0 g1 g2
  have HK3 := Lib.hid (HM.out.2.2.trans hk3)
  clear hu3 hu4 hk3 hb3
  go_wp2_with fail
  refine (HP2.out _ HK3.out).mono ?_
  rintro e w4 ⟨⟨u5, u6, rfl, hu5, hu6⟩, hk4⟩
  have HN' := Lib.hid (HN.out.kept hk4)
  have HD' := Lib.hid (HD.out.kept hk4)
  have HMM := Lib.hid hu5
  have HEE := Lib.hid hu6
  have HR4 := Lib.hid (HR3.out.kept hk4)
  have HF4 := Lib.hid (HF3.out.kept hk4)
  have HK4 := Lib.hid (HK3.out.trans hk4)
  clear hu5 hu6 hk4 g0 g1 g2
  go_wp2_with fail
  refine (HM1.out _ _ _ HN'.out HEE.out).mono ?_
  rintro e w5 ⟨⟨v5, rfl, hv5⟩, hk5⟩
  have HV5 := Lib.hid hv5
  have HR5 := Lib.hid (HR4.out.kept hk5)
  have HF5 := Lib.hid (HF4.out.kept hk5)
  have HD5 := Lib.hid (HD'.out.kept hk5)
  have HE5 := Lib.hid (HEE.out.kept hk5)
  have HM5 := Lib.hid (HMM.out.kept hk5)
  have HK5 := Lib.hid (HK4.out.trans hk5)
  clear hv5 hk5
  go_wp2_with fail
  refine (HM2.out _ _ _ HM5.out HD5.out).mono ?_
  rintro e w6 ⟨⟨v6, rfl, hv6⟩, hk6⟩
  have HV6 := Lib.hid hv6
  have HV5' := Lib.hid (HV5.out.kept hk6)
  have HR6 := Lib.hid (HR5.out.kept hk6)
  have HF6 := Lib.hid (HF5.out.kept hk6)
  have HD6 := Lib.hid (HD5.out.kept hk6)
  have HE6 := Lib.hid (HE5.out.kept hk6)
  have HK6 := Lib.hid (HK5.out.trans hk6)
  clear hv6 hk6
  go_wp2_with fail
  refine (HM3.out _ _ _ HD6.out HE6.out).mono ?_
  rintro e w7 ⟨⟨v7, rfl, hv7⟩, hk7⟩
  have HVD := Lib.hid hv7
  have HVP := Lib.hid (HV5'.out.kept hk7)
  have HVQ := Lib.hid (HV6.out.kept hk7)
  have HR7 := Lib.hid (HR6.out.kept hk7)
  have HF7 := Lib.hid (HF6.out.kept hk7)
  have HK7 := Lib.hid (HK6.out.trans hk7)
  clear hv7 hk7
  go_wp2_with fail
  refine (HAD.out _ _ _ HVP.out HVQ.out).mono ?_
  rintro e w9 ⟨⟨v9, rfl, hv9⟩, hk9⟩
  have HVD8 := HVD
  have HR8 := HR7
  have HF8 := HF7
  have HK8 := HK7
  have HV9 := Lib.hid hv9
  have HVD9 := Lib.hid (HVD8.out.kept hk9)
  have HR9 := Lib.hid (HR8.out.kept hk9)
  have HF9 := Lib.hid (HF8.out.kept hk9)
  have HK9 := Lib.hid (HK8.out.trans hk9)
  clear hv9 hk9
  go_wp2_with fail
  refine (HFO.out _ _ _ HV9.out HVD9.out).mono ?_
  rintro e w10 ⟨⟨v10, rfl, hv10⟩, hk10⟩
  have hr10 := HR9.out.kept hk10
  have HF10 := Lib.hid (HF9.out.kept hk10)
  have HK10 := Lib.hid (HK9.out.trans hk10)
  obtain ⟨u7, u8, rfl, k7, k8⟩ := hv10
  obtain ⟨a7, c7, rfl⟩ := k7.shape
  obtain ⟨a8, c8, rfl⟩ := k8.shape
  obtain ⟨y0, y1, y2, hra⟩ := rat_stored hr10 HF10.out k7 k8
  have g0 := hr10.cell (i := 0) (by simp)
  have g1 := hr10.cell (i := 1) (by simp)
  have g2 := hr10.cell (i := 2) (by simp)
  have f0 := hr10.free 0
  have f1 := hr10.free 1
  have f2 := hr10.free 2
  have HRA := Lib.hid hra
  have Y0 := Lib.hid y0
  have Y1 := Lib.hid y1
  have Y2 := Lib.hid y2
  clear hra y0 y1 y2 k7 k8 hr10 hk10
  generalize R.num.length = n7 at *
  generalize R.den.length = n8 at *
  go_wp2
  refine bodyPost_ret (v := .agg #[.bool R.neg, .slice a7 n7 c7, .slice a8 n8 c8]) ?_ rfl ⟨⟨_, rfl, HRA.out⟩, ?_⟩
  · simp [results, Tryz.results24, go_sem, Y0.out, Y1.out, Y2.out]
  · exact ((HK10.out.store (by omega) _ _).store (by omega) _ _).store (by omega) _ _
set_option maxRecDepth 100000 in
set_option maxHeartbeats 4000000 in
theorem radd_ge (va vb : Value) (r s : Rw) (w : World) (ha : RatAt w va r) (hb : RatAt w vb s) (hr : r.Short 68719476736) (hs : s.Short 68719476736) (hss : (partsR r).1 ≠ (partsR s).1) (hle : nv (partsR s).2.1 * nv (partsR r).2.2 ≤ nv (partsR r).2.1 * nv (partsR s).2.2) : Calls Tryz.prog 24 #[va, vb] w fun e w' => (∃ v', e = .returned v' ∧ RatAt w' v' (canR (ratOf r + ratOf s))) ∧ Kept w w' := by
  have HP1 := Lib.hid (fun W (hk : Kept w W) => rparts_any va r W (ha.kept hk) ⟨Nat.le_trans hr.1 (by omega), Nat.le_trans hr.2 (by omega)⟩)
  have HP2 := Lib.hid (fun W (hk : Kept w W) => rparts_any vb s W (hb.kept hk) ⟨Nat.le_trans hs.1 (by omega), Nat.le_trans hs.2 (by omega)⟩)
  have hok1 := partsR_ok ha.ok
  have hok2 := partsR_ok hb.ok
  have hsh1 := parts_short hr (by omega)
  have hsh2 := parts_short hs (by omega)
  obtain ⟨R, hR⟩ : ∃ R, R = canR (ratOf r + ratOf s) := ⟨_, rfl⟩
  obtain ⟨p, hp⟩ : ∃ p, p = nv (partsR r).2.1 * nv (partsR s).2.2 := ⟨_, rfl⟩
  obtain ⟨q, hq⟩ : ∃ q, q = nv (partsR s).2.1 * nv (partsR r).2.2 := ⟨_, rfl⟩
  obtain ⟨d, hd⟩ : ∃ d, d = nv (partsR r).2.2 * nv (partsR s).2.2 := ⟨_, rfl⟩
  have hlp : (nw p).length ≤ 137438953472 := by rw [hp]; exact Nat.le_trans (nw_mul_len hok1.1 hok2.2.1) (by omega)
  have hlq : (nw q).length ≤ 137438953472 := by rw [hq]; exact Nat.le_trans (nw_mul_len hok2.1 hok1.2.1) (by omega)
  have hld : (nw d).length ≤ 137438953472 := by rw [hd]; exact Nat.le_trans (nw_mul_len hok1.2.1 hok2.2.1) (by omega)
  have hd0 : d ≠ 0 := by rw [hd]; exact Nat.mul_ne_zero hok1.2.2.1 hok2.2.2.1
  rw [← hp, ← hq] at hle
  have HCM : Hid (∀ W u1 u2, WdsAt W u1 (nw p) → WdsAt W u2 (nw q) → Calls Tryz.prog 70 #[u1, u2] W fun e w' => e = .returned (.int .i64 (cmpN p q)) ∧ Kept W w') := Lib.hid fun W u1 u2 k1 k2 => by
    have h := ncmp_any u1 u2 _ _ W k1 k2
    rw [nv_nw, nv_nw] at h
    exact h
  have HSU : Hid (∀ W u1 u2, WdsAt W u1 (nw p) → WdsAt W u2 (nw q) → Calls Tryz.prog 71 #[u1, u2] W fun e w' => (∃ v', e = .returned (.tuple #[v', .nilIface]) ∧ WdsAt w' v' (nw (p - q))) ∧ Kept W w') := Lib.hid fun W u1 u2 k1 k2 => by
    have h := nsub_any u1 u2 _ _ W k1 k2 (by rw [nv_nw, nv_nw]; exact hle)
    rw [nv_nw, nv_nw] at h
    exact h
  obtain ⟨cm, hcm⟩ : ∃ cm, cm = cmpN p q := ⟨_, rfl⟩
  rw [← hcm] at HCM
  have hcm0 : ¬ cm < 0 := by
    rw [hcm]
    rcases Nat.lt_or_ge q p with h | h
    · rw [cmpN_gt h]; omega
    · rw [cmpN_eq (by omega)]; omega
  have HFO : Hid (∀ W u1 u2, WdsAt W u1 (nw (p - q)) → WdsAt W u2 (nw d) → Calls Tryz.prog 68 #[.bool (partsR r).1, u1, u2] W fun e w' => (∃ v, e = .returned v ∧ RatAt w' v R) ∧ Kept W w') := Lib.hid fun W u1 u2 k1 k2 => by
    have h := rform_any (partsR r).1 u1 u2 _ _ W k1 k2 (Nat.le_trans (nw_mono_len (Nat.sub_le p q)) (by omega)) (Nat.le_trans hld (by omega)) (by rw [nv_nw]; exact hd0)
    rw [nv_nw, nv_nw, form_can _ _ _ hd0, hp, hq, hd, ratOf_sub ha.ok hb.ok hss (by rw [hp, hq] at hle; exact hle), ← hR] at h
    exact h
  have HM1 : Hid (∀ W u1 u2, WdsAt W u1 (partsR r).2.1 → WdsAt W u2 (partsR s).2.2 → Calls Tryz.prog 67 #[u1, u2] W fun e w' => (∃ v', e = .returned v' ∧ WdsAt w' v' (nw p)) ∧ Kept W w') := Lib.hid fun W u1 u2 k1 k2 => by rw [hp]; exact nmul_any u1 u2 _ _ W k1 k2 (by omega) (by omega)
  have HM2 : Hid (∀ W u1 u2, WdsAt W u1 (partsR s).2.1 → WdsAt W u2 (partsR r).2.2 → Calls Tryz.prog 67 #[u1, u2] W fun e w' => (∃ v', e = .returned v' ∧ WdsAt w' v' (nw q)) ∧ Kept W w') := Lib.hid fun W u1 u2 k1 k2 => by rw [hq]; exact nmul_any u1 u2 _ _ W k1 k2 (by omega) (by omega)
  have HM3 : Hid (∀ W u1 u2, WdsAt W u1 (partsR r).2.2 → WdsAt W u2 (partsR s).2.2 → Calls Tryz.prog 67 #[u1, u2] W fun e w' => (∃ v', e = .returned v' ∧ WdsAt w' v' (nw d)) ∧ Kept W w') := Lib.hid fun W u1 u2 k1 k2 => by rw [hd]; exact nmul_any u1 u2 _ _ W k1 k2 (by omega) (by omega)
  rw [← hR]
  obtain ⟨u1, u2, rfl, h1, h2⟩ := ha
  obtain ⟨u3, u4, rfl, h3, h4⟩ := hb
  obtain ⟨a1, c1, rfl⟩ := h1.shape
  obtain ⟨a2, c2, rfl⟩ := h2.shape
  obtain ⟨a3, c3, rfl⟩ := h3.shape
  obtain ⟨a4, c4, rfl⟩ := h4.shape
  obtain ⟨w2, hw2⟩ : ∃ w2, w2 = ((w.alloc (.cells #[.bool r.neg, .slice a1 r.num.length c1, .slice a2 r.den.length c2] 38)).alloc (.cells #[.bool s.neg, .slice a3 s.num.length c3, .slice a4 s.den.length c4] 38)).alloc (.cells #[.bool false, .slice none 0 0, .slice none 0 0] 38) := ⟨_, rfl⟩
  have HM := Lib.hid (res_made2 w (.cells #[.bool r.neg, .slice a1 r.num.length c1, .slice a2 r.den.length c2] 38) (.cells #[.bool s.neg, .slice a3 s.num.length c3, .slice a4 s.den.length c4] 38))
  rw [← hw2] at HM
  have hb2 := RowAt.made (w.alloc (.cells #[.bool r.neg, .slice a1 r.num.length c1, .slice a2 r.den.length c2] 38)) #[.bool s.neg, .slice a3 s.num.length c3, .slice a4 s.den.length c4] 38
  simp only [World.size_alloc] at hb2
  have HB2 : Hid (RowAt w2 (w.heap.size + 1) 38 [.bool s.neg, .slice a3 s.num.length c3, .slice a4 s.den.length c4]) := Lib.hid (by rw [hw2]; exact hb2.kept ((Kept.refl _).alloc _))
  have HW2 := Lib.hid hw2
  generalize nw d = DE at *
  generalize (partsR r).1 = s1 at *
  generalize (partsR s).1 = s2 at *
  generalize (partsR r).2.1 = N at *
  generalize (partsR r).2.2 = D at *
  generalize (partsR s).2.1 = M at *
  generalize (partsR s).2.2 = E at *
  generalize r.num.length = n1 at *
  generalize r.den.length = n2 at *
  generalize s.num.length = n3 at *
  generalize s.den.length = n4 at *
  generalize r.neg = neg1 at *
  generalize s.neg = neg2 at *
  clear hok1 hok2 hsh1 hsh2 hR h1 h2 h3 h4 hr hs hw2 hb2 hp hq hd hlp hlq hld hd0
  have hb : (s1 == s2) = false := by simpa using hss
  clear hss hcm hle
  go_enter Tryz.func24, Tryz.ntmps24
  go_wp2_with fail
  rw [← HW2.out]
  refine (HP1.out _ HM.out.2.2).mono ?_
  rintro e w3 ⟨⟨u3, u4, rfl, hu3, hu4⟩, hk3⟩
  have HN := Lib.hid hu3
  have HD := Lib.hid hu4
  have HR3 := Lib.hid (HM.out.1.kept hk3)
  have HF3 := Lib.hid (HM.out.2.1.kept hk3)
  have hb3 := HB2.out.kept hk3
  have g0 := hb3.cell (i := 0) (by simp)
  have g1 := hb3.cell (i := 1) (by simp)
  have g2 := hb3.cell (i := 2) (by simp)
  simp only [List.getElem_cons_succ, List.getElem_cons_zero] at g0 g1 g2
  have HK3 := Lib.hid (HM.out.2.2.trans hk3)
  clear hu3 hu4 hk3 hb3
  go_wp2_with fail
  refine (HP2.out _ HK3.out).mono ?_
  rintro e w4 ⟨⟨u5, u6, rfl, hu5, hu6⟩, hk4⟩
  have HN' := Lib.hid (HN.out.kept hk4)
  have HD' := Lib.hid (HD.out.kept hk4)
  have HMM := Lib.hid hu5
  have HEE := Lib.hid hu6
  have HR4 := Lib.hid (HR3.out.kept hk4)
  have HF4 := Lib.hid (HF3.out.kept hk4)
  have HK4 := Lib.hid (HK3.out.trans hk4)
  clear hu5 hu6 hk4 g0 g1 g2
  go_wp2_with fail
  refine (HM1.out _ _ _ HN'.out HEE.out).mono ?_
  rintro e w5 ⟨⟨v5, rfl, hv5⟩, hk5⟩
  have HV5 := Lib.hid hv5
  have HR5 := Lib.hid (HR4.out.kept hk5)
  have HF5 := Lib.hid (HF4.out.kept hk5)
  have HD5 := Lib.hid (HD'.out.kept hk5)
  have HE5 := Lib.hid (HEE.out.kept hk5)
  have HM5 := Lib.hid (HMM.out.kept hk5)
  have HK5 := Lib.hid (HK4.out.trans hk5)
  clear hv5 hk5
  go_wp2_with fail
  refine (HM2.out _ _ _ HM5.out HD5.out).mono ?_
  rintro e w6 ⟨⟨v6, rfl, hv6⟩, hk6⟩
  have HV6 := Lib.hid hv6
  have HV5' := Lib.hid (HV5.out.kept hk6)
  have HR6 := Lib.hid (HR5.out.kept hk6)
  have HF6 := Lib.hid (HF5.out.kept hk6)
  have HD6 := Lib.hid (HD5.out.kept hk6)
  have HE6 := Lib.hid (HE5.out.kept hk6)
  have HK6 := Lib.hid (HK5.out.trans hk6)
  clear hv6 hk6
  go_wp2_with fail
  refine (HM3.out _ _ _ HD6.out HE6.out).mono ?_
  rintro e w7 ⟨⟨v7, rfl, hv7⟩, hk7⟩
  have HVD := Lib.hid hv7
  have HVP := Lib.hid (HV5'.out.kept hk7)
  have HVQ := Lib.hid (HV6.out.kept hk7)
  have HR7 := Lib.hid (HR6.out.kept hk7)
  have HF7 := Lib.hid (HF6.out.kept hk7)
  have HK7 := Lib.hid (HK6.out.trans hk7)
  clear hv7 hk7
  go_wp2_with fail
  refine (HCM.out _ _ _ HVP.out HVQ.out).mono ?_
  rintro e w8 ⟨rfl, hk8⟩
  have HVD8 := Lib.hid (HVD.out.kept hk8)
  have HVP8 := Lib.hid (HVP.out.kept hk8)
  have HVQ8 := Lib.hid (HVQ.out.kept hk8)
  have HR8 := Lib.hid (HR7.out.kept hk8)
  have HF8 := Lib.hid (HF7.out.kept hk8)
  have HK8 := Lib.hid (HK7.out.trans hk8)
  clear hk8
  go_wp2_with fail
  refine (HSU.out _ _ _ HVP8.out HVQ8.out).mono ?_
  rintro e w9 ⟨⟨v9, rfl, hv9⟩, hk9⟩
  have HV9 := Lib.hid hv9
  have HVD9 := Lib.hid (HVD8.out.kept hk9)
  have HR9 := Lib.hid (HR8.out.kept hk9)
  have HF9 := Lib.hid (HF8.out.kept hk9)
  have HK9 := Lib.hid (HK8.out.trans hk9)
  clear hv9 hk9
  go_wp2_with fail
  refine (HFO.out _ _ _ HV9.out HVD9.out).mono ?_
  rintro e w10 ⟨⟨v10, rfl, hv10⟩, hk10⟩
  have hr10 := HR9.out.kept hk10
  have HF10 := Lib.hid (HF9.out.kept hk10)
  have HK10 := Lib.hid (HK9.out.trans hk10)
  obtain ⟨u7, u8, rfl, k7, k8⟩ := hv10
  obtain ⟨a7, c7, rfl⟩ := k7.shape
  obtain ⟨a8, c8, rfl⟩ := k8.shape
  obtain ⟨y0, y1, y2, hra⟩ := rat_stored hr10 HF10.out k7 k8
  have g0 := hr10.cell (i := 0) (by simp)
  have g1 := hr10.cell (i := 1) (by simp)
  have g2 := hr10.cell (i := 2) (by simp)
  have f0 := hr10.free 0
  have f1 := hr10.free 1
  have f2 := hr10.free 2
  have HRA := Lib.hid hra
  have Y0 := Lib.hid y0
  have Y1 := Lib.hid y1
  have Y2 := Lib.hid y2
  clear hra y0 y1 y2 k7 k8 hr10 hk10
  generalize R.num.length = n7 at *
  generalize R.den.length = n8 at *
  go_wp2
  refine bodyPost_ret (v := .agg #[.bool R.neg, .slice a7 n7 c7, .slice a8 n8 c8]) ?_ rfl ⟨⟨_, rfl, HRA.out⟩, ?_⟩
  · simp [results, Tryz.results24, go_sem, Y0.out, Y1.out, Y2.out]
  · exact ((HK10.out.store (by omega) _ _).store (by omega) _ _).store (by omega) _ _
set_option maxRecDepth 100000 in
set_option maxHeartbeats 4000000 in
theorem radd_lt (va vb : Value) (r s : Rw) (w : World) (ha : RatAt w va r) (hb : RatAt w vb s) (hr : r.Short 68719476736) (hs : s.Short 68719476736) (hss : (partsR r).1 ≠ (partsR s).1) (hle : nv (partsR r).2.1 * nv (partsR s).2.2 < nv (partsR s).2.1 * nv (partsR r).2.2) : Calls Tryz.prog 24 #[va, vb] w fun e w' => (∃ v', e = .returned v' ∧ RatAt w' v' (canR (ratOf r + ratOf s))) ∧ Kept w w' := by
  have HP1 := Lib.hid (fun W (hk : Kept w W) => rparts_any va r W (ha.kept hk) ⟨Nat.le_trans hr.1 (by omega), Nat.le_trans hr.2 (by omega)⟩)
  have HP2 := Lib.hid (fun W (hk : Kept w W) => rparts_any vb s W (hb.kept hk) ⟨Nat.le_trans hs.1 (by omega), Nat.le_trans hs.2 (by omega)⟩)
  have hok1 := partsR_ok ha.ok
  have hok2 := partsR_ok hb.ok
  have hsh1 := parts_short hr (by omega)
  have hsh2 := parts_short hs (by omega)
  obtain ⟨R, hR⟩ : ∃ R, R = canR (ratOf r + ratOf s) := ⟨_, rfl⟩
  obtain ⟨p, hp⟩ : ∃ p, p = nv (partsR r).2.1 * nv (partsR s).2.2 := ⟨_, rfl⟩
  obtain ⟨q, hq⟩ : ∃ q, q = nv (partsR s).2.1 * nv (partsR r).2.2 := ⟨_, rfl⟩
  obtain ⟨d, hd⟩ : ∃ d, d = nv (partsR r).2.2 * nv (partsR s).2.2 := ⟨_, rfl⟩
  have hlp : (nw p).length ≤ 137438953472 := by rw [hp]; exact Nat.le_trans (nw_mul_len hok1.1 hok2.2.1) (by omega)
  have hlq : (nw q).length ≤ 137438953472 := by rw [hq]; exact Nat.le_trans (nw_mul_len hok2.1 hok1.2.1) (by omega)
  have hld : (nw d).length ≤ 137438953472 := by rw [hd]; exact Nat.le_trans (nw_mul_len hok1.2.1 hok2.2.1) (by omega)
  have hd0 : d ≠ 0 := by rw [hd]; exact Nat.mul_ne_zero hok1.2.2.1 hok2.2.2.1
  rw [← hp, ← hq] at hle
  have HCM : Hid (∀ W u1 u2, WdsAt W u1 (nw p) → WdsAt W u2 (nw q) → Calls Tryz.prog 70 #[u1, u2] W fun e w' => e = .returned (.int .i64 (cmpN p q)) ∧ Kept W w') := Lib.hid fun W u1 u2 k1 k2 => by
    have h := ncmp_any u1 u2 _ _ W k1 k2
    rw [nv_nw, nv_nw] at h
    exact h
  have HSU : Hid (∀ W u1 u2, WdsAt W u1 (nw q) → WdsAt W u2 (nw p) → Calls Tryz.prog 71 #[u1, u2] W fun e w' => (∃ v', e = .returned (.tuple #[v', .nilIface]) ∧ WdsAt w' v' (nw (q - p))) ∧ Kept W w') := Lib.hid fun W u1 u2 k1 k2 => by
    have h := nsub_any u1 u2 _ _ W k1 k2 (by rw [nv_nw, nv_nw]; exact Nat.le_of_lt hle)
    rw [nv_nw, nv_nw] at h
    exact h
  obtain ⟨cm, hcm⟩ : ∃ cm, cm = cmpN p q := ⟨_, rfl⟩
  rw [← hcm] at HCM
  have hcm0 : cm < 0 := by
    rw [hcm]
    rw [cmpN_lt hle]; omega
  have HFO : Hid (∀ W u1 u2, WdsAt W u1 (nw (q - p)) → WdsAt W u2 (nw d) → Calls Tryz.prog 68 #[.bool (partsR s).1, u1, u2] W fun e w' => (∃ v, e = .returned v ∧ RatAt w' v R) ∧ Kept W w') := Lib.hid fun W u1 u2 k1 k2 => by
    have h := rform_any (partsR s).1 u1 u2 _ _ W k1 k2 (Nat.le_trans (nw_mono_len (Nat.sub_le q p)) (by omega)) (Nat.le_trans hld (by omega)) (by rw [nv_nw]; exact hd0)
    rw [nv_nw, nv_nw, form_can _ _ _ hd0, hp, hq, hd, ratOf_sub' ha.ok hb.ok hss (by rw [hp, hq] at hle; exact Nat.le_of_lt hle), ← hR] at h
    exact h
  have HM1 : Hid (∀ W u1 u2, WdsAt W u1 (partsR r).2.1 → WdsAt W u2 (partsR s).2.2 → Calls Tryz.prog 67 #[u1, u2] W fun e w' => (∃ v', e = .returned v' ∧ WdsAt w' v' (nw p)) ∧ Kept W w') := Lib.hid fun W u1 u2 k1 k2 => by rw [hp]; exact nmul_any u1 u2 _ _ W k1 k2 (by omega) (by omega)
  have HM2 : Hid (∀ W u1 u2, WdsAt W u1 (partsR s).2.1 → WdsAt W u2 (partsR r).2.2 → Calls Tryz.prog 67 #[u1, u2] W fun e w' => (∃ v', e = .returned v' ∧ WdsAt w' v' (nw q)) ∧ Kept W w') := Lib.hid fun W u1 u2 k1 k2 => by rw [hq]; exact nmul_any u1 u2 _ _ W k1 k2 (by omega) (by omega)
  have HM3 : Hid (∀ W u1 u2, WdsAt W u1 (partsR r).2.2 → WdsAt W u2 (partsR s).2.2 → Calls Tryz.prog 67 #[u1, u2] W fun e w' => (∃ v', e = .returned v' ∧ WdsAt w' v' (nw d)) ∧ Kept W w') := Lib.hid fun W u1 u2 k1 k2 => by rw [hd]; exact nmul_any u1 u2 _ _ W k1 k2 (by omega) (by omega)
  rw [← hR]
  obtain ⟨u1, u2, rfl, h1, h2⟩ := ha
  obtain ⟨u3, u4, rfl, h3, h4⟩ := hb
  obtain ⟨a1, c1, rfl⟩ := h1.shape
  obtain ⟨a2, c2, rfl⟩ := h2.shape
  obtain ⟨a3, c3, rfl⟩ := h3.shape
  obtain ⟨a4, c4, rfl⟩ := h4.shape
  obtain ⟨w2, hw2⟩ : ∃ w2, w2 = ((w.alloc (.cells #[.bool r.neg, .slice a1 r.num.length c1, .slice a2 r.den.length c2] 38)).alloc (.cells #[.bool s.neg, .slice a3 s.num.length c3, .slice a4 s.den.length c4] 38)).alloc (.cells #[.bool false, .slice none 0 0, .slice none 0 0] 38) := ⟨_, rfl⟩
  have HM := Lib.hid (res_made2 w (.cells #[.bool r.neg, .slice a1 r.num.length c1, .slice a2 r.den.length c2] 38) (.cells #[.bool s.neg, .slice a3 s.num.length c3, .slice a4 s.den.length c4] 38))
  rw [← hw2] at HM
  have hb2 := RowAt.made (w.alloc (.cells #[.bool r.neg, .slice a1 r.num.length c1, .slice a2 r.den.length c2] 38)) #[.bool s.neg, .slice a3 s.num.length c3, .slice a4 s.den.length c4] 38
  simp only [World.size_alloc] at hb2
  have HB2 : Hid (RowAt w2 (w.heap.size + 1) 38 [.bool s.neg, .slice a3 s.num.length c3, .slice a4 s.den.length c4]) := Lib.hid (by rw [hw2]; exact hb2.kept ((Kept.refl _).alloc _))
  have HW2 := Lib.hid hw2
  generalize nw d = DE at *
  generalize (partsR r).1 = s1 at *
  generalize (partsR s).1 = s2 at *
  generalize (partsR r).2.1 = N at *
  generalize (partsR r).2.2 = D at *
  generalize (partsR s).2.1 = M at *
  generalize (partsR s).2.2 = E at *
  generalize r.num.length = n1 at *
  generalize r.den.length = n2 at *
  generalize s.num.length = n3 at *
  generalize s.den.length = n4 at *
  generalize r.neg = neg1 at *
  generalize s.neg = neg2 at *
  clear hok1 hok2 hsh1 hsh2 hR h1 h2 h3 h4 hr hs hw2 hb2 hp hq hd hlp hlq hld hd0
  have hb : (s1 == s2) = false := by simpa using hss
  clear hss hcm hle
  go_enter Tryz.func24, Tryz.ntmps24
  go_wp2_with fail
  rw [← HW2.out]
  refine (HP1.out _ HM.out.2.2).mono ?_
  rintro e w3 ⟨⟨u3, u4, rfl, hu3, hu4⟩, hk3⟩
  have HN := Lib.hid hu3
  have HD := Lib.hid hu4
  have HR3 := Lib.hid (HM.out.1.kept hk3)
  have HF3 := Lib.hid (HM.out.2.1.kept hk3)
  have hb3 := HB2.out.kept hk3
  have g0 := hb3.cell (i := 0) (by simp)
  have g1 := hb3.cell (i := 1) (by simp)
  have g2 := hb3.cell (i := 2) (by simp)
  simp only [List.getElem_cons_succ, List.getElem_cons_zero] at g0 g1 g2
  have HK3 := Lib.hid (HM.out.2.2.trans hk3)
  clear hu3 hu4 hk3 hb3
  go_wp2_with fail
  refine (HP2.out _ HK3.out).mono ?_
  rintro e w4 ⟨⟨u5, u6, rfl, hu5, hu6⟩, hk4⟩
  have HN' := Lib.hid (HN.out.kept hk4)
  have HD' := Lib.hid (HD.out.kept hk4)
  have HMM := Lib.hid hu5
  have HEE := Lib.hid hu6
  have HR4 := Lib.hid (HR3.out.kept hk4)
  have HF4 := Lib.hid (HF3.out.kept hk4)
  have HK4 := Lib.hid (HK3.out.trans hk4)
  clear hu5 hu6 hk4 g0 g1 g2
  go_wp2_with fail
  refine (HM1.out _ _ _ HN'.out HEE.out).mono ?_
  rintro e w5 ⟨⟨v5, rfl, hv5⟩, hk5⟩
  have HV5 := Lib.hid hv5
  have HR5 := Lib.hid (HR4.out.kept hk5)
  have HF5 := Lib.hid (HF4.out.kept hk5)
  have HD5 := Lib.hid (HD'.out.kept hk5)
  have HE5 := Lib.hid (HEE.out.kept hk5)
  have HM5 := Lib.hid (HMM.out.kept hk5)
  have HK5 := Lib.hid (HK4.out.trans hk5)
  clear hv5 hk5
  go_wp2_with fail
  refine (HM2.out _ _ _ HM5.out HD5.out).mono ?_
  rintro e w6 ⟨⟨v6, rfl, hv6⟩, hk6⟩
  have HV6 := Lib.hid hv6
  have HV5' := Lib.hid (HV5.out.kept hk6)
  have HR6 := Lib.hid (HR5.out.kept hk6)
  have HF6 := Lib.hid (HF5.out.kept hk6)
  have HD6 := Lib.hid (HD5.out.kept hk6)
  have HE6 := Lib.hid (HE5.out.kept hk6)
  have HK6 := Lib.hid (HK5.out.trans hk6)
  clear hv6 hk6
  go_wp2_with fail
  refine (HM3.out _ _ _ HD6.out HE6.out).mono ?_
  rintro e w7 ⟨⟨v7, rfl, hv7⟩, hk7⟩
  have HVD := Lib.hid hv7
  have HVP := Lib.hid (HV5'.out.kept hk7)
  have HVQ := Lib.hid (HV6.out.kept hk7)
  have HR7 := Lib.hid (HR6.out.kept hk7)
  have HF7 := Lib.hid (HF6.out.kept hk7)
  have HK7 := Lib.hid (HK6.out.trans hk7)
  clear hv7 hk7
  go_wp2_with fail
  refine (HCM.out _ _ _ HVP.out HVQ.out).mono ?_
  rintro e w8 ⟨rfl, hk8⟩
  have HVD8 := Lib.hid (HVD.out.kept hk8)
  have HVP8 := Lib.hid (HVP.out.kept hk8)
  have HVQ8 := Lib.hid (HVQ.out.kept hk8)
  have HR8 := Lib.hid (HR7.out.kept hk8)
  have HF8 := Lib.hid (HF7.out.kept hk8)
  have HK8 := Lib.hid (HK7.out.trans hk8)
  clear hk8
  go_wp2_with fail
  refine (HSU.out _ _ _ HVQ8.out HVP8.out).mono ?_
  rintro e w9 ⟨⟨v9, rfl, hv9⟩, hk9⟩
  have HV9 := Lib.hid hv9
  have HVD9 := Lib.hid (HVD8.out.kept hk9)
  have HR9 := Lib.hid (HR8.out.kept hk9)
  have HF9 := Lib.hid (HF8.out.kept hk9)
  have HK9 := Lib.hid (HK8.out.trans hk9)
  clear hv9 hk9
  go_wp2_with fail
  refine (HFO.out _ _ _ HV9.out HVD9.out).mono ?_
  rintro e w10 ⟨⟨v10, rfl, hv10⟩, hk10⟩
  have hr10 := HR9.out.kept hk10
  have HF10 := Lib.hid (HF9.out.kept hk10)
  have HK10 := Lib.hid (HK9.out.trans hk10)
  obtain ⟨u7, u8, rfl, k7, k8⟩ := hv10
  obtain ⟨a7, c7, rfl⟩ := k7.shape
  obtain ⟨a8, c8, rfl⟩ := k8.shape
  obtain ⟨y0, y1, y2, hra⟩ := rat_stored hr10 HF10.out k7 k8
  have g0 := hr10.cell (i := 0) (by simp)
  have g1 := hr10.cell (i := 1) (by simp)
  have g2 := hr10.cell (i := 2) (by simp)
  have f0 := hr10.free 0
  have f1 := hr10.free 1
  have f2 := hr10.free 2
  have HRA := Lib.hid hra
  have Y0 := Lib.hid y0
  have Y1 := Lib.hid y1
  have Y2 := Lib.hid y2
  clear hra y0 y1 y2 k7 k8 hr10 hk10
  generalize R.num.length = n7 at *
  generalize R.den.length = n8 at *
  go_wp2
  refine bodyPost_ret (v := .agg #[.bool R.neg, .slice a7 n7 c7, .slice a8 n8 c8]) ?_ rfl ⟨⟨_, rfl, HRA.out⟩, ?_⟩
  · simp [results, Tryz.results24, go_sem, Y0.out, Y1.out, Y2.out]
  · exact ((HK10.out.store (by omega) _ _).store (by omega) _ _).store (by omega) _ _
theorem radd_any (va vb : Value) (r s : Rw) (w : World) (ha : RatAt w va r) (hb : RatAt w vb s) (hr : r.Short 68719476736) (hs : s.Short 68719476736) : Calls Tryz.prog 24 #[va, vb] w fun e w' => (∃ v', e = .returned v' ∧ RatAt w' v' (canR (ratOf r + ratOf s))) ∧ Kept w w' := by
  by_cases h : (partsR r).1 = (partsR s).1
  · exact radd_same va vb r s w ha hb hr hs h
  · rcases Nat.lt_or_ge (nv (partsR r).2.1 * nv (partsR s).2.2) (nv (partsR s).2.1 * nv (partsR r).2.2) with h2 | h2
    · exact radd_lt va vb r s w ha hb hr hs h h2
    · exact radd_ge va vb r s w ha hb hr hs h h2
end Go.Proofs.YtpaedhlacbpmpaaGreatDoor

/-
  Walks: rational.Sub, Cmp, Prob; how long fractions become.
-/
namespace Go.Proofs.YtpaedhlacbpmpaaGreatDoor
open Go.RowKit

theorem canR_short (neg : Bool) {n d k l : Nat} (hd : d ≠ 0) (hn : (nw n).length ≤ k) (hdk : (nw d).length ≤ l) : (canR (mkRat (sg neg n) d)).num.length ≤ k ∧ (canR (mkRat (sg neg n) d)).den.length ≤ l := by
  rw [← form_can _ _ _ hd]
  unfold formR
  split
  · exact ⟨Nat.zero_le _, Nat.zero_le _⟩
  · exact ⟨Nat.le_trans (nw_mono_len (Nat.div_le_self _ _)) hn, Nat.le_trans (nw_mono_len (Nat.div_le_self _ _)) hdk⟩
theorem len_nv {xs : List Nat} (h : Wd xs) {k : Nat} (hk : xs.length ≤ k) : (nw (nv xs)).length ≤ k := Nat.le_trans (nw_length_le h) hk
theorem short_neg {r : Rw} (h : r.Ok) {k : Nat} (hs : r.Short k) (hk : 1 ≤ k) : (canR (- ratOf r)).Short k := by
  have hok := partsR_ok h
  have hsh := parts_short hs hk
  rw [← ratOf_neg]
  exact canR_short _ hok.2.2.1 (len_nv hok.1 hsh.1) (len_nv hok.2.1 hsh.2)
theorem short_mul {r s : Rw} (hr : r.Ok) (hs : s.Ok) {k l : Nat} (h1 : r.Short k) (h2 : s.Short l) (hk : 1 ≤ k) (hl : 1 ≤ l) : (canR (ratOf r * ratOf s)).Short (k + l) := by
  have ok1 := partsR_ok hr
  have ok2 := partsR_ok hs
  have s1 := parts_short h1 hk
  have s2 := parts_short h2 hl
  rw [← ratOf_mul]
  exact canR_short _ (Nat.mul_ne_zero ok1.2.2.1 ok2.2.2.1) (Nat.le_trans (nw_mul_len ok1.1 ok2.1) (by omega)) (Nat.le_trans (nw_mul_len ok1.2.1 ok2.2.1) (by omega))
theorem short_add {r s : Rw} (hr : r.Ok) (hs : s.Ok) {k l : Nat} (h1 : r.Short k) (h2 : s.Short l) (hk : 1 ≤ k) (hl : 1 ≤ l) : (canR (ratOf r + ratOf s)).Short (k + l + 1) := by
  have ok1 := partsR_ok hr
  have ok2 := partsR_ok hs
  have s1 := parts_short h1 hk
  have s2 := parts_short h2 hl
  have hd := Nat.mul_ne_zero ok1.2.2.1 ok2.2.2.1
  have lp : (nw (nv (partsR r).2.1 * nv (partsR s).2.2)).length ≤ k + l := Nat.le_trans (nw_mul_len ok1.1 ok2.2.1) (by omega)
  have lq : (nw (nv (partsR s).2.1 * nv (partsR r).2.2)).length ≤ k + l := Nat.le_trans (nw_mul_len ok2.1 ok1.2.1) (by omega)
  have ld : (nw (nv (partsR r).2.2 * nv (partsR s).2.2)).length ≤ k + l + 1 := Nat.le_trans (nw_mul_len ok1.2.1 ok2.2.1) (by omega)
  by_cases h : (partsR r).1 = (partsR s).1
  · rw [← ratOf_add hr hs h]
    exact canR_short _ hd (nw_add_len lp lq) ld
  · rcases Nat.lt_or_ge (nv (partsR r).2.1 * nv (partsR s).2.2) (nv (partsR s).2.1 * nv (partsR r).2.2) with h2 | h2
    · rw [← ratOf_sub' hr hs h (Nat.le_of_lt h2)]
      exact canR_short _ hd (Nat.le_trans (nw_mono_len (Nat.sub_le _ _)) (Nat.le_succ_of_le lq)) ld
    · rw [← ratOf_sub hr hs h h2]
      exact canR_short _ hd (Nat.le_trans (nw_mono_len (Nat.sub_le _ _)) (Nat.le_succ_of_le lp)) ld
set_option maxRecDepth 100000 in
set_option maxHeartbeats 4000000 in
theorem rsub_any (va vb : Value) (r s : Rw) (w : World) (ha : RatAt w va r) (hb : RatAt w vb s) (hr : r.Short 68719476736) (hs : s.Short 68719476736) : Calls Tryz.prog 25 #[va, vb] w fun e w' => (∃ v', e = .returned v' ∧ RatAt w' v' (canR (ratOf r - ratOf s))) ∧ Kept w w' := by
  have HNE := Lib.hid (fun W (hk : Kept w W) => rneg_any vb s W (hb.kept hk) ⟨Nat.le_trans hs.1 (by omega), Nat.le_trans hs.2 (by omega)⟩)
  obtain ⟨R, hR⟩ : ∃ R, R = canR (ratOf r - ratOf s) := ⟨_, rfl⟩
  have HAD : Hid (∀ W v, Kept w W → RatAt W v (canR (- ratOf s)) → Calls Tryz.prog 24 #[va, v] W fun e w' => (∃ v', e = .returned v' ∧ RatAt w' v' R) ∧ Kept W w') := Lib.hid fun W v hk hv => by
    have h := radd_any va v r _ W (ha.kept hk) hv hr (short_neg hb.ok hs (by omega))
    rw [ratOf_can, ← Rat.sub_eq_add_neg, ← hR] at h
    exact h
  rw [← hR]
  obtain ⟨u1, u2, rfl, h1, h2⟩ := ha
  obtain ⟨u3, u4, rfl, h3, h4⟩ := hb
  obtain ⟨a1, c1, rfl⟩ := h1.shape
  obtain ⟨a2, c2, rfl⟩ := h2.shape
  obtain ⟨a3, c3, rfl⟩ := h3.shape
  obtain ⟨a4, c4, rfl⟩ := h4.shape
  generalize r.num.length = n1 at *
  generalize r.den.length = n2 at *
  generalize s.num.length = n3 at *
  generalize s.den.length = n4 at *
  generalize r.neg = neg1 at *
  generalize s.neg = neg2 at *
  obtain ⟨w2, hw2⟩ : ∃ w2, w2 = ((w.alloc (.cells #[.bool neg1, .slice a1 n1 c1, .slice a2 n2 c2] 38)).alloc (.cells #[.bool neg2, .slice a3 n3 c3, .slice a4 n4 c4] 38)).alloc (.cells #[.bool false, .slice none 0 0, .slice none 0 0] 38) := ⟨_, rfl⟩
  have HM := Lib.hid (res_made2 w (.cells #[.bool neg1, .slice a1 n1 c1, .slice a2 n2 c2] 38) (.cells #[.bool neg2, .slice a3 n3 c3, .slice a4 n4 c4] 38))
  rw [← hw2] at HM
  have ha2 := RowAt.made w #[.bool neg1, .slice a1 n1 c1, .slice a2 n2 c2] 38
  have HA2 : Hid (RowAt w2 w.heap.size 38 [.bool neg1, .slice a1 n1 c1, .slice a2 n2 c2]) := Lib.hid (by rw [hw2]; exact ha2.kept (((Kept.refl _).alloc _).alloc _))
  have hb2 := RowAt.made (w.alloc (.cells #[.bool neg1, .slice a1 n1 c1, .slice a2 n2 c2] 38)) #[.bool neg2, .slice a3 n3 c3, .slice a4 n4 c4] 38
  simp only [World.size_alloc] at hb2
  have HB2 : Hid (RowAt w2 (w.heap.size + 1) 38 [.bool neg2, .slice a3 n3 c3, .slice a4 n4 c4]) := Lib.hid (by rw [hw2]; exact hb2.kept ((Kept.refl _).alloc _))
  have HW2 := Lib.hid hw2
  clear hR h1 h2 h3 h4 hr hs hw2 ha2 hb2
  have p0 := HA2.out.cell (i := 0) (by simp)
  have p1 := HA2.out.cell (i := 1) (by simp)
  have p2 := HA2.out.cell (i := 2) (by simp)
  have g0 := HB2.out.cell (i := 0) (by simp)
  have g1 := HB2.out.cell (i := 1) (by simp)
  have g2 := HB2.out.cell (i := 2) (by simp)
  simp only [List.getElem_cons_succ, List.getElem_cons_zero] at p0 p1 p2 g0 g1 g2
  go_enter Tryz.func25, Tryz.ntmps25
  go_wp2_with fail
  rw [← HW2.out]
  go_region_with (first
    | (go_at_call 57; (with_reducible refine (HNE.out _ HM.out.2.2.drew).mono ?_); rintro e w3 ⟨⟨v3, rfl, hv3⟩, hk3⟩; have hkd := (Kept.refl w2).drew.trans hk3; have x0 := hkd.cell p0; have x1 := hkd.cell p1; have x2 := hkd.cell p2; have HV3 := Lib.hid hv3; have HKD := Lib.hid hkd; have HR3 := Lib.hid (HM.out.1.kept hkd); have HF3 := Lib.hid (HM.out.2.1.kept hkd); clear hv3 hk3 hkd)
    | (go_at_call 24; (with_reducible refine (HAD.out _ _ (HM.out.2.2.trans HKD.out) HV3.out).mono ?_); rintro e w4 ⟨⟨v4, rfl, hv4⟩, hk4⟩; have hr4 := HR3.out.kept hk4; have HR4 := Lib.hid hr4; have HF4 := Lib.hid (HF3.out.kept hk4); have HK4 := Lib.hid ((HM.out.2.2.trans HKD.out).trans hk4); obtain ⟨u5, u6, rfl, k5, k6⟩ := hv4; obtain ⟨a5, c5, rfl⟩ := k5.shape; obtain ⟨a6, c6, rfl⟩ := k6.shape; have K5 := Lib.hid k5; have K6 := Lib.hid k6; have z0 := hr4.cell (i := 0) (by simp); have z1 := hr4.cell (i := 1) (by simp); have z2 := hr4.cell (i := 2) (by simp); have f0 := hr4.free 0; have f1 := hr4.free 1; have f2 := hr4.free 2; clear k5 k6 hr4 hk4))
  all_goals
    obtain ⟨y0, y1, y2, hra⟩ := rat_stored HR4.out HF4.out K5.out K6.out
    generalize R.num.length = n7 at *
    generalize R.den.length = n8 at *
    go_wp2
    refine bodyPost_ret (v := .agg #[.bool R.neg, .slice a5 n7 c5, .slice a6 n8 c6]) ?_ rfl ⟨⟨_, rfl, hra⟩, ?_⟩
    · simp [results, Tryz.results25, go_sem, y0, y1, y2]
    · exact ((HK4.out.store (by omega) _ _).store (by omega) _ _).store (by omega) _ _
set_option maxRecDepth 100000 in
set_option maxHeartbeats 4000000 in
theorem rcmp_any (va vb : Value) (r s : Rw) (w : World) (ha : RatAt w va r) (hb : RatAt w vb s) (hr : r.Short 68719476736) (hs : s.Short 68719476736) : Calls Tryz.prog 23 #[va, vb] w fun e w' => e = .returned (.int .i64 (sgnR (ratOf r - ratOf s))) ∧ Kept w w' := by
  have HSU := Lib.hid (fun W (hk : Kept w W) => rsub_any va vb r s W (ha.kept hk) (hb.kept hk) hr hs)
  have hsh : (canR (ratOf r - ratOf s)).Short 274877906944 := by
    have h := short_add ha.ok (canR_ok _) hr (short_neg hb.ok hs (by omega)) (by omega) (by omega)
    rw [ratOf_can, ← Rat.sub_eq_add_neg] at h
    exact ⟨Nat.le_trans h.1 (by omega), Nat.le_trans h.2 (by omega)⟩
  have HSG : Hid (∀ W v, RatAt W v (canR (ratOf r - ratOf s)) → Calls Tryz.prog 37 #[v] W fun e w' => e = .returned (.int .i64 (sgnR (ratOf r - ratOf s))) ∧ Kept W w') := Lib.hid fun W v hv => by
    have h := rsign_any v _ W hv hsh
    rw [ratOf_can] at h
    exact h
  obtain ⟨u1, u2, rfl, h1, h2⟩ := ha
  obtain ⟨u3, u4, rfl, h3, h4⟩ := hb
  obtain ⟨a1, c1, rfl⟩ := h1.shape
  obtain ⟨a2, c2, rfl⟩ := h2.shape
  obtain ⟨a3, c3, rfl⟩ := h3.shape
  obtain ⟨a4, c4, rfl⟩ := h4.shape
  generalize canR (ratOf r - ratOf s) = R at *
  generalize sgnR (ratOf r - ratOf s) = S at *
  generalize r.num.length = n1 at *
  generalize r.den.length = n2 at *
  generalize s.num.length = n3 at *
  generalize s.den.length = n4 at *
  generalize r.neg = neg1 at *
  generalize s.neg = neg2 at *
  have HK0 : Hid (Kept w ((w.alloc (.cells #[.bool neg1, .slice a1 n1 c1, .slice a2 n2 c2] 38)).alloc (.cells #[.bool neg2, .slice a3 n3 c3, .slice a4 n4 c4] 38))) := Lib.hid (((Kept.refl w).alloc _).alloc _)
  clear h1 h2 h3 h4 hr hs hsh
  go_enter Tryz.func23, Tryz.ntmps23
  go_wp2_with fail
  refine (HSU.out _ HK0.out).mono ?_
  rintro e w3 ⟨⟨v3, rfl, hv3⟩, hk3⟩
  have HV3 := Lib.hid hv3
  have HK3 := Lib.hid (HK0.out.trans hk3)
  clear hv3 hk3
  go_wp2_with fail
  refine (HSG.out _ _ HV3.out).mono ?_
  rintro e w4 ⟨rfl, hk4⟩
  have HK4 := Lib.hid (HK3.out.trans hk4)
  clear hk4
  go_wp2
  go_ret
  exact ⟨rfl, HK4.out⟩
/-- What Prob says. -/
def probR (r : Rw) : Bool := validR r && !r.neg && decide (nv r.num ≤ nv r.den)
theorem cmp_le (a b : Nat) : cmpN a b ≤ 0 ↔ a ≤ b := by
  rcases Nat.lt_trichotomy a b with h | h | h
  · rw [cmpN_lt h]; omega
  · rw [cmpN_eq h]; omega
  · rw [cmpN_gt h]; omega
set_option maxRecDepth 100000 in
set_option maxHeartbeats 4000000 in
theorem rprob_any (v : Value) (r : Rw) (w : World) (hv : RatAt w v r) (hs : r.Short 274877906944) : Calls Tryz.prog 47 #[v] w fun e w' => e = .returned (.bool (probR r)) ∧ Kept w w' := by
  have HVA := Lib.hid (fun W (hk : Kept w W) => ratvalid_any v r W (hv.kept hk) hs)
  obtain ⟨neg, num, den⟩ := r
  obtain ⟨u1, u2, rfl, h1, h2⟩ := hv
  simp only at h1 h2
  obtain ⟨a1, c1, rfl⟩ := h1.shape
  obtain ⟨a2, c2, rfl⟩ := h2.shape
  have hP : probR ⟨neg, num, den⟩ = (validR ⟨neg, num, den⟩ && !neg && decide (cmpN (nv num) (nv den) ≤ 0)) := by
    unfold probR
    congr 1
    exact decide_eq_decide.2 (cmp_le _ _).symm
  rw [hP]
  have HCM := Lib.hid (fun W (hk : Kept w W) => ncmp_any _ _ num den W (h1.kept hk) (h2.kept hk))
  have HR := Lib.hid (RowAt.made w #[.bool neg, .slice a1 num.length c1, .slice a2 den.length c2] 38)
  have HK0 : Hid (Kept w (w.alloc (.cells #[.bool neg, .slice a1 num.length c1, .slice a2 den.length c2] 38))) := Lib.hid ((Kept.refl w).alloc _)
  generalize cmpN (nv num) (nv den) = cm at *
  generalize validR ⟨neg, num, den⟩ = vb at *
  generalize num.length = n1 at *
  generalize den.length = n2 at *
  obtain ⟨w1, hw1⟩ : ∃ w1, w1 = w.alloc (.cells #[.bool neg, .slice a1 n1 c1, .slice a2 n2 c2] 38) := ⟨_, rfl⟩
  rw [← hw1] at HR HK0
  have HW1 := Lib.hid hw1
  have q0 := HR.out.cell (i := 0) (by simp)
  have q1 := HR.out.cell (i := 1) (by simp)
  have q2 := HR.out.cell (i := 2) (by simp)
  simp only [List.getElem_cons_succ, List.getElem_cons_zero] at q0 q1 q2
  clear h1 h2 hP hs hw1
  cases vb with
  | false =>
    go_enter Tryz.func47, Tryz.ntmps47
    go_wp2_with fail
    rw [← HW1.out]
    refine (HVA.out _ HK0.out).mono ?_
    rintro e w2 ⟨rfl, hk2⟩
    have HK2 := Lib.hid (HK0.out.trans hk2)
    clear hk2
    go_wp2
    go_ret
    exact ⟨by simp, HK2.out⟩
  | true =>
    cases neg with
    | true =>
      go_enter Tryz.func47, Tryz.ntmps47
      go_wp2_with fail
      rw [← HW1.out]
      refine (HVA.out _ HK0.out).mono ?_
      rintro e w2 ⟨rfl, hk2⟩
      have y0 := hk2.cell q0
      have HK2 := Lib.hid (HK0.out.trans hk2)
      clear hk2
      go_wp2
      go_ret
      exact ⟨by simp, HK2.out⟩
    | false =>
      go_enter Tryz.func47, Tryz.ntmps47
      go_wp2_with fail
      rw [← HW1.out]
      refine (HVA.out _ HK0.out).mono ?_
      rintro e w2 ⟨rfl, hk2⟩
      have y0 := hk2.cell q0
      have y1 := hk2.cell q1
      have y2 := hk2.cell q2
      have HK2 := Lib.hid (HK0.out.trans hk2)
      clear hk2
      go_wp2_with fail
      refine (HCM.out _ HK2.out).mono ?_
      rintro e w3 ⟨rfl, hk3⟩
      have HK3 := Lib.hid (HK2.out.trans hk3)
      clear hk3
      go_wp2
      go_ret
      exact ⟨by simp, HK3.out⟩
end Go.Proofs.YtpaedhlacbpmpaaGreatDoor

/-
  Walks: rational.size, Of.
-/
namespace Go.Proofs.YtpaedhlacbpmpaaGreatDoor
open Go.RowKit

set_option maxRecDepth 100000 in
set_option maxHeartbeats 2000000 in
theorem rsz_any (n : Int) (w : World) (h1 : -9223372036854775808 < n) (h2 : n < 9223372036854775808) : Calls Tryz.prog 89 #[.int .i64 n] w fun e w' => (∃ v', e = .returned v' ∧ WdsAt w' v' (nw n.natAbs)) ∧ Kept w w' := by
  obtain ⟨m, hm⟩ : ∃ m, m = n.natAbs := ⟨_, rfl⟩
  have hm9 : m < 9223372036854775808 := by omega
  have HOF := Lib.hid (fun W => nof_any m W hm9)
  have hne : (n == -9223372036854775808) = false := by simp; omega
  have hmx : max n (-n) = (m : Int) := by omega
  rw [← hm]
  clear hm
  go_enter Tryz.func89, Tryz.ntmps89
  go_wp2_with fail
  refine (HOF.out _).mono ?_
  rintro e w2 ⟨⟨v2, rfl, hv2⟩, hk2⟩
  have HV2 := Lib.hid hv2
  have HK2 := Lib.hid hk2
  clear hv2 hk2
  go_wp2
  go_ret
  exact ⟨⟨_, rfl, HV2.out⟩, HK2.out⟩
theorem of_num (n : Int) : mkRat (sg (decide (n < 0)) n.natAbs) 1 = (n : Rat) := by
  have e : sg (decide (n < 0)) n.natAbs = n := by
    unfold sg
    by_cases h : n < 0
    · simp [h]; omega
    · simp [h]; omega
  rw [e, Rat.mkRat_one]
set_option maxRecDepth 100000 in
set_option maxHeartbeats 2000000 in
theorem rof_any (n : Int) (w : World) (h1 : -9223372036854775808 < n) (h2 : n < 9223372036854775808) : Calls Tryz.prog 46 #[.int .i64 n] w fun e w' => (∃ v', e = .returned v' ∧ RatAt w' v' (canR (n : Rat))) ∧ Kept w w' := by
  have HSZ := Lib.hid (fun W => rsz_any n W h1 h2)
  obtain ⟨R, hR⟩ : ∃ R, R = canR (n : Rat) := ⟨_, rfl⟩
  obtain ⟨b, hb⟩ : ∃ b, decide (n < 0) = b := ⟨_, rfl⟩
  have HFO : Hid (∀ W u1 u2, WdsAt W u1 (nw n.natAbs) → WdsAt W u2 [1] → Calls Tryz.prog 68 #[.bool b, u1, u2] W fun e w' => (∃ v, e = .returned v ∧ RatAt w' v R) ∧ Kept W w') := Lib.hid fun W u1 u2 k1 k2 => by
    have hl : (nw n.natAbs).length ≤ 2 := nw_len_lt.2 (by rw [show (4294967296 : Nat) ^ 2 = 18446744073709551616 by rfl]; omega)
    have h := rform_any b u1 u2 _ _ W k1 k2 (by omega) (by simp) (by simp [nv])
    rw [nv_nw, show nv [1] = 1 by rfl, form_can _ _ _ (by omega), ← hb, of_num, ← hR] at h
    rw [← hb]
    exact h
  rw [← hR]
  generalize nw n.natAbs = X at *
  obtain ⟨w2, hw2⟩ : ∃ w2, w2 = w.alloc (.cells #[.bool false, .slice none 0 0, .slice none 0 0] 38) := ⟨_, rfl⟩
  have HR : Hid (RowAt w2 w.heap.size 38 [.bool false, .slice none 0 0, .slice none 0 0]) := Lib.hid (by rw [hw2]; exact RowAt.made w #[.bool false, .slice none 0 0, .slice none 0 0] 38)
  have HFX : Hid (FixAt w2 w.heap.size [.bool false, .slice none 0 0, .slice none 0 0]) := Lib.hid (by rw [hw2]; exact FixAt.made w #[.bool false, .slice none 0 0, .slice none 0 0] 38)
  have HK0 : Hid (Kept w w2) := Lib.hid (by rw [hw2]; exact (Kept.refl w).alloc _)
  have HW2 := Lib.hid hw2
  have HB := Lib.hid hb
  clear hw2 hR hb h1 h2
  go_enter Tryz.func46, Tryz.ntmps46
  go_wp2_with fail
  rw [← HW2.out]
  refine (HSZ.out _).mono ?_
  rintro e w3 ⟨⟨v3, rfl, hv3⟩, hk3⟩
  have HV3 := Lib.hid hv3
  have HR3 := Lib.hid (HR.out.kept hk3)
  have HF3 := Lib.hid (HFX.out.kept hk3)
  have HK3 := Lib.hid (HK0.out.trans hk3)
  clear hv3 hk3
  go_wp2_with fail
  refine (rone_any _).mono ?_
  rintro e w4 ⟨⟨v4, rfl, hv4⟩, hk4⟩
  have HV4 := Lib.hid hv4
  have HV3' := Lib.hid (HV3.out.kept hk4)
  have HR4 := Lib.hid (HR3.out.kept hk4)
  have HF4 := Lib.hid (HF3.out.kept hk4)
  have HK4 := Lib.hid (HK3.out.trans hk4)
  clear hv4 hk4
  go_wp2_with fail
  rw [HB.out]
  refine (HFO.out _ _ _ HV3'.out HV4.out).mono ?_
  rintro e w10 ⟨⟨v10, rfl, hv10⟩, hk10⟩
  have hr10 := HR4.out.kept hk10
  have HF10 := Lib.hid (HF4.out.kept hk10)
  have HK10 := Lib.hid (HK4.out.trans hk10)
  obtain ⟨u7, u8, rfl, k7, k8⟩ := hv10
  obtain ⟨a7, c7, rfl⟩ := k7.shape
  obtain ⟨a8, c8, rfl⟩ := k8.shape
  obtain ⟨y0, y1, y2, hra⟩ := rat_stored hr10 HF10.out k7 k8
  have g0 := hr10.cell (i := 0) (by simp)
  have g1 := hr10.cell (i := 1) (by simp)
  have g2 := hr10.cell (i := 2) (by simp)
  have f0 := hr10.free 0
  have f1 := hr10.free 1
  have f2 := hr10.free 2
  have HRA := Lib.hid hra
  have Y0 := Lib.hid y0
  have Y1 := Lib.hid y1
  have Y2 := Lib.hid y2
  clear hra y0 y1 y2 k7 k8 hr10 hk10
  generalize R.num.length = n7 at *
  generalize R.den.length = n8 at *
  go_wp2
  refine bodyPost_ret (v := .agg #[.bool R.neg, .slice a7 n7 c7, .slice a8 n8 c8]) ?_ rfl ⟨⟨_, rfl, HRA.out⟩, ?_⟩
  · simp [results, Tryz.results46, go_sem, Y0.out, Y1.out, Y2.out]
  · exact ((HK10.out.store (by omega) _ _).store (by omega) _ _).store (by omega) _ _
end Go.Proofs.YtpaedhlacbpmpaaGreatDoor

/-
  Walks: faultlineref01.Cmp, Add, Sub.
-/
namespace Go.Proofs.YtpaedhlacbpmpaaGreatDoor
open Go.RowKit

theorem nv_lt_words {a b : List Nat} (ha : Wd a) {k : Nat} (hd : ∀ i, k < i → a.getD i 0 = b.getD i 0) (hlt : a.getD k 0 < b.getD k 0) : nv a < nv b := by
  have key : ∀ j, nv (a.take (k + 1 + j)) < nv (b.take (k + 1 + j)) := by
    intro j
    induction j with
    | zero =>
      rw [Nat.add_zero, nv_take_succ, nv_take_succ]
      have h1 : nv (a.take k) < 4294967296 ^ k := Nat.lt_of_lt_of_le (nv_lt (ha.take k)) (Nat.pow_le_pow_right (by omega) (by rw [List.length_take]; omega))
      have h2 : (a.getD k 0 + 1) * 4294967296 ^ k ≤ b.getD k 0 * 4294967296 ^ k := Nat.mul_le_mul_right _ hlt
      rw [Nat.add_mul, Nat.one_mul] at h2
      omega
    | succ j ih =>
      rw [← Nat.add_assoc, nv_take_succ, nv_take_succ, hd (k + 1 + j) (by omega)]
      omega
  have := key (a.length + b.length)
  rwa [nv_take_all a _ (by omega), nv_take_all b _ (by omega)] at this
theorem nv_eq_words {a b : List Nat} (hd : ∀ i, a.getD i 0 = b.getD i 0) : nv a = nv b := by
  have key : ∀ j, nv (a.take j) = nv (b.take j) := by
    intro j
    induction j with
    | zero => simp
    | succ j ih => rw [nv_take_succ, nv_take_succ, ih, hd]
  have := key (a.length + b.length)
  rwa [nv_take_all a _ (by omega), nv_take_all b _ (by omega)] at this
set_option maxRecDepth 100000 in
set_option maxHeartbeats 2000000 in
theorem refcmp_any (va vb : Value) (xs ys : List Nat) (w : World) (ha : WdsAt w va xs) (hb : WdsAt w vb ys) : Calls Tryz.prog 113 #[va, vb] w fun e w' => e = .returned (.int .i64 (cmpN (nv xs) (nv ys))) ∧ w' = w := by
  have HA := Lib.hid (fun (i : Nat) => rword_any va xs i w ha)
  have HB := Lib.hid (fun (i : Nat) => rword_any vb ys i w hb)
  have HWA := Lib.hid ha.wd
  have HWB := Lib.hid hb.wd
  have hl0 := ha.len
  have hl1 := hb.len
  obtain ⟨a0, c0, rfl⟩ := ha.shape
  obtain ⟨a1, c1, rfl⟩ := hb.shape
  obtain ⟨l0, h0⟩ : ∃ l0, l0 = xs.length := ⟨_, rfl⟩
  obtain ⟨l1, h1⟩ : ∃ l1, l1 = ys.length := ⟨_, rfl⟩
  rw [← h0] at HA hl0 ⊢
  rw [← h1] at HB hl1 ⊢
  have H0 := Lib.hid h0
  have H1 := Lib.hid h1
  obtain ⟨p, hp⟩ : ∃ p, p = max l0 l1 := ⟨_, rfl⟩
  have hp9 : p ≤ 1099511627776 := by omega
  have e0 : max (l0 : Int) (l1 : Int) = (p : Int) := by omega
  have HP : Hid (l0 ≤ p ∧ l1 ≤ p) := Lib.hid (by omega)
  clear ha hb h0 h1 hp
  go_enter Tryz.func113, Tryz.ntmps113
  go_wp2_with fail
  go_loopg [5] p (fun kx s5 wr => ∃ k : Nat, s5 = .int .i64 ((k : Int) - 1) ∧ k ≤ p ∧ k ≤ kx ∧ Hid (∀ i, k ≤ i → xs.getD i 0 = ys.getD i 0) ∧ w = wr)
  case atStart => exact ⟨p, rfl, Nat.le_refl _, Nat.le_refl _, Lib.hid (fun i hi => by
    have h1 := HP.out
    have h2 := H0.out
    have h3 := H1.out
    simp [List.getD_eq_getElem?_getD, show xs.length ≤ i by omega, show ys.length ≤ i by omega]), rfl⟩
  case round =>
    obtain ⟨k, rfl, hk, hkx, HD, rfl⟩ := hrel
    by_cases hk0 : k = 0
    · subst hk0
      have HC := Lib.hid (cmpN_eq (nv_eq_words fun i => HD.out i (by omega)))
      go_wp2_with fail
      go_ret
      exact ⟨by rw [HC.out]; first | done | rfl, rfl⟩
    · obtain ⟨j, rfl⟩ : ∃ j, k = j + 1 := ⟨k - 1, by omega⟩
      have HX := Lib.hid (HA.out j)
      have HY := Lib.hid (HB.out j)
      have hxw := HWA.out.getD j
      have hyw := HWB.out.getD j
      have HLT : Hid (xs.getD j 0 < ys.getD j 0 → nv xs < nv ys) := Lib.hid fun h => nv_lt_words HWA.out (fun i hi => HD.out i (by omega)) h
      have HGT : Hid (ys.getD j 0 < xs.getD j 0 → nv ys < nv xs) := Lib.hid fun h => nv_lt_words HWB.out (fun i hi => (HD.out i (by omega)).symm) h
      have HEQ : Hid (xs.getD j 0 = ys.getD j 0 → ∀ i, j ≤ i → xs.getD i 0 = ys.getD i 0) := Lib.hid fun h i hi => by
        by_cases e : i = j
        · rw [e]; exact h
        · exact HD.out i (by omega)
      generalize xs.getD j 0 = x at *
      generalize ys.getD j 0 = y at *
      have e1 : ((j + 1 : Nat) : Int) - 1 = (j : Int) := by omega
      rw [e1]
      have hj0 : (0 : Int) ≤ (j : Int) := by omega
      clear e1 hk0
      rcases Nat.lt_trichotomy x y with h | h | h
      · have HC := Lib.hid (cmpN_lt (HLT.out h))
        go_wp2_with (first | (go_at_call 129; (with_reducible refine HX.out.mono ?_); rintro e w2 ⟨rfl, rfl⟩) | (go_at_call 129; (with_reducible refine HY.out.mono ?_); rintro e w2 ⟨rfl, rfl⟩))
        go_ret
        exact ⟨by rw [HC.out]; first | done | rfl, rfl⟩
      · subst h
        have hr := Lib.hid (HEQ.out rfl)
        have h' : ¬ x < x := by omega
        go_wp2_with (first | (go_at_call 129; (with_reducible refine HX.out.mono ?_); rintro e w2 ⟨rfl, rfl⟩) | (go_at_call 129; (with_reducible refine HY.out.mono ?_); rintro e w2 ⟨rfl, rfl⟩))
        go_roundg j
        case measure => omega
        case rel => exact ⟨j, rfl, by omega, Nat.le_refl _, hr, rfl⟩
      · have HC := Lib.hid (cmpN_gt (HGT.out h))
        have h' : ¬ x < y := by omega
        go_wp2_with (first | (go_at_call 129; (with_reducible refine HX.out.mono ?_); rintro e w2 ⟨rfl, rfl⟩) | (go_at_call 129; (with_reducible refine HY.out.mono ?_); rintro e w2 ⟨rfl, rfl⟩))
        go_ret
        exact ⟨by rw [HC.out]; first | done | rfl, rfl⟩
theorem nv_push {L : List Nat} {i : Nat} (h : L.length = i) (r : Nat) : nv (L ++ [r]) = nv L + r * 4294967296 ^ i := by
  rw [nv_append, nv_cons, nv_nil, h, Nat.mul_zero, Nat.add_zero, Nat.mul_comm]
set_option maxRecDepth 100000 in
set_option maxHeartbeats 2000000 in
theorem refadd_any (va vb : Value) (xs ys : List Nat) (w : World) (ha : WdsAt w va xs) (hb : WdsAt w vb ys) (hla : xs.length ≤ 549755813888) (hlb : ys.length ≤ 549755813888) :
    Calls Tryz.prog 112 #[va, vb] w fun e w' => (∃ v', e = .returned v' ∧ WdsAt w' v' (nw (nv xs + nv ys))) ∧ Kept w w' := by
  have HA := Lib.hid (fun W (hk : Kept w W) (i : Nat) => rword_any va xs i W (ha.kept hk))
  have HB := Lib.hid (fun W (hk : Kept w W) (i : Nat) => rword_any vb ys i W (hb.kept hk))
  have HWA := Lib.hid ha.wd
  have HWB := Lib.hid hb.wd
  obtain ⟨a0, c0, rfl⟩ := ha.shape
  obtain ⟨a1, c1, rfl⟩ := hb.shape
  obtain ⟨l0, h0⟩ : ∃ l0, l0 = xs.length := ⟨_, rfl⟩
  obtain ⟨l1, h1⟩ : ∃ l1, l1 = ys.length := ⟨_, rfl⟩
  rw [← h0] at HA hla ⊢
  rw [← h1] at HB hlb ⊢
  have H0 := Lib.hid h0
  have H1 := Lib.hid h1
  obtain ⟨m, hm⟩ : ∃ m, m = max l0 l1 := ⟨_, rfl⟩
  have hm9 : m ≤ 549755813888 := by omega
  have e0 : max (l0 : Int) (l1 : Int) = (m : Int) := by omega
  obtain ⟨p, hp⟩ : ∃ p, p = m + 1 := ⟨_, rfl⟩
  have e1 : (m : Int) + 1 = (p : Int) := by omega
  have hp9 : p ≤ 549755813889 := by omega
  have HP : Hid (l0 + 1 ≤ p ∧ l1 + 1 ≤ p) := Lib.hid (by omega)
  clear ha hb h0 h1 hm hp
  go_enter Tryz.func112, Tryz.ntmps112
  go_wp2_with fail
  go_loopg [5, 6, 15] p (fun kx s5 s6 s15 wr => ∃ (i c : Nat) (L : List Nat), s6 = .int .u64 c ∧ s15 = .int .i64 i ∧ i ≤ p ∧ p - i ≤ kx ∧ c ≤ 1 ∧ Hid (OwnWds wr w.heap.size s5 L) ∧ Hid (L.length = i) ∧ Hid (nv L + c * 4294967296 ^ i = nv (xs.take i) + nv (ys.take i)) ∧ Hid (Kept w wr))
  case atStart => exact ⟨0, 0, [], rfl, rfl, Nat.zero_le _, by omega, by omega, Lib.hid (OwnWds.nil _ _), Lib.hid rfl, Lib.hid (by simp [nv_nil]), Lib.hid (Kept.refl _)⟩
  case round =>
    obtain ⟨i, c, L, rfl, rfl, hi, hkx, hc, HO, HL, HI, HK⟩ := hrel
    by_cases hlt : i < p
    · have hx := HWA.out.getD i
      have hy := HWB.out.getD i
      have HX := Lib.hid (HA.out wr HK.out i)
      have HY := Lib.hid (HB.out wr HK.out i)
      have HST : Hid (∀ s, s = c + xs.getD i 0 + ys.getD i 0 → nv (L ++ [s % 4294967296]) + (s / 4294967296) * 4294967296 ^ (i + 1) = nv (xs.take (i + 1)) + nv (ys.take (i + 1))) := Lib.hid fun s hs => by
        have := wadd_step HI.out hs
        rw [nv_push HL.out, nv_take_succ, nv_take_succ, ← this, Nat.pow_succ, Nat.mul_comm (4294967296 ^ i)]
      generalize xs.getD i 0 = x at *
      generalize ys.getD i 0 = y at *
      have hkn : (i : Int) < (p : Int) := by omega
      obtain ⟨t, ht⟩ : ∃ t, t = x + y := ⟨_, rfl⟩
      obtain ⟨s, hs⟩ : ∃ s, s = c + x + y := ⟨_, rfl⟩
      have hs9 : s < 18446744073709551616 := by omega
      have ht9 : t < 18446744073709551616 := by omega
      obtain ⟨r, hr⟩ : ∃ r, r = s % 4294967296 := ⟨_, rfl⟩
      obtain ⟨q, hq⟩ : ∃ q, q = s / 4294967296 := ⟨_, rfl⟩
      have hr9 : r < 4294967296 := by omega
      have hq9 : q ≤ 1 := by omega
      have HSS := Lib.hid (HST.out s hs)
      rw [← hr, ← hq] at HSS
      have e2 : (x : Int) + (y : Int) = (t : Int) := by omega
      have e3 : (t : Int) + (c : Int) = (s : Int) := by omega
      have e6 : (s : Int) / 4294967296 = (q : Int) := by omega
      have e5 : IntKind.u32.wrap (s : Int) = (r : Int) := by rw [IntKind.wrap_u32]; omega
      have hi9 : i < 1099511627776 := by omega
      have HSZ := Lib.hid HK.out.size
      clear HST hs hr hq ht
      go_wp2_with (first
        | (go_at_call 129; (with_reducible refine HX.out.mono ?_); rintro e w2 ⟨rfl, rfl⟩)
        | (go_at_call 129; (with_reducible refine HY.out.mono ?_); rintro e w2 ⟨rfl, rfl⟩)
        | (at_builtin; refine app_wd rfl _ _ rfl w.heap.size _ L rfl (HO.out.kept ((Kept.refl _).alloc _)) _ r rfl (by simp) hr9 (by rw [HL.out]; exact hi9) (by have := HSZ.out; simp; omega) ?_; intro v7 w7 h7 hb7; have O7 := Lib.hid h7; have HB7 := Lib.hid hb7; clear h7 hb7))
      go_roundg (p - (i + 1))
      case measure => omega
      case rel => exact ⟨i + 1, q, L ++ [r], rfl, by go_num, by omega, Nat.le_refl _, hq9, O7, Lib.hid (by rw [List.length_append, HL.out]; rfl), HSS, Lib.hid ((HK.out.alloc _).app HB7.out)⟩
    · have hip : i = p := by omega
      have HV : Hid (nv L = nv xs + nv ys) := Lib.hid (add_done (L := L) (i := i) (c := c) (p := p) (by rw [nv_take_all L i (by rw [HL.out]; exact Nat.le_refl _)]; exact HI.out) hip (by have h1 := HP.out; have h2 := H0.out; omega) (by have h1 := HP.out; have h2 := H1.out; omega) (by rw [HL.out]; exact hip) HWA.out HWB.out)
      have HT := Lib.hid (rtrim_any _ _ _ HO.out.at)
      clear hip
      go_wp2_with fail
      refine HT.out.mono ?_
      rintro e w2 ⟨⟨v2, rfl, hv2⟩, hk2⟩
      have HV2 := Lib.hid hv2
      have HK2 := Lib.hid (HK.out.trans hk2)
      clear hv2 hk2
      go_wp2
      go_ret
      exact ⟨⟨_, rfl, by rw [← HV.out]; exact HV2.out.at⟩, HK2.out⟩
end Go.Proofs.YtpaedhlacbpmpaaGreatDoor

/-
  Walks: faultlineref01.Sub.
-/
namespace Go.Proofs.YtpaedhlacbpmpaaGreatDoor
open Go.RowKit

set_option maxRecDepth 100000 in
set_option maxHeartbeats 4000000 in
theorem refsub_own (va vb : Value) (xs ys : List Nat) (w : World) (ha : WdsAt w va xs) (hb : WdsAt w vb ys) (hle : nv ys ≤ nv xs) :
    Calls Tryz.prog 114 #[va, vb] w fun e w' => (∃ v', e = .returned (.tuple #[v', .int .i64 0]) ∧ OwnWds w' w.heap.size v' (nw (nv xs - nv ys))) ∧ Kept w w' := by
  have HA := Lib.hid (fun W (hk : Kept w W) (i : Nat) => rword_any va xs i W (ha.kept hk))
  have HB := Lib.hid (fun W (hk : Kept w W) (i : Nat) => rword_any vb ys i W (hb.kept hk))
  have HCMP := Lib.hid (refcmp_any va vb xs ys w ha hb)
  have HWA := Lib.hid ha.wd
  have HWB := Lib.hid hb.wd
  have hc0 : 0 ≤ cmpN (nv xs) (nv ys) := by unfold cmpN; split <;> (try split) <;> omega
  obtain ⟨cv, hcv⟩ : ∃ cv, cv = cmpN (nv xs) (nv ys) := ⟨_, rfl⟩
  rw [← hcv] at HCMP hc0
  obtain ⟨a0, c0, rfl⟩ := ha.shape
  obtain ⟨a1, c1, rfl⟩ := hb.shape
  obtain ⟨p, h0⟩ : ∃ p, p = xs.length := ⟨_, rfl⟩
  have hp9 : p ≤ 1099511627776 := by rw [h0]; exact ha.len
  rw [← h0] at HA HCMP ⊢
  generalize ys.length = l1 at *
  have H0 := Lib.hid h0
  have HLE := Lib.hid hle
  have hc1 : ¬ cv < 0 := by omega
  clear ha hb h0 hle hcv hc0
  go_enter Tryz.func114, Tryz.ntmps114
  go_wp2_with fail
  refine HCMP.out.mono ?_
  rintro e w0 ⟨rfl, rfl⟩
  go_wp2_with fail
  go_loopg [6, 7, 16] p (fun kx s6 s7 s16 wr => ∃ (i c : Nat) (L : List Nat), s7 = .int .u64 c ∧ s16 = .int .i64 i ∧ i ≤ p ∧ p - i ≤ kx ∧ c ≤ 1 ∧ Hid (OwnWds wr w0.heap.size s6 L) ∧ Hid (L.length = i) ∧ Hid (nv L + nv (ys.take i) = nv (xs.take i) + c * 4294967296 ^ i) ∧ Hid (Kept w0 wr))
  case atStart => exact ⟨0, 0, [], rfl, rfl, Nat.zero_le _, by omega, by omega, Lib.hid (OwnWds.nil _ _), Lib.hid rfl, Lib.hid (by simp [nv_nil]), Lib.hid (Kept.refl _)⟩
  case round =>
    obtain ⟨i, c, L, rfl, rfl, hi, hkx, hc, HO, HL, HI, HK⟩ := hrel
    by_cases hlt : i < p
    · have hx := HWA.out.getD i
      have hy := HWB.out.getD i
      have HX := Lib.hid (HA.out wr HK.out i)
      have HY := Lib.hid (HB.out wr HK.out i)
      have HST : Hid (∀ o b', o + ys.getD i 0 + c = xs.getD i 0 + b' * 4294967296 → nv (L ++ [o]) + nv (ys.take (i + 1)) = nv (xs.take (i + 1)) + b' * 4294967296 ^ (i + 1)) := Lib.hid fun o b' hs => by
        have := sub_step HI.out hs
        rw [nv_push HL.out, nv_take_succ, nv_take_succ, this, Nat.pow_succ, Nat.mul_comm (4294967296 ^ i)]
      generalize xs.getD i 0 = x at *
      generalize ys.getD i 0 = y at *
      have hkn : (i : Int) < (p : Int) := by omega
      obtain ⟨o, b', D, ho, hb', hD, hob, hm, hd, hcs⟩ := borrow_cases hx hy hc
      have HSS := Lib.hid (HST.out o b' hob)
      have e5 : IntKind.u32.wrap (D : Int) = (o : Int) := by rw [IntKind.wrap_u32]; omega
      have e6 : (D : Int) / 9223372036854775808 = (b' : Int) := by omega
      have HSZ := Lib.hid HK.out.size
      have HI9 : Hid (L.length < 1099511627776) := Lib.hid (by rw [HL.out]; omega)
      clear HST hob hm hd
      rcases hcs with ⟨h1, h2⟩ | ⟨h1, D1, h2, h3⟩ | ⟨h1, h2, h3⟩
      · go_wp2_with (first
          | (go_at_call 129; (with_reducible refine HX.out.mono ?_); rintro e w2 ⟨rfl, rfl⟩)
          | (go_at_call 129; (with_reducible refine HY.out.mono ?_); rintro e w2 ⟨rfl, rfl⟩)
          | (at_builtin; refine app_wd rfl _ _ rfl w0.heap.size _ L rfl (HO.out.kept ((Kept.refl _).alloc _)) _ o rfl (by simp) ho HI9.out (by have := HSZ.out; simp; omega) ?_; intro v7 w7 h7 hb7; have O7 := Lib.hid h7; have HB7 := Lib.hid hb7; clear h7 hb7))
        go_roundg (p - (i + 1))
        case measure => omega
        case rel => exact ⟨i + 1, b', L ++ [o], rfl, by go_num, by omega, Nat.le_refl _, hb', O7, Lib.hid (by rw [List.length_append, HL.out]; rfl), HSS, Lib.hid ((HK.out.alloc _).app HB7.out)⟩
      · have e1 := u64_up h2 (by omega)
        have hD1 : D1 < 18446744073709551616 := by omega
        clear h2
        go_wp2_with (first
          | (go_at_call 129; (with_reducible refine HX.out.mono ?_); rintro e w2 ⟨rfl, rfl⟩)
          | (go_at_call 129; (with_reducible refine HY.out.mono ?_); rintro e w2 ⟨rfl, rfl⟩)
          | (at_builtin; refine app_wd rfl _ _ rfl w0.heap.size _ L rfl (HO.out.kept ((Kept.refl _).alloc _)) _ o rfl (by simp) ho HI9.out (by have := HSZ.out; simp; omega) ?_; intro v7 w7 h7 hb7; have O7 := Lib.hid h7; have HB7 := Lib.hid hb7; clear h7 hb7))
        go_roundg (p - (i + 1))
        case measure => omega
        case rel => exact ⟨i + 1, b', L ++ [o], rfl, by go_num, by omega, Nat.le_refl _, hb', O7, Lib.hid (by rw [List.length_append, HL.out]; rfl), HSS, Lib.hid ((HK.out.alloc _).app HB7.out)⟩
      · have e1 := u64_up h3 (by omega)
        have g1 : x ≤ y := by omega
        have g2 : y ≤ x := by omega
        have g3 : 1 ≤ c := by omega
        clear h1 h2 h3
        go_wp2_with (first
          | (go_at_call 129; (with_reducible refine HX.out.mono ?_); rintro e w2 ⟨rfl, rfl⟩)
          | (go_at_call 129; (with_reducible refine HY.out.mono ?_); rintro e w2 ⟨rfl, rfl⟩)
          | (at_builtin; refine app_wd rfl _ _ rfl w0.heap.size _ L rfl (HO.out.kept ((Kept.refl _).alloc _)) _ o rfl (by simp) ho HI9.out (by have := HSZ.out; simp; omega) ?_; intro v7 w7 h7 hb7; have O7 := Lib.hid h7; have HB7 := Lib.hid hb7; clear h7 hb7))
        go_roundg (p - (i + 1))
        case measure => omega
        case rel => exact ⟨i + 1, b', L ++ [o], rfl, by go_num, by omega, Nat.le_refl _, hb', O7, Lib.hid (by rw [List.length_append, HL.out]; rfl), HSS, Lib.hid ((HK.out.alloc _).app HB7.out)⟩
    · have hip : i = p := by omega
      have HV : Hid (nv L = nv xs - nv ys) := Lib.hid (sub_done (L := L) (i := i) (b := c) (p := p) (by rw [nv_take_all L i (by rw [HL.out]; exact Nat.le_refl _)]; exact HI.out) hip H0.out.symm (by rw [HL.out]; exact hip) HO.out.at.wd HWA.out HLE.out)
      have HT := Lib.hid (rtrim_any _ _ _ HO.out.at)
      clear hip
      go_wp2_with fail
      refine HT.out.mono ?_
      rintro e w2 ⟨⟨v2, rfl, hv2⟩, hk2⟩
      have HV2 := Lib.hid hv2
      have HK2 := Lib.hid (HK.out.trans hk2)
      clear hv2 hk2
      go_wp2
      go_ret2
      exact ⟨⟨_, rfl, by rw [← HV.out]; exact HV2.out.mono HK.out.size⟩, HK2.out⟩
theorem refsub_any (va vb : Value) (xs ys : List Nat) (w : World) (ha : WdsAt w va xs) (hb : WdsAt w vb ys) (hle : nv ys ≤ nv xs) :
    Calls Tryz.prog 114 #[va, vb] w fun e w' => (∃ v', e = .returned (.tuple #[v', .int .i64 0]) ∧ WdsAt w' v' (nw (nv xs - nv ys))) ∧ Kept w w' :=
  (refsub_own va vb xs ys w ha hb hle).mono fun _ _ ⟨⟨v', h1, h2⟩, h3⟩ => ⟨⟨v', h1, h2.at⟩, h3⟩
/-- Words of the call's own are kept by a store into an older block. -/
theorem OwnWds.older {w w' : World} {B g : Nat} {v : Value} {xs : List Nat} (h : OwnWds w B v xs) (hg : g < B) (ho : OnlyAt g w w') : OwnWds w' B v xs := by
  obtain ⟨⟨h1, h2⟩, h3⟩ := h
  refine ⟨⟨h1, ?_⟩, h3⟩
  rcases h2 with h2 | ⟨p, cap, cur, h4, h5, h6, h7⟩
  · exact .inl h2
  · refine .inr ⟨p, cap, cur, h4, h5, ?_, h7⟩
    have hlt : p < w.heap.size := by
      rcases Nat.lt_or_ge p w.heap.size with h8 | h8
      · exact h8
      · simp [Array.getElem?_eq_none h8] at h6
    rw [ho.block p hlt (by omega)]
    exact h6
end Go.Proofs.YtpaedhlacbpmpaaGreatDoor

/-
  Walk: faultlineref01.Mul.
-/
namespace Go.Proofs.YtpaedhlacbpmpaaGreatDoor
open Go.RowKit

set_option maxRecDepth 100000 in
set_option maxHeartbeats 4000000 in
theorem refmul_any (va vb : Value) (xs ys : List Nat) (w : World) (ha : WdsAt w va xs) (hb : WdsAt w vb ys) (hla : xs.length ≤ 274877906944) (hlb : ys.length ≤ 274877906944) :
    Calls Tryz.prog 100 #[va, vb] w fun e w' => (∃ v', e = .returned v' ∧ WdsAt w' v' (nw (nv xs * nv ys))) ∧ Kept w w' := by
  have HA := Lib.hid ha
  have HB := Lib.hid (fun W (hk : Kept w W) (i : Nat) => rword_any vb ys i W (hb.kept hk))
  have HWB := Lib.hid hb.wd
  obtain ⟨a0, c0, rfl⟩ := ha.shape
  obtain ⟨a1, c1, rfl⟩ := hb.shape
  obtain ⟨l0, h0⟩ : ∃ l0, l0 = xs.length := ⟨_, rfl⟩
  obtain ⟨l1, h1⟩ : ∃ l1, l1 = ys.length := ⟨_, rfl⟩
  rw [← h0] at HA hla ⊢
  rw [← h1] at HB hlb ⊢
  have H0 := Lib.hid h0
  have H1 := Lib.hid h1
  obtain ⟨p0, hp0⟩ : ∃ p0, p0 = l0 + l1 := ⟨_, rfl⟩
  obtain ⟨p, hp⟩ : ∃ p, p = p0 + 1 := ⟨_, rfl⟩
  obtain ⟨l2, hl2⟩ : ∃ l2, l2 = l1 + 1 := ⟨_, rfl⟩
  have e0 : (l0 : Int) + (l1 : Int) = (p0 : Int) := by omega
  have e1 : (p0 : Int) + 1 = (p : Int) := by omega
  have e2 : (l1 : Int) + 1 = (l2 : Int) := by omega
  have hp9 : p ≤ 549755813889 := by omega
  have hp09 : p0 ≤ 549755813888 := by omega
  have hl29 : l2 ≤ 274877906945 := by omega
  have HP : Hid (p = l0 + l1 + 1) := Lib.hid (by omega)
  have HL2 : Hid (l2 = l1 + 1) := Lib.hid hl2
  clear ha hb h0 h1 hp hp0 hl2
  go_enter Tryz.func100, Tryz.ntmps100
  go_wp2_with (refine make_one 36 34 (.int .u32 0) 4 info_u32 Tryz.underlying36 rfl rfl _ _ rfl p rfl rfl (by omega) (by unfold maxLen; omega) ?_; intro w1 hr1 hk1)
  have HR1 := Lib.hid (made_wds hr1)
  have HK1 := Lib.hid hk1
  clear hr1 hk1
  go_loopg [20] l0 (fun kx s20 wr => ∃ (i : Nat) (L : List Nat), s20 = .int .i64 i ∧ i ≤ l0 ∧ l0 - i ≤ kx ∧ Hid (RowAt wr w.heap.size 34 (L.map w32)) ∧ Hid (L.length = p ∧ Wd L) ∧ Hid (nv L = nv (xs.take i) * nv ys ∧ ∀ q, i + l1 ≤ q → L.getD q 0 = 0) ∧ Hid (Kept w wr))
  case atStart => exact ⟨0, List.replicate p 0, rfl, Nat.zero_le _, by omega, HR1, Lib.hid ⟨by simp, Wd.zeros _⟩, Lib.hid ⟨by rw [nv_zeros]; simp [nv_nil], fun q _ => by simp [List.getD_eq_getElem?_getD, List.getElem?_replicate]; split <;> rfl⟩, HK1⟩
  case round =>
    obtain ⟨wo, rfl⟩ : ∃ wo : World, wo = wr := ⟨_, rfl⟩
    obtain ⟨i, L, rfl, hi, hkx, HR, HL, HI, HK⟩ := hrel
    by_cases hlt : i < l0
    · obtain ⟨b, o, rfl, hcx⟩ := (HA.out.kept HK.out).get i (by have := H0.out; omega)
      have hx := HA.out.wd.getD i
      obtain ⟨x, hxx⟩ : ∃ x, x = xs.getD i 0 := ⟨_, rfl⟩
      rw [← hxx] at hcx hx
      have HX := Lib.hid hxx
      have hkn : (i : Int) < (l0 : Int) := by omega
      clear hxx
      go_wp2
      go_loopg [8, 28] l2 (fun kx s8 s28 wq => ∃ (k c : Nat) (L' : List Nat), s8 = .int .u64 c ∧ s28 = .int .i64 k ∧ k ≤ l2 ∧ l2 - k ≤ kx ∧ c < 4294967296 ∧ Hid (RowAt wq w.heap.size 34 (L'.map w32)) ∧ Hid (L'.length = p ∧ Wd L') ∧ Hid (nv L' + c * 4294967296 ^ (i + k) = nv L + x * (nv (ys.take k) * 4294967296 ^ i) ∧ (∀ q, i + l1 ≤ q → i + k ≤ q → L'.getD q 0 = 0) ∧ (l1 < k → c = 0)) ∧ Hid (Kept w wq))
      case atStart => exact ⟨0, 0, L, rfl, rfl, Nat.zero_le _, by omega, by omega, HR, HL, Lib.hid ⟨by simp [nv_nil], fun q h _ => HI.out.2 q h, fun _ => rfl⟩, HK⟩
      case round =>
        obtain ⟨k, c, L', rfl, rfl, hk, hkx2, hc, HR2, HL2', HI2, HK2⟩ := hrel
        by_cases hlt2 : k < l2
        · have hy := HWB.out.getD k
          have hy0 : l1 ≤ k → ys.getD k 0 = 0 := fun h => by rw [List.getD_eq_getElem?_getD, List.getElem?_eq_none (by rw [← H1.out]; exact h)]; rfl
          have HY := Lib.hid (fun W (hk : Kept wr W) => HB.out W (HK2.out.trans hk) k)
          have hpp := HP.out
          have hl2 := HL2.out
          have hik : i + k < L'.length := by have := HL2'.out.1; omega
          have hikp : i + k < p := by omega
          obtain ⟨u, hu⟩ : ∃ u, u = i + k := ⟨_, rfl⟩
          have eik : (i : Int) + (k : Int) = (u : Int) := by omega
          have hup : u < p := by omega
          have hup' : (u : Int) < (p : Int) := by omega
          have HU := Lib.hid hu
          have f := HR2.out.free u
          have hst := wds_cell HR2.out u (by rw [hu]; exact hik)
          rw [hu] at hst
          have hwz := HL2'.out.2.getD (i + k)
          have hz0 : l1 ≤ k → L'.getD (i + k) 0 = 0 := fun h => HI2.out.2.1 _ (by omega) (Nat.le_refl _)
          have HST : Hid (∀ s, s = c + x * ys.getD k 0 + L'.getD (i + k) 0 → nv (L'.set (i + k) (s % 4294967296)) + (s / 4294967296) * 4294967296 ^ (i + (k + 1)) = nv L + x * (nv (ys.take (k + 1)) * 4294967296 ^ i)) := Lib.hid fun s hs => mul_inner HI2.out.1 hik hs
          generalize ys.getD k 0 = y at *
          generalize L'.getD (i + k) 0 = z at *
          obtain ⟨hs1, hs2, hs3⟩ := sub_words hc hx hy hwz
          obtain ⟨s, hs⟩ : ∃ s, s = c + x * y + z := ⟨_, rfl⟩
          have HSS := Lib.hid (HST.out s hs)
          rw [← hs] at hs1 hs3
          obtain ⟨xy, hxy⟩ : ∃ xy, xy = x * y := ⟨_, rfl⟩
          rw [← hxy] at hs hs2
          have hxy0 : y = 0 → xy = 0 := fun h => by rw [hxy, h, Nat.mul_zero]
          have exy : (x : Int) * (y : Int) = (xy : Int) := by rw [hxy]; simp
          obtain ⟨xz, hxz⟩ : ∃ xz, xz = xy + z := ⟨_, rfl⟩
          have exz : (xy : Int) + (z : Int) = (xz : Int) := by omega
          have hxz9 : xz < 18446744073709551616 := by omega
          obtain ⟨r, hr⟩ : ∃ r, r = s % 4294967296 := ⟨_, rfl⟩
          obtain ⟨q, hq⟩ : ∃ q, q = s / 4294967296 := ⟨_, rfl⟩
          rw [← hr, ← hq] at HSS
          rw [← hq] at hs3
          have hlast : l1 < k + 1 → q = 0 := fun h => by
            have h1 := hz0 (by omega)
            have h2 := hxy0 (hy0 (by omega))
            omega
          have HLA := Lib.hid hlast
          have hr9 : r < 4294967296 := by omega
          have es : (xz : Int) + (c : Int) = (s : Int) := by omega
          have e6 : (s : Int) / 4294967296 = (q : Int) := by omega
          have hkn2 : (k : Int) < (l2 : Int) := by omega
          have e5 : IntKind.u32.wrap (s : Int) = (r : Int) := by rw [IntKind.wrap_u32]; omega
          rw [← HU.out] at hst
          have hu9 : u < 549755813889 := by omega
          have ww1 : IntKind.i64.wrap (u : Int) = (u : Int) := by rw [IntKind.wrap_i64]; omega
          have ww2 : IntKind.u64.wrap (xy : Int) = (xy : Int) := by rw [IntKind.wrap_u64]; omega
          have ww3 : IntKind.u64.wrap (xz : Int) = (xz : Int) := by rw [IntKind.wrap_u64]; omega
          have ww4 : IntKind.u64.wrap (s : Int) = (s : Int) := by rw [IntKind.wrap_u64]; omega
          have hst' := ((Kept.refl wr).drew).cell hst
          clear hu hik hikp hs hr hq HST hxy hpp hl2 hxy0 hlast hz0 hy0 hxz
          go_wp2_with fail
          go_region_with ((go_at_call 129; refine (HY.out _ (by first | exact Kept.refl _ | exact (Kept.refl _).drew)).mono ?_; rintro e w2 ⟨rfl, rfl⟩))
          all_goals
            go_wp2
            go_roundg (l2 - (k + 1))
            case measure => omega
            case rel => exact ⟨k + 1, q, L'.set (i + k) r, rfl, by go_num, by omega, Nat.le_refl _, hs3, Lib.hid (by have h := wds_store (HR2.out.kept (Kept.refl _).drew) u r; rw [HU.out] at h ⊢; exact h), Lib.hid ⟨by rw [List.length_set]; exact HL2'.out.1, HL2'.out.2.set _ r hr9⟩, Lib.hid ⟨HSS.out, fun q' h1 h2 => by rw [getD_set_ne (by omega)]; exact HI2.out.2.1 q' h1 (by omega), HLA.out⟩, Lib.hid ((HK2.out.trans (Kept.refl _).drew).store (Nat.le_refl _) _ _)⟩
        · have hke : k = l2 := by omega
          have HNX : Hid (nv L' = nv (xs.take (i + 1)) * nv ys) := Lib.hid (by
            have h := HI2.out.1
            rw [HI2.out.2.2 (by have := HL2.out; omega), Nat.zero_mul, Nat.add_zero, nv_take_all ys k (by have := HL2.out; have := H1.out; omega), HI.out.1] at h
            rw [h, nv_take_succ, Nat.add_mul, HX.out, Nat.mul_assoc (xs.getD i 0), Nat.mul_comm (nv ys)])
          have HKE := Lib.hid hke
          clear hke
          go_wp2
          go_roundg (l0 - (i + 1))
          case measure => omega
          case rel => exact ⟨i + 1, L', by go_num, by omega, Nat.le_refl _, HR2, HL2', Lib.hid ⟨HNX.out, fun q hq => HI2.out.2.1 q (by omega) (by have := HKE.out; have := HL2.out; omega)⟩, HK2⟩
    · have hie : i = l0 := by omega
      have HV : Hid (nv L = nv xs * nv ys) := Lib.hid (by have := HI.out.1; rw [hie, H0.out, nv_take_all _ _ (Nat.le_refl _)] at this; exact this)
      have HT : Hid (Calls Tryz.prog 126 #[.slice (some ⟨w.heap.size, 0, none⟩) p p] wo fun e w' => (∃ v', e = .returned v' ∧ OwnWds w' wo.heap.size v' (nw (nv L))) ∧ Kept wo w') := Lib.hid (by
        have h := row_wds HR.out (c := p) (by rw [HL.out.1]; exact Nat.le_refl _) (by rw [HL.out.1]; omega) HL.out.2
        rw [HL.out.1] at h
        exact rtrim_any _ _ _ h)
      clear hie
      go_wp2_with fail
      refine HT.out.mono ?_
      rintro e w2 ⟨⟨v2, rfl, hv2⟩, hk2⟩
      have HV2 := Lib.hid hv2
      have HK2 := Lib.hid (HK.out.trans hk2)
      clear hv2 hk2
      go_wp2
      go_ret
      exact ⟨⟨_, rfl, by rw [← HV.out]; exact HV2.out.at⟩, HK2.out⟩
end Go.Proofs.YtpaedhlacbpmpaaGreatDoor

/-
  Walk: faultlineref01.Bits.
-/
namespace Go.Proofs.YtpaedhlacbpmpaaGreatDoor
open Go.RowKit

theorem and_u32 (a b : Nat) (ha : a < 4294967296) (hb : b < 4294967296) : bits .and .u32 (a : Int) (b : Int) = ((a &&& b : Nat) : Int) := by
  have h : (BitVec.ofInt 32 (a : Int) &&& BitVec.ofInt 32 (b : Int)).toNat = a &&& b := by rw [BitVec.toNat_and, ofNat_toNat32 a ha, ofNat_toNat32 b hb]
  show IntKind.u32.wrap (((BitVec.ofInt 32 (a : Int) &&& BitVec.ofInt 32 (b : Int)).toNat : Nat) : Int) = _
  rw [h, IntKind.wrap_u32]
  have := Nat.and_le_left (n := a) (m := b)
  omega
/-- The number of bits. -/
def BL (n v : Nat) : Prop := v < 2 ^ n ∧ (n = 0 ∨ 2 ^ (n - 1) ≤ v)
theorem BL.zero : BL 0 0 := ⟨by simp, .inl rfl⟩
theorem BL.iff0 {n v : Nat} (h : BL n v) : n = 0 ↔ v = 0 := by
  constructor
  · intro e; subst e; have := h.1; simpa using this
  · intro e; subst e
    rcases h.2 with h2 | h2
    · exact h2
    · have := Nat.two_pow_pos (n - 1); omega
theorem BL.iff1 {n v : Nat} (h : BL n v) : n = 1 ↔ v = 1 := by
  constructor
  · intro e; subst e
    have h1 := h.1
    rcases h.2 with h2 | h2
    · omega
    · simp at h1 h2; omega
  · intro e; subst e
    have h0 : n ≠ 0 := fun e => by have := h.iff0.1 e; omega
    rcases Nat.lt_or_ge 1 n with h1 | h1
    · exfalso
      rcases h.2 with h2 | h2
      · exact h0 h2
      · have : 2 ^ 1 ≤ 2 ^ (n - 1) := Nat.pow_le_pow_right (by omega) (by omega)
        omega
    · omega
/-- One more bit, above all others. -/
theorem BL.step {n v p : Nat} {b : Nat} (h : BL n v) (hb : b = 0 ∨ b = 1) (hv : v < 2 ^ p) : BL (if b = 1 then p + 1 else n) (v + b * 2 ^ p) := by
  rcases hb with rfl | rfl
  · simpa using h
  · rw [if_pos rfl]
    refine ⟨by rw [Nat.pow_succ]; omega, .inr (by rw [Nat.add_sub_cancel]; omega)⟩
theorem bit_step (x k : Nat) : x % 2 ^ (k + 1) = x % 2 ^ k + (x / 2 ^ k % 2) * 2 ^ k := by
  rw [Nat.pow_succ, Nat.mod_mul, Nat.mul_comm (2 ^ k)]
set_option maxRecDepth 100000 in
set_option maxHeartbeats 2000000 in
theorem refbits_any (va : Value) (xs : List Nat) (w : World) (ha : WdsAt w va xs) :
    Calls Tryz.prog 92 #[va] w fun e w' => (∃ k : Nat, e = .returned (.int .i64 k) ∧ BL k (nv xs)) ∧ w' = w := by
  have HA := Lib.hid ha
  obtain ⟨a0, c0, rfl⟩ := ha.shape
  obtain ⟨n, hn⟩ : ∃ n, n = xs.length := ⟨_, rfl⟩
  have hn9 : n ≤ 1099511627776 := by rw [hn]; exact ha.len
  rw [← hn] at HA ⊢
  have HN := Lib.hid hn
  clear ha hn
  go_enter Tryz.func92, Tryz.ntmps92
  go_wp2_with fail
  go_loopg [3, 9] n (fun kx s3 s9 wr => ∃ i z : Nat, s3 = .int .i64 z ∧ s9 = .int .i64 i ∧ i ≤ n ∧ n - i ≤ kx ∧ z ≤ 32 * i ∧ Hid (BL z (nv (xs.take i))) ∧ w = wr)
  case atStart => exact ⟨0, 0, rfl, rfl, Nat.zero_le _, by omega, by omega, Lib.hid (by simpa [nv_nil] using BL.zero), rfl⟩
  case round =>
    obtain ⟨i, z, rfl, rfl, hi, hkx, hz, HB, rfl⟩ := hrel
    by_cases hlt : i < n
    · obtain ⟨b, o, rfl, hc⟩ := HA.out.get i (by have := HN.out; omega)
      have hx9 := HA.out.wd.getD i
      obtain ⟨x, hx⟩ : ∃ x, x = xs.getD i 0 := ⟨_, rfl⟩
      rw [← hx] at hc hx9
      have HX := Lib.hid hx
      have hin : (i : Int) < (n : Int) := by omega
      have HV : Hid (nv (xs.take i) < 2 ^ (32 * i)) := Lib.hid (by
        have h := nv_lt (HA.out.wd.take i)
        rw [List.length_take, Nat.min_eq_left (by have := HN.out; omega), show (4294967296 : Nat) = 2 ^ 32 by rfl, ← Nat.pow_mul] at h
        exact h)
      clear hx
      go_wp2_with fail
      go_loopg [3, 14] 32 (fun kx s3 s14 wq => ∃ k y : Nat, s3 = .int .i64 y ∧ s14 = .int .i64 k ∧ k ≤ 32 ∧ 32 - k ≤ kx ∧ y ≤ 32 * i + k ∧ Hid (BL y (nv (xs.take i) + (x % 2 ^ k) * 2 ^ (32 * i))) ∧ w = wq)
      case atStart => exact ⟨0, z, rfl, rfl, by omega, by omega, by omega, Lib.hid (by rw [Nat.pow_zero, Nat.mod_one, Nat.zero_mul, Nat.add_zero]; exact HB.out), rfl⟩
      case round =>
        obtain ⟨k, y, rfl, rfl, hk, hkx2, hy, HY, rfl⟩ := hrel
        by_cases hlt2 : k < 32
        · obtain ⟨u, hu⟩ : ∃ u, u = x / 2 ^ k := ⟨_, rfl⟩
          have hu9 : u < 4294967296 := by have := Nat.div_le_self x (2 ^ k); omega
          obtain ⟨d, hd⟩ : ∃ d, d = u % 2 := ⟨_, rfl⟩
          have eu : (x : Int) / 2 ^ k = (u : Int) := by rw [hu]; simp
          have ed : bits .and .u32 (u : Int) 1 = (d : Int) := by
            have h := and_u32 u 1 hu9 (by omega)
            rw [Nat.and_one_is_mod, ← hd] at h
            simpa using h
          have HNX : Hid (BL (if d = 1 then 32 * i + k + 1 else y) (nv (xs.take i) + (x % 2 ^ (k + 1)) * 2 ^ (32 * i))) := Lib.hid (by
            have hv : nv (xs.take i) + (x % 2 ^ k) * 2 ^ (32 * i) < 2 ^ (32 * i + k) := by
              have h1 : (x % 2 ^ k + 1) * 2 ^ (32 * i) ≤ 2 ^ k * 2 ^ (32 * i) := Nat.mul_le_mul_right _ (Nat.mod_lt _ (Nat.two_pow_pos k))
              rw [← Nat.pow_add, Nat.add_comm k, Nat.add_mul, Nat.one_mul] at h1
              have := HV.out
              omega
            have h := HY.out.step (b := d) (by omega) hv
            rw [bit_step, ← hu, ← hd, Nat.add_mul, Nat.mul_assoc d, ← Nat.pow_add, Nat.add_comm k, ← Nat.add_assoc]
            exact h)
          have hk32 : (k : Int) < 32 := by omega
          have hk0 : ¬ (k : Int) < 0 := by omega
          rcases (by omega : d = 0 ∨ d = 1) with h | h
          · subst h
            clear hu hd
            go_wp2_with fail
            go_roundg (32 - (k + 1))
            case measure => omega
            case rel => exact ⟨k + 1, y, rfl, by go_num, by omega, Nat.le_refl _, by omega, Lib.hid (by simpa using HNX.out), rfl⟩
          · subst h
            obtain ⟨t, ht⟩ : ∃ t, t = 32 * i := ⟨_, rfl⟩
            have et : 32 * (i : Int) = (t : Int) := by omega
            have ht9 : t ≤ 35184372088832 := by omega
            obtain ⟨t1, ht1⟩ : ∃ t1, t1 = t + k := ⟨_, rfl⟩
            have et1 : (t : Int) + (k : Int) = (t1 : Int) := by omega
            obtain ⟨t2, ht2⟩ : ∃ t2, t2 = t1 + 1 := ⟨_, rfl⟩
            have et2 : (t1 : Int) + 1 = (t2 : Int) := by omega
            have ht19 : t1 ≤ 35184372088864 := by omega
            have ht29 : t2 ≤ 35184372088865 := by omega
            have HT2 : Hid (t2 = 32 * i + k + 1) := Lib.hid (by omega)
            clear hu hd ht ht1 ht2
            go_wp2_with fail
            go_roundg (32 - (k + 1))
            case measure => omega
            case rel => exact ⟨k + 1, t2, rfl, by go_num, by omega, Nat.le_refl _, by have := HT2.out; omega, Lib.hid (by have h := HNX.out; simp only [if_true] at h; rw [← HT2.out] at h; exact h), rfl⟩
        · have hke : k = 32 := by omega
          have HNX : Hid (BL y (nv (xs.take (i + 1)))) := Lib.hid (by
            have h := HY.out
            rw [hke, show (2 : Nat) ^ 32 = 4294967296 by rfl, Nat.mod_eq_of_lt hx9, HX.out] at h
            rw [nv_take_succ, show (4294967296 : Nat) = 2 ^ 32 by rfl, ← Nat.pow_mul]
            exact h)
          have hy2 : y ≤ 32 * (i + 1) := by omega
          clear hke
          go_wp2_with fail
          go_roundg (n - (i + 1))
          case measure => omega
          case rel => exact ⟨i + 1, y, rfl, by go_num, by omega, Nat.le_refl _, hy2, HNX, rfl⟩
    · have hie : i = n := by omega
      have HF : Hid (BL z (nv xs)) := Lib.hid (by have h := HB.out; rw [hie, HN.out, nv_take_all _ _ (Nat.le_refl _)] at h; exact h)
      clear hie
      go_wp2_with fail
      go_ret
      exact ⟨⟨z, rfl, HF.out⟩, rfl⟩
end Go.Proofs.YtpaedhlacbpmpaaGreatDoor

/-
  Walks: faultlineref01.up, down.
-/
namespace Go.Proofs.YtpaedhlacbpmpaaGreatDoor
open Go.RowKit

theorem or_shift {c x s : Nat} (hc : c < 2 ^ s) : (c ||| x * 2 ^ s) = c + x * 2 ^ s := by
  rw [Nat.or_comm, Nat.mul_comm, ← Nat.two_pow_add_eq_or_of_lt hc]; omega
set_option maxRecDepth 100000 in
set_option maxHeartbeats 2000000 in
theorem refup_any (va : Value) (xs : List Nat) (s : Nat) (w : World) (ha : WdsAt w va xs) (hs : s < 32) (hla : xs.length ≤ 549755813888) :
    Calls Tryz.prog 146 #[va, .int .i64 s] w fun e w' => (∃ v', e = .returned v' ∧ WdsAt w' v' (nw (nv xs * 2 ^ s))) ∧ Kept w w' := by
  have HA := Lib.hid ha
  obtain ⟨a0, c0, rfl⟩ := ha.shape
  obtain ⟨l0, h0⟩ : ∃ l0, l0 = xs.length := ⟨_, rfl⟩
  rw [← h0] at HA hla ⊢
  have H0 := Lib.hid h0
  have hs0 : ¬ (s : Int) < 0 := by omega
  clear ha h0
  go_enter Tryz.func146, Tryz.ntmps146
  go_wp2_with fail
  go_loopg [5, 6, 11] l0 (fun kx s5 s6 s11 wr => ∃ (i c : Nat) (L : List Nat), s6 = .int .u64 c ∧ s11 = .int .i64 i ∧ i ≤ l0 ∧ l0 - i ≤ kx ∧ c < 4294967296 ∧ Hid (c < 2 ^ s) ∧ Hid (OwnWds wr w.heap.size s5 L) ∧ Hid (L.length = i) ∧ Hid (nv L + c * 4294967296 ^ i = nv (xs.take i) * 2 ^ s) ∧ Hid (Kept w wr))
  case atStart => exact ⟨0, 0, [], rfl, rfl, Nat.zero_le _, by omega, by omega, Lib.hid (Nat.two_pow_pos s), Lib.hid (OwnWds.nil _ _), Lib.hid rfl, Lib.hid (by simp [nv_nil]), Lib.hid (Kept.refl _)⟩
  case round =>
    obtain ⟨i, c, L, rfl, rfl, hi, hkx, hc, HC, HO, HL, HI, HK⟩ := hrel
    have hi9 : i < 1099511627776 := by omega
    have HI9 : Hid (L.length < 1099511627776) := Lib.hid (by rw [HL.out]; exact hi9)
    have HSZ := Lib.hid HK.out.size
    by_cases hlt : i < l0
    · obtain ⟨b, o, rfl, hcx⟩ := (HA.out.kept HK.out).get i (by have := H0.out; omega)
      have hx := HA.out.wd.getD i
      obtain ⟨x, hxx⟩ : ∃ x, x = xs.getD i 0 := ⟨_, rfl⟩
      rw [← hxx] at hcx hx
      obtain ⟨y, hy⟩ : ∃ y, y = x * 2 ^ s := ⟨_, rfl⟩
      have hy9 : y < 18446744073709551616 := by rw [hy]; exact shl_word x s hx hs
      have ey : (x : Int) * 2 ^ s = (y : Int) := by rw [hy]; simp
      obtain ⟨t, ht⟩ : ∃ t, t = c + y := ⟨_, rfl⟩
      have eo : bits .or .u64 (c : Int) (y : Int) = (t : Int) := by
        have h := or_u64 c y (by omega) hy9
        rw [hy, or_shift HC.out, ← hy, ← ht] at h
        exact h
      have htt : t < 2 ^ s * 4294967296 := by
        have h1 : (x + 1) * 2 ^ s ≤ 4294967296 * 2 ^ s := Nat.mul_le_mul_right _ hx
        rw [Nat.add_mul, Nat.one_mul, Nat.mul_comm 4294967296] at h1
        have := HC.out
        omega
      have ht9 : t < 18446744073709551616 := by
        have h2 : 2 ^ s ≤ 2 ^ 31 := Nat.pow_le_pow_right (by omega) (by omega)
        have h3 : 2 ^ s * 4294967296 ≤ 2 ^ 31 * 4294967296 := Nat.mul_le_mul_right _ h2
        omega
      obtain ⟨r, hr⟩ : ∃ r, r = t % 4294967296 := ⟨_, rfl⟩
      obtain ⟨q, hq⟩ : ∃ q, q = t / 4294967296 := ⟨_, rfl⟩
      have hr9 : r < 4294967296 := by omega
      have hq9 : q < 4294967296 := by omega
      have HQ : Hid (q < 2 ^ s) := Lib.hid (by rw [hq]; exact Nat.div_lt_of_lt_mul (by rw [Nat.mul_comm]; exact htt))
      have e6 : (t : Int) / 4294967296 = (q : Int) := by omega
      have e5 : IntKind.u32.wrap (t : Int) = (r : Int) := by rw [IntKind.wrap_u32]; omega
      have HNX : Hid (nv (L ++ [r]) + q * 4294967296 ^ (i + 1) = nv (xs.take (i + 1)) * 2 ^ s) := Lib.hid (by
        have h1 := mul_divmod t (4294967296 ^ i)
        rw [← hr, ← hq] at h1
        have h2 := HI.out
        rw [nv_push HL.out, nv_take_succ, ← hxx, Nat.add_mul, ← h2, Nat.pow_succ, Nat.mul_comm (4294967296 ^ i) 4294967296, Nat.add_assoc, h1, ht, Nat.add_mul, hy, Nat.mul_assoc x, Nat.mul_comm (2 ^ s), ← Nat.mul_assoc]
        omega)
      have hin : (i : Int) < (l0 : Int) := by omega
      clear hxx hy ht htt hr hq
      go_wp2_with (at_builtin; refine app_wd rfl _ _ rfl w.heap.size _ L rfl (HO.out.kept ((Kept.refl _).alloc _)) _ r rfl (by simp) hr9 HI9.out (by have := HSZ.out; simp; omega) ?_; intro v7 w7 h7 hb7; have O7 := Lib.hid h7; have HB7 := Lib.hid hb7; clear h7 hb7)
      go_roundg (l0 - (i + 1))
      case measure => omega
      case rel => exact ⟨i + 1, q, L ++ [r], rfl, by go_num, by omega, Nat.le_refl _, hq9, HQ, O7, Lib.hid (by rw [List.length_append, HL.out]; rfl), HNX, Lib.hid ((HK.out.alloc _).app HB7.out)⟩
    · have hie : i = l0 := by omega
      have HV : Hid (nv (L ++ [c]) = nv xs * 2 ^ s) := Lib.hid (by
        have h := HI.out
        rw [nv_push HL.out, h, hie, H0.out, nv_take_all _ _ (Nat.le_refl _)])
      have e5 : IntKind.u32.wrap (c : Int) = (c : Int) := by rw [IntKind.wrap_u32]; omega
      have HT : Hid (∀ W v7, OwnWds W w.heap.size v7 (L ++ [c]) → Calls Tryz.prog 126 #[v7] W fun e w' => (∃ v', e = .returned v' ∧ WdsAt w' v' (nw (nv xs * 2 ^ s))) ∧ Kept W w') := Lib.hid fun W v7 h7 => by
        have h := rtrim_any v7 _ W h7.at
        rw [HV.out] at h
        exact h.mono fun _ _ ⟨⟨v', h1, h2⟩, h3⟩ => ⟨⟨v', h1, h2.at⟩, h3⟩
      clear hie
      go_wp2_with (first
        | (at_builtin; refine app_wd rfl _ _ rfl w.heap.size _ L rfl (HO.out.kept ((Kept.refl _).alloc _)) _ c rfl (by simp) hc HI9.out (by have := HSZ.out; simp; omega) ?_; intro v7 w7 h7 hb7; have O7 := Lib.hid h7; have HB7 := Lib.hid hb7; clear h7 hb7)
        | (go_at_call 126; (with_reducible refine (HT.out _ _ O7.out).mono ?_); rintro e w8 ⟨⟨v8, rfl, hv8⟩, hk8⟩; have HV8 := Lib.hid hv8; have HK8 := Lib.hid hk8; clear hv8 hk8))
      go_ret
      exact ⟨⟨_, rfl, HV8.out⟩, ((HK.out.alloc _).app HB7.out).trans HK8.out⟩
set_option maxRecDepth 100000 in
set_option maxHeartbeats 2000000 in
theorem refdown_any (va : Value) (xs : List Nat) (n : Nat) (w : World) (ha : WdsAt w va xs) (hn : n < 32) :
    Calls Tryz.prog 147 #[va, .int .i64 n] w fun e w' => (∃ v', e = .returned v' ∧ WdsAt w' v' (nw (nv xs / 2 ^ n))) ∧ Kept w w' := by
  have HW := Lib.hid (fun W (hk : Kept w W) (i : Nat) => rword_any va xs i W (ha.kept hk))
  have HA := Lib.hid ha
  obtain ⟨a0, c0, rfl⟩ := ha.shape
  obtain ⟨l0, h0⟩ : ∃ l0, l0 = xs.length := ⟨_, rfl⟩
  have hl9 : l0 ≤ 1099511627776 := by rw [h0]; exact ha.len
  rw [← h0] at HW ⊢
  have H0 := Lib.hid h0
  have hn0 : ¬ (n : Int) < 0 := by omega
  clear ha h0
  go_enter Tryz.func147, Tryz.ntmps147
  go_wp2_with fail
  go_loopg [5, 9] l0 (fun kx s5 s9 wr => ∃ (i : Nat) (L : List Nat), s9 = .int .i64 i ∧ i ≤ l0 ∧ l0 - i ≤ kx ∧ Hid (OwnWds wr w.heap.size s5 L) ∧ Hid (L.length = i) ∧ Hid (nv L = nv xs / 2 ^ n % 4294967296 ^ i) ∧ Hid (Kept w wr))
  case atStart => exact ⟨0, [], rfl, Nat.zero_le _, by omega, Lib.hid (OwnWds.nil _ _), Lib.hid rfl, Lib.hid (by simp [nv_nil, Nat.mod_one]), Lib.hid (Kept.refl _)⟩
  case round =>
    obtain ⟨i, L, rfl, hi, hkx, HO, HL, HI, HK⟩ := hrel
    by_cases hlt : i < l0
    · obtain ⟨t, u, h1, h2, h3, h4, h5⟩ := right_word hn (by have := H0.out; omega : i < xs.length) HA.out.wd
      have hx := HA.out.wd.getD i
      have hx1 := HA.out.wd.getD (i + 1)
      have HX := Lib.hid (HW.out wr HK.out i)
      have HX1 := Lib.hid (HW.out wr HK.out (i + 1))
      generalize xs.getD i 0 = x at *
      generalize xs.getD (i + 1) 0 = x1 at *
      obtain ⟨r, hr⟩ : ∃ r, r = u % 4294967296 := ⟨_, rfl⟩
      have hr9 : r < 4294967296 := by omega
      have e5 : IntKind.u32.wrap (u : Int) = (r : Int) := by rw [IntKind.wrap_u32]; omega
      have HS : Hid (nv (L ++ [r]) = nv xs / 2 ^ n % 4294967296 ^ (i + 1)) := Lib.hid (by rw [nv_push HL.out, HI.out, hr, h5, mod_pow_succ])
      have hkn : (i : Int) < (l0 : Int) := by omega
      have HI9 : Hid (L.length < 1099511627776) := Lib.hid (by rw [HL.out]; omega)
      have HSZ := Lib.hid HK.out.size
      clear h5 hr
      go_wp2_with (first
        | (go_at_call 129; (with_reducible refine HX.out.mono ?_); rintro e w2 ⟨rfl, rfl⟩)
        | (go_at_call 129; refine HX1.out.mono ?_; rintro e w2 ⟨rfl, rfl⟩)
        | (at_builtin; refine app_wd rfl _ _ rfl w.heap.size _ L rfl (HO.out.kept ((Kept.refl _).alloc _)) _ r rfl (by simp) hr9 HI9.out (by have := HSZ.out; simp; omega) ?_; intro v7 w7 h7 hb7; have O7 := Lib.hid h7; have HB7 := Lib.hid hb7; clear h7 hb7))
      go_roundg (l0 - (i + 1))
      case measure => omega
      case rel => exact ⟨i + 1, L ++ [r], by go_num, by omega, Nat.le_refl _, O7, Lib.hid (by rw [List.length_append, HL.out]; rfl), HS, Lib.hid ((HK.out.alloc _).app HB7.out)⟩
    · have hie : i = l0 := by omega
      have HV : Hid (nv L = nv xs / 2 ^ n) := Lib.hid (by
        rw [HI.out]
        refine Nat.mod_eq_of_lt (Nat.lt_of_le_of_lt (Nat.div_le_self _ _) ?_)
        rw [hie, H0.out]; exact nv_lt HA.out.wd)
      have HT := Lib.hid (rtrim_any _ _ _ HO.out.at)
      clear hie
      go_wp2_with fail
      refine HT.out.mono ?_
      rintro e w2 ⟨⟨v2, rfl, hv2⟩, hk2⟩
      have HV2 := Lib.hid hv2
      have HK2 := Lib.hid (HK.out.trans hk2)
      clear hv2 hk2
      go_wp2
      go_ret
      exact ⟨⟨_, rfl, by rw [← HV.out]; exact HV2.out.at⟩, HK2.out⟩
end Go.Proofs.YtpaedhlacbpmpaaGreatDoor

/-
  Plain: the reference's long division; the highest bit of a word.
-/
namespace Go.Proofs.YtpaedhlacbpmpaaGreatDoor
open Go.RowKit

theorem and_bit31 (y : Nat) (hy : y < 4294967296) : (y &&& 2 ^ 31) = if 2147483648 ≤ y then 2147483648 else 0 := by
  have hb : y.testBit 31 = decide (2147483648 ≤ y) := by
    rw [Nat.testBit_eq_decide_div_mod_eq, show (2 : Nat) ^ 31 = 2147483648 by rfl]
    exact decide_eq_decide.2 (by omega)
  by_cases h : 2147483648 ≤ y
  · rw [if_pos h, show (2147483648 : Nat) = 2 ^ 31 by rfl]
    refine Nat.eq_of_testBit_eq fun i => ?_
    rw [Nat.testBit_and, Nat.testBit_two_pow]
    by_cases e : 31 = i
    · subst e; rw [hb]; simp [h]
    · simp [e]
  · rw [if_neg h]
    refine Nat.eq_of_testBit_eq fun i => ?_
    rw [Nat.testBit_and, Nat.testBit_two_pow, Nat.zero_testBit]
    by_cases e : 31 = i
    · subst e; rw [hb]; simp [h]
    · simp [e]
theorem and_top (y : Nat) (hy : y < 4294967296) : bits .and .u32 (y : Int) 2147483648 = if 2147483648 ≤ y then 2147483648 else 0 := by
  have h := and_u32 y (2 ^ 31) hy (by omega)
  rw [and_bit31 y hy] at h
  by_cases h2 : 2147483648 ≤ y
  · rw [if_pos h2] at h ⊢
    simpa using h
  · rw [if_neg h2] at h ⊢
    simpa using h
/-- The shifted divisor has as many words, and its highest bit is 1. -/
theorem norm_word {B s m x N : Nat} (hl : (nw B).length = m + 1) (hx : x = (nw B).getD m 0) (hs : s < 32) (h1 : 2147483648 ≤ x * 2 ^ s) (h2 : x * 2 ^ s < 4294967296) (hN : N = B * 2 ^ s) : (nw N).length = m + 1 ∧ 2147483648 ≤ (nw N).getD m 0 ∧ N < 4294967296 ^ (m + 1) := by
  obtain ⟨_, h3, h4⟩ := top_word (nw_wd B) (m := m) hl
  rw [nv_nw, ← hx] at h3 h4
  have h5 : (x + 1) * 2 ^ s ≤ 4294967296 := by
    have e : (4294967296 : Nat) = 2 ^ (32 - s) * 2 ^ s := by rw [← Nat.pow_add, show 32 - s + s = 32 by omega]
    rw [e] at h2 ⊢
    exact Nat.mul_le_mul_right _ (Nat.lt_of_mul_lt_mul_right h2)
  have hlt : N < 4294967296 ^ (m + 1) := by
    have h6 : B * 2 ^ s < (x + 1) * 4294967296 ^ m * 2 ^ s := (Nat.mul_lt_mul_right (Nat.two_pow_pos _)).2 h4
    have h7 : (x + 1) * 4294967296 ^ m * 2 ^ s = (x + 1) * 2 ^ s * 4294967296 ^ m := by rw [Nat.mul_assoc, Nat.mul_comm (4294967296 ^ m), ← Nat.mul_assoc]
    have h8 : (x + 1) * 2 ^ s * 4294967296 ^ m ≤ 4294967296 * 4294967296 ^ m := Nat.mul_le_mul_right _ h5
    rw [Nat.pow_succ, Nat.mul_comm (4294967296 ^ m), hN]
    omega
  have hge : 2147483648 * 4294967296 ^ m ≤ N := by
    have h6 : x * 2 ^ s * 4294967296 ^ m ≤ N := by
      rw [hN, Nat.mul_assoc, Nat.mul_comm (2 ^ s), ← Nat.mul_assoc]; exact Nat.mul_le_mul_right _ h3
    exact Nat.le_trans (Nat.mul_le_mul_right _ h1) h6
  have hlen : (nw N).length = m + 1 := by
    have h6 := nw_len_lt.2 hlt
    rcases Nat.lt_or_ge m (nw N).length with h7 | h7
    · omega
    · have h8 := nw_len_lt.1 h7
      have : 1 * 4294967296 ^ m ≤ 2147483648 * 4294967296 ^ m := Nat.mul_le_mul_right _ (by omega)
      omega
  refine ⟨hlen, ?_, hlt⟩
  obtain ⟨_, _, h6⟩ := top_word (nw_wd N) (m := m) hlen
  rw [nv_nw] at h6
  have := Nat.lt_of_mul_lt_mul_right (Nat.lt_of_le_of_lt hge h6)
  omega
/-- The reference's estimate is not less than the digit. -/
theorem ref_guess {N X m head : Nat} (hN : (nw N).length = m + 1) (ht : 2147483648 ≤ (nw N).getD m 0) (hX : X < N * 4294967296) (hh : head = (nw X).getD (m + 1) 0 * 4294967296 + (nw X).getD m 0) : X / N ≤ min (head / (nw N).getD m 0) 4294967295 := by
  have hlt := nw_len_lt.1 (Nat.le_of_eq hN)
  have hXl : X < 4294967296 ^ (m + 2) := by
    rw [Nat.pow_succ]
    exact Nat.lt_of_lt_of_le hX (Nat.mul_le_mul_right _ (Nat.le_of_lt hlt))
  have hl := nw_len_lt.2 hXl
  refine Nat.le_min.2 ⟨?_, ?_⟩
  · obtain ⟨_, h3, _⟩ := top_word (nw_wd N) (m := m) hN
    rw [nv_nw] at h3
    refine guess_ge h3 ?_ (by omega)
    have h4 := nv_take_succ (nw X) m
    have h5 := nv_take_succ (nw X) (m + 1)
    rw [nv_take_all (nw X) (m + 1 + 1) (by omega), nv_nw] at h5
    have h6 : nv ((nw X).take m) < 4294967296 ^ m := by have := seg_lt (nw_wd X) 0 m; simpa using this
    rw [h4] at h5
    generalize (nw X).getD (m + 1) 0 = p at *
    generalize (nw X).getD m 0 = q at *
    generalize nv ((nw X).take m) = t at *
    have h7 : p * 4294967296 ^ (m + 1) = p * 4294967296 * 4294967296 ^ m := by rw [Nat.pow_succ, Nat.mul_comm (4294967296 ^ m), ← Nat.mul_assoc]
    rw [hh, Nat.add_mul, Nat.add_mul, Nat.one_mul]
    omega
  · have : X / N < 4294967296 := Nat.div_lt_of_lt_mul hX
    omega
end Go.Proofs.YtpaedhlacbpmpaaGreatDoor

/-
  Steps of a region that draws its order: make of a row, append of a slice of words.
-/
namespace Go.Proofs.YtpaedhlacbpmpaaGreatDoor
open Go.RowKit

/-- A row of one word of the call's own. -/
theorem own_oneW (w : World) (B x : Nat) (hx : x < 4294967296) (hB : B ≤ w.heap.size) : OwnWds (w.alloc (.cells #[.int .u32 (x : Int)] 34)) B (.slice (some ⟨w.heap.size, 0, none⟩) 1 1) [x] :=
  ⟨⟨by simp, .inr ⟨w.heap.size, 1, #[.int .u32 (x : Int)], rfl, hB, heap_alloc_new w _, Nat.le_refl _, by unfold maxLen; omega, by simp, by simp [w32]⟩⟩, by simp, Wd.cons hx Wd.nil⟩
/-- A round of the reference's long division. -/
theorem ref_step {Aw Q : List Nat} {N R j g X : Nat} (h : nv (Aw.drop (j + 1)) = N * nv (Q.drop (j + 1)) + R) (hj : j < Aw.length) (hq : j < Q.length) (hX : X = Aw.getD j 0 + 4294967296 * R) (hg : g = X / N) : nv (Aw.drop j) = N * nv ((Q.set j g).drop j) + X % N := by
  rw [nv_drop_step hj, nv_drop_step (l := Q.set j g) (by rw [List.length_set]; exact hq), getD_set_self hq, List.drop_set_of_lt (by omega), hg]
  exact long_step h X hX
/-- The guess goes down to the digit. -/
theorem ref_more {N X g : Nat} (hN : 0 < N) (hge : X / N ≤ g) (hm : X < N * g) : ∃ g', g = g' + 1 ∧ X / N ≤ g' ∧ N * g - N = N * g' ∧ N ≤ N * g := by
  have h1 : X / N < g := by rw [Nat.div_lt_iff_lt_mul hN, Nat.mul_comm]; exact hm
  have h0 : 0 < g := Nat.lt_of_le_of_lt (Nat.zero_le _) h1
  obtain ⟨g', rfl⟩ : ∃ g', g = g' + 1 := ⟨g - 1, (Nat.sub_add_cancel h0).symm⟩
  refine ⟨g', rfl, Nat.le_of_lt_succ h1, ?_, ?_⟩
  · rw [Nat.mul_add, Nat.mul_one, Nat.add_sub_cancel]
  · rw [Nat.mul_add, Nat.mul_one]; omega
theorem ref_done {N X g : Nat} (hN : 0 < N) (hge : X / N ≤ g) (hm : N * g ≤ X) : g = X / N ∧ X - N * g = X % N := by
  have h1 : g ≤ X / N := by rw [Nat.le_div_iff_mul_le hN, Nat.mul_comm]; exact hm
  have h2 : g = X / N := Nat.le_antisymm h1 hge
  refine ⟨h2, ?_⟩
  have h3 := Nat.div_add_mod X N
  rw [h2]
  generalize N * (X / N) = z at *
  omega
/-- The start of the reference's long division: the leading words are less than the divisor. -/
theorem ref_start {Aw : List Nat} {N m : Nat} (hw : Wd Aw) (hN : (nw N).length = m + 1) : nv (Aw.drop (Aw.length + 1 - (m + 1))) < N := by
  have h1 := nv_lt (hw.drop (Aw.length + 1 - (m + 1)))
  have h2 : 4294967296 ^ (Aw.drop (Aw.length + 1 - (m + 1))).length ≤ 4294967296 ^ m := Nat.pow_le_pow_right (by omega) (by rw [List.length_drop]; omega)
  have h3 : ¬ N < 4294967296 ^ m := fun h => by have := nw_len_lt.2 h; omega
  omega
end Go.Proofs.YtpaedhlacbpmpaaGreatDoor

/-
  Walk: faultlineref01.Div.
-/
namespace Go.Proofs.YtpaedhlacbpmpaaGreatDoor
open Go.RowKit

theorem run_make_u (w : World) (n : Nat) (hn : n ≤ 549755813888) : ∃ w', Sem.run Tryz.prog (Instr.makeSlice 36 (.int .i64 (n : Int)) (.int .i64 (n : Int))) w = Result.ok (.slice (some ⟨w.heap.size, 0, none⟩) n n) w' ∧ RowAt w' w.heap.size 34 (List.replicate n (.int .u32 0)) ∧ Kept w w' := by
  obtain ⟨i0, hi0, hz0, hz1, hz2⟩ := info_parts info_u32
  obtain ⟨w', hrun, r1, r2⟩ := run_make_full (P := Tryz.prog) w w.heap.size 36 34 i0 (.int .u32 0) 1 Tryz.underlying36 hi0 hz0 hz1 .i64 .i64 n (by rw [hz2]; omega) (by unfold maxLen; omega) (Nat.le_refl _)
  refine ⟨w', hrun, ?_, ⟨r2.os, r2.tape, r2.output, r2.size, fun k hk => r2.block k hk (by simp)⟩⟩
  rw [made_one (.int .u32 0) rfl n] at r1
  obtain ⟨h3, h4⟩ := r1
  rcases h4 with ⟨h4, _⟩ | ⟨g, cap, cur, h4, h5, h6, h7, h8, h9, h10⟩
  · cases h4
  · cases h4
    exact ⟨cur, h6, by simp; omega, by simpa using h10⟩
theorem step_wds2 {ops : Array Oper} {o : Oper} {a : Act} {K : Act → World → Prop} {Q : Exit → Act → World → Prop} {E : Prop} {w : World} (hgd : o.guard = none) (s x : Operand)
    (ho : o.op = .call { callee := .builtin .append, args := #[s, x], argTypes := #[36, 36] }) (B : Nat) (v : Value) (xs : List Nat) (hs : a.eval s = v) (hown : OwnWds w B v xs)
    (ad : Addr) (n c : Nat) (ys : List Nat) (hx : a.eval x = .slice (some ad) n c) (hu : WdsAt w (.slice (some ad) n c) ys) (hl : xs.length + ys.length ≤ 1099511627776) (hB : B ≤ w.heap.size)
    (h : ∀ v' w', OwnWds w' B v' (xs ++ ys) → w.grownBy w' v.ownBlock → K (a.put o.dst v') w') : if Region.wanted o (yielded ops a.tmps) = true then Oper.wp Tryz.prog o a w K Q else E := by
  have hw : Region.wanted o (yielded ops a.tmps) = true := by simp [Region.wanted, hgd]
  rw [if_pos hw]
  obtain ⟨i0, hi0, hz0, hz1, hz2⟩ := info_parts info_u32
  obtain ⟨ad', c', he, ⟨hc, hcn⟩, hl2, hwd, hcell⟩ := hu
  injection he with he1 he2 he3
  subst he2 he3
  subst he1
  refine wp_append_own _ s x 36 ho B 34 i0 _ 1 4 Tryz.underlying36 hi0 hz0 hz1 hz2 rfl (by decide) v xs.length _ hs hown.1 ad ys.length c (ys.map w32) hx (by simp) ?_ ?_ (by simp [maxLen]; omega) (by omega) hB ?_
  · intro j u hj
    have hj' : j < ys.length := by
      rcases Nat.lt_or_ge j ys.length with h | h
      · exact h
      · rw [List.getElem?_eq_none (by simpa using h)] at hj; cases hj
    obtain ⟨b, o, h5, h6⟩ := hcell j hj'
    cases h5
    simp [hj', w32] at hj
    subst hj
    rw [show ({ block := b, off := o } : Addr).add j = ⟨b, o + j, none⟩ by unfold Addr.add; split <;> simp_all, h6]
    simp [List.getD_eq_getElem?_getD, hj']
  · intro u hu; obtain ⟨y, _, rfl⟩ := List.mem_map.1 hu; rfl
  · intro v' w' h5 h6 _
    exact h v' w' ⟨by simpa using h5, by simp; omega, hown.2.2.app hwd⟩ h6
theorem up_len {xs : List Nat} {s : Nat} (hw : Wd xs) (hs : s < 32) : (nw (nv xs * 2 ^ s)).length ≤ xs.length + 1 := by
  have h : 2 ^ s ≤ 2 ^ 32 := Nat.pow_le_pow_right (by omega) (by omega)
  have e : (2 : Nat) ^ 32 = 4294967296 := rfl
  rw [e] at h
  refine nw_len_lt.2 ?_
  rw [Nat.pow_succ]
  exact Nat.lt_of_lt_of_le (Nat.mul_lt_mul_of_pos_right (nv_lt hw) (Nat.two_pow_pos s)) (Nat.mul_le_mul_left _ h)
set_option maxRecDepth 100000 in
set_option maxHeartbeats 4000000 in
theorem refdiv_any (va vb : Value) (xs ys : List Nat) (w : World) (ha : WdsAt w va xs) (hb : WdsAt w vb ys) (hla : xs.length ≤ 137438953472) (hlb : ys.length ≤ 137438953472) (hA0 : nv xs ≠ 0) (hB0 : nv ys ≠ 0) :
    Calls Tryz.prog 127 #[va, vb] w fun e w' => (∃ v1 v2, e = .returned (.tuple #[v1, v2, .int .i64 0]) ∧ WdsAt w' v1 (nw (nv xs / nv ys)) ∧ WdsAt w' v2 (nw (nv xs % nv ys))) ∧ Kept w w' := by
  have HTB := Lib.hid (rtrim_any vb ys w hb)
  obtain ⟨m, hm⟩ : ∃ m, (nw (nv ys)).length = m + 1 := ⟨(nw (nv ys)).length - 1, by
    have : (nw (nv ys)).length ≠ 0 := fun h => hB0 (nw_eq_nil.1 (List.eq_nil_of_length_eq_zero h))
    omega⟩
  have hm9 : m ≤ 137438953472 := by have := nw_length_le hb.wd; omega
  obtain ⟨x, hx⟩ : ∃ x, x = (nw (nv ys)).getD m 0 := ⟨_, rfl⟩
  have hx9 : x < 4294967296 := by rw [hx]; exact (nw_wd _).getD _
  have hx0 : x ≠ 0 := by
    have h := nw_pl (nv ys)
    have hne : nw (nv ys) ≠ [] := fun e => by rw [e] at hm; simp at hm
    have h2 := h hne
    rw [List.getLast_eq_getElem] at h2
    rw [hx, List.getD_eq_getElem?_getD, show m = (nw (nv ys)).length - 1 by omega, List.getElem?_eq_getElem (by omega)]
    exact h2
  obtain ⟨s0, _, hs32, hxs1, hxs2⟩ := lead_word hx9 hx0
  have HUA := Lib.hid (fun W (hk : Kept w W) => refup_any va xs s0 W (ha.kept hk) hs32 (by omega))
  have HAL : Hid ((nw (nv xs * 2 ^ s0)).length ≤ 137438953473) := Lib.hid (Nat.le_trans (up_len ha.wd hs32) (by omega))
  obtain ⟨a0, c0, rfl⟩ := ha.shape
  obtain ⟨a1, c1, rfl⟩ := hb.shape
  obtain ⟨A, hA⟩ : ∃ A, A = nv xs := ⟨_, rfl⟩
  obtain ⟨B, hB⟩ : ∃ B, B = nv ys := ⟨_, rfl⟩
  rw [← hB] at HTB hm hx ⊢
  rw [← hA] at HUA HAL hA0 ⊢
  have HA0 := Lib.hid hA0
  obtain ⟨n, hn⟩ : ∃ n, n = m + 1 := ⟨_, rfl⟩
  have HN := Lib.hid hn
  have HM := Lib.hid hm
  have HX := Lib.hid hx
  have HXS := Lib.hid (And.intro hxs1 hxs2)
  have en : (n : Int) - 1 = (m : Int) := by omega
  have hn0 : ((n : Int) == 0) = false := by simp; omega
  have hmn : m < n := by omega
  have hmn' : (m : Int) < (n : Int) := by omega
  have hn9 : n ≤ 137438953473 := by omega
  generalize xs.length = lx at *
  generalize ys.length = ly at *
  clear hx0 hm hx ha hb hA hB hB0 hn hla hlb hxs1 hxs2
  go_enter Tryz.func127, Tryz.ntmps127
  go_wp2_with fail
  refine HTB.out.mono ?_
  rintro e w1 ⟨⟨v1, rfl, hv1⟩, hk1⟩
  have H1 := Lib.hid hv1.at
  have HK1 := Lib.hid hk1
  obtain ⟨a2, c2, hv⟩ := hv1.at.shape
  rw [HM.out, ← HN.out] at hv
  subst hv
  obtain ⟨b2, o2, rfl, hcx⟩ := H1.out.get m (by rw [HM.out]; omega)
  rw [← HX.out] at hcx
  clear hv1 hk1
  go_wp2_with fail
  go_loopg [8] s0 (fun kx s8 wr => ∃ s : Nat, s8 = .int .i64 s ∧ s ≤ s0 ∧ s0 - s ≤ kx ∧ w1 = wr)
  case atStart => exact ⟨0, rfl, Nat.zero_le _, Nat.le_refl _, rfl⟩
  case round =>
    obtain ⟨s, rfl, hs, hkx, rfl⟩ := hrel
    obtain ⟨y, hy⟩ : ∃ y, y = x * 2 ^ s := ⟨_, rfl⟩
    have ey : (x : Int) * 2 ^ s = (y : Int) := by rw [hy]; simp
    have hsn : ¬ (s : Int) < 0 := by omega
    by_cases hlt : s < s0
    · have hy9 : y < 2147483648 := by
        have h1 : 2 ^ s * 2 ≤ 2 ^ s0 := by rw [← Nat.pow_succ]; exact Nat.pow_le_pow_right (by omega) hlt
        have h2 : x * (2 ^ s * 2) ≤ x * 2 ^ s0 := Nat.mul_le_mul_left _ h1
        rw [← Nat.mul_assoc] at h2
        have := HXS.out.2
        omega
      have ew : IntKind.u32.wrap (y : Int) = (y : Int) := by rw [IntKind.wrap_u32]; omega
      have ea : bits .and .u32 (y : Int) 2147483648 = 0 := by rw [and_top y (by omega), if_neg (by omega)]
      clear hy
      go_wp2_with fail
      go_roundg (s0 - (s + 1))
      case measure => omega
      case rel => exact ⟨s + 1, by go_num, by omega, Nat.le_refl _, rfl⟩
    · have hse : s = s0 := by omega
      subst hse
      have hy1 : 2147483648 ≤ y := by rw [hy]; exact HXS.out.1
      have hy9 : y < 4294967296 := by rw [hy]; exact HXS.out.2
      have ew : IntKind.u32.wrap (y : Int) = (y : Int) := by rw [IntKind.wrap_u32]; omega
      have ea : bits .and .u32 (y : Int) 2147483648 = 2147483648 := by rw [and_top y hy9, if_pos hy1]
      clear hy
      go_wp2_with fail
      refine (HUA.out _ HK1.out).mono ?_
      rintro e w3 ⟨⟨v3, rfl, hv3⟩, hk3⟩
      have H3 := Lib.hid hv3
      have H1' := Lib.hid (H1.out.kept hk3)
      have HK3 := Lib.hid (HK1.out.trans hk3)
      clear hv3 hk3 hcx ea ew
      go_wp2_with fail
      have hsh := norm_word (N := B * 2 ^ s) HM.out HX.out hs32 HXS.out.1 HXS.out.2 rfl
      refine (refup_any _ (nw B) s _ H1'.out hs32 (by rw [HM.out]; omega)).mono ?_
      rintro e w4 ⟨⟨v4, rfl, hv4⟩, hk4⟩
      rw [nv_nw] at hv4
      obtain ⟨N, hNN⟩ : ∃ N, N = B * 2 ^ s := ⟨_, rfl⟩
      rw [← hNN] at hv4 hsh
      have HNN := Lib.hid hNN
      have HSH := Lib.hid hsh
      have H4 := Lib.hid hv4
      have H3' := Lib.hid (H3.out.kept hk4)
      have HK4 := Lib.hid (HK3.out.trans hk4)
      obtain ⟨A2, hA2⟩ : ∃ A2, A2 = nw (A * 2 ^ s) := ⟨_, rfl⟩
      have HA2 := Lib.hid hA2
      obtain ⟨la, hla⟩ : ∃ la, la = A2.length := ⟨_, rfl⟩
      have HLA := Lib.hid hla
      have hla9 : la ≤ 549755813888 := by rw [hla, hA2]; exact Nat.le_trans HAL.out (by omega)
      obtain ⟨a3, c3, hv3⟩ := H3'.out.shape
      rw [← hA2, ← hla] at hv3
      subst hv3
      rw [← hA2] at H3'
      obtain ⟨kk, hkk⟩ : ∃ kk, kk = la + 1 - n := ⟨_, rfl⟩
      have hd9 : (la : Int) - (n : Int) < 549755813888 := by omega
      obtain ⟨d, hd⟩ : ∃ d, d = (la : Int) - (n : Int) := ⟨_, rfl⟩
      have hdk : d = (kk : Int) - 1 ∨ (kk = 0 ∧ d < 0 ∧ -137438953473 ≤ d) := by omega
      have HKK := Lib.hid hkk
      clear hv4 hk4 hsh hNN hA2 hla H3 H1' hkk
      go_wp2_with fail
      go_cut [9, 10] (fun v9 v10 wx => ∃ (g : Nat) (Rs : List Nat), v9 = .slice (some ⟨g, 0, none⟩) la la ∧ Hid (w4.heap.size ≤ g ∧ RowAt wx g 34 ((List.replicate la 0).map w32)) ∧ Hid (WdsAt wx v10 Rs ∧ nv Rs = nv (A2.drop kk) ∧ Rs.length ≤ 549755813888) ∧ Hid (Kept w4 wx))
      case first =>
        have hA2n : 0 < la := by
          have h1 : A2 ≠ [] := by
            rw [HA2.out]
            intro h
            have h2 := nw_eq_nil.1 h
            rcases Nat.mul_eq_zero.1 h2 with h3 | h3
            · exact HA0.out h3
            · have := Nat.two_pow_pos s; omega
          rw [HLA.out]
          exact List.length_pos_iff.2 h1
        obtain ⟨b3, o3, rfl, _⟩ := H3'.out.get 0 (by rw [← HLA.out]; exact hA2n)
        have hcap : la ≤ c3 := by
          obtain ⟨_, _, h1, h2, _⟩ := H3'.out
          injection h1 with h3 h4 h5
          rw [h4, h5]; exact h2.1
        obtain ⟨mk, hmk⟩ : ∃ mk : World → World, ∀ W, Sem.run Tryz.prog (Instr.makeSlice 36 (.int .i64 (la : Int)) (.int .i64 (la : Int))) W = Result.ok (.slice (some ⟨W.heap.size, 0, none⟩) la la) (mk W) ∧ RowAt (mk W) W.heap.size 34 (List.replicate la (.int .u32 0)) ∧ Kept W (mk W) :=
          ⟨fun W => (run_make_u W la hla9).choose, fun W => (run_make_u W la hla9).choose_spec⟩
        have HMK := Lib.hid hmk
        have hrunm := fun W => (HMK.out W).1
        have ew1 : IntKind.i64.wrap ((la : Int) - (n : Int)) = (la : Int) - (n : Int) := by rw [IntKind.wrap_i64]; omega
        have ew2 : IntKind.i64.wrap ((la : Int) - (n : Int) + 1) = (la : Int) - (n : Int) + 1 := by rw [IntKind.wrap_i64]; omega
        have emx : max 0 ((la : Int) - (n : Int) + 1) = (kk : Int) := by have := HKK.out; omega
        have hkl : kk ≤ la := by have := HKK.out; omega
        have hkl' : (kk : Int) ≤ (la : Int) := by omega
        have hk0 : (0 : Int) ≤ (kk : Int) := by omega
        have hkc : (kk : Int) ≤ (c3 : Int) := by omega
        have hlc : (la : Int) ≤ (c3 : Int) := by omega
        clear hmk hd hdk
        obtain ⟨ad, hite⟩ : ∃ ad : Addr, (if c3 = kk then some (⟨b3, o3, none⟩ : Addr) else some ⟨b3, o3 + kk, none⟩) = some ad := by
          by_cases h : c3 = kk
          · exact ⟨_, if_pos h⟩
          · exact ⟨_, if_neg h⟩
        have HU : Hid (∀ W, Kept w4 W → WdsAt W (.slice (some ad) (la - kk) (c3 - kk)) (A2.drop kk)) := Lib.hid fun W hk => by
          by_cases h : c3 = kk
          · rw [if_pos h] at hite
            have e1 : la = kk := by omega
            have e2 : A2.drop kk = [] := List.drop_eq_nil_of_le (by rw [← HLA.out, e1]; exact Nat.le_refl _)
            rw [e2, e1, Nat.sub_self]
            exact ⟨some ad, c3 - kk, rfl, ⟨Nat.zero_le _, fun h => by cases h⟩, by simp, Wd.nil, fun i hi => by simp at hi⟩
          · rw [if_neg h] at hite
            injection hite with hite
            rw [← hite]
            have := (H3'.out.kept hk).drop kk (by rw [← HLA.out]; exact hkl)
            exact this
        have HITE := Lib.hid hite
        have HAL9 : Hid ((A2.drop kk).length ≤ 549755813888) := Lib.hid (by rw [List.length_drop, ← HLA.out]; omega)
        clear hite hcap
        go_region_law (refine step_wds2 (by rfl) _ _ (by rfl) w4.heap.size _ [] (by rfl) (by first | exact own_emptyW _ _ (HMK.out w4.drew).2.2.size | exact (own_emptyW w4.drew w4.heap.size (Nat.le_refl _)).kept (HMK.out _).2.2 | exact own_emptyW w4.drew _ (Nat.le_refl _)) ad (la - kk) (c3 - kk) (A2.drop kk) (by exact congrArg (fun q => Value.slice q (la - kk) (c3 - kk)) HITE.out) (HU.out _ (by first | exact ((Kept.refl w4).drew.trans (HMK.out _).2.2).alloc _ | exact ((Kept.refl w4).drew.alloc _).trans (HMK.out _).2.2 | exact (Kept.refl w4).drew.alloc _)) (by have := HAL9.out; simp only [List.length_nil]; omega) (by first | exact (((Kept.refl w4).drew.trans (HMK.out _).2.2).alloc _).size | exact (((Kept.refl w4).drew.alloc _).trans (HMK.out _).2.2).size | exact ((Kept.refl w4).drew.alloc _).size) ?_; intro v7 w7 h7 hg7; have O7 := Lib.hid h7; have G7 := Lib.hid hg7; clear h7 hg7)
        all_goals simp only [HITE.out]
        all_goals go_wp2_with fail
        all_goals go_meet
        all_goals first
          | exact ⟨_, _, rfl, Lib.hid ⟨Nat.le_refl _, made_wds (((HMK.out w4.drew).2.1.kept ((Kept.refl _).alloc (.cells #[] 34))).same (G7.out.block _ (by have := (HMK.out w4.drew).2.1.lt; simp only [World.size_alloc]; exact Nat.lt_succ_of_lt this) (by have := (HMK.out w4.drew).2.1.lt; exact fun e => Nat.ne_of_lt this (Option.some.inj e))))⟩, Lib.hid ⟨O7.out.at, by simp, by have := HAL9.out; simpa using this⟩, Lib.hid ((((Kept.refl w4).drew.trans (HMK.out w4.drew).2.2).alloc (.cells #[] 34)).app (grown_below G7.out (own_emptyW (mk w4.drew) w4.heap.size (HMK.out w4.drew).2.2.size).1 ((((Kept.refl w4).drew.trans (HMK.out w4.drew).2.2).alloc (.cells #[] 34)).size)))⟩
          | exact ⟨_, _, rfl, Lib.hid ⟨Nat.le_succ _, made_wds (RowAt.same (w := mk (w4.drew.alloc (.cells #[] 34))) (by have h := (HMK.out (w4.drew.alloc (.cells #[] 34))).2.1; rw [World.size_alloc] at h; exact h) (G7.out.block _ (by have h := (HMK.out (w4.drew.alloc (.cells #[] 34))).2.1.lt; rw [World.size_alloc] at h; exact h) (fun e => Nat.succ_ne_self _ (Option.some.inj e))))⟩, Lib.hid ⟨O7.out.at, by simp, by have := HAL9.out; simpa using this⟩, Lib.hid ((((Kept.refl w4).drew.alloc (.cells #[] 34)).trans (HMK.out _).2.2).app (grown_below G7.out ((own_emptyW w4.drew w4.heap.size (Nat.le_refl _)).kept (HMK.out _).2.2).1 ((((Kept.refl w4).drew.alloc (.cells #[] 34)).trans (HMK.out _).2.2).size)))⟩
          | exact ⟨_, _, rfl, Lib.hid ⟨Nat.le_trans (((Kept.refl w4).drew.alloc (.cells #[] 34)).size) G7.out.size, made_wds (HMK.out w7).2.1⟩, Lib.hid ⟨O7.out.at.kept (HMK.out w7).2.2, by simp, by have := HAL9.out; simpa using this⟩, Lib.hid ((((Kept.refl w4).drew.alloc (.cells #[] 34)).app (grown_below G7.out (own_emptyW w4.drew w4.heap.size (Nat.le_refl _)).1 (((Kept.refl w4).drew.alloc (.cells #[] 34)).size))).trans (HMK.out w7).2.2)⟩
      case rest =>
        obtain ⟨g, Rs, rfl, HG, HRS, HKC⟩ := hcut
        go_wp2_with fail
        have HGW := Lib.hid HG.out.1
        have HST : Hid (nv (A2.drop kk) = N * nv ((List.replicate la 0).drop kk) + nv Rs ∧ nv Rs < N) := Lib.hid ⟨by rw [List.drop_replicate, nv_zeros, Nat.mul_zero, Nat.zero_add]; exact HRS.out.2.1.symm, by rw [HRS.out.2.1, HKK.out, HLA.out, HN.out]; exact ref_start (by rw [HA2.out]; exact nw_wd _) HSH.out.1⟩
        have HRG := Lib.hid HG.out.2
        rw [← hd]
        clear hd
        go_loopg [10, 11] kk (fun kx s10 s11 wr => ∃ (k : Nat) (j : Int) (Q Rs : List Nat), s11 = .int .i64 j ∧ (j = (k : Int) - 1 ∨ (k = 0 ∧ j < 0)) ∧ -549755813888 ≤ j ∧ k ≤ kk ∧ k ≤ kx ∧ Hid (RowAt wr g 34 (Q.map w32)) ∧ Hid (Q.length = la ∧ Wd Q) ∧ Hid (WdsAt wr s10 Rs ∧ Rs.length ≤ 549755813888) ∧ Hid (nv (A2.drop k) = N * nv (Q.drop k) + nv Rs ∧ nv Rs < N) ∧ Hid (Kept w4 wr))
        case atStart => exact ⟨kk, d, List.replicate la 0, Rs, rfl, by omega, by omega, Nat.le_refl _, Nat.le_refl _, HRG, Lib.hid ⟨by simp, Wd.zeros _⟩, Lib.hid ⟨HRS.out.1, HRS.out.2.2⟩, HST, HKC⟩
        case round =>
          obtain ⟨k, j, Q, Rs2, rfl, hjk, hj9, hk, hkx, HQ, HQL, HR, HI, HK4r⟩ := hrel
          have HK := Lib.hid (HK4.out.trans HK4r.out)
          have HAB := Lib.hid (And.intro (H3'.out.kept HK4r.out) (H4.out.kept HK4r.out))
          by_cases hk0 : k = 0
          · have hjneg : j < 0 := by omega
            have hjn : ¬ (0 : Int) ≤ j := by omega
            subst hk0
            have hfin : A / B = nv Q ∧ nv Rs2 / 2 ^ s = A % B := by
              have h1 := HI.out.1
              have h2 := HI.out.2
              simp only [List.drop_zero] at h1
              rw [HA2.out, nv_nw, HNN.out] at h1
              rw [HNN.out] at h2
              exact shift_div h1 h2
            have HFIN := Lib.hid hfin
            have HQA : Hid (WdsAt wr (.slice (some ⟨g, 0, none⟩) la la) Q) := Lib.hid (by
              have h := row_wds HQ.out (c := la) (by rw [HQL.out.1]; exact Nat.le_refl _) (by rw [HQL.out.1]; omega) HQL.out.2
              rw [HQL.out.1] at h
              exact h)
            clear hfin
            go_wp2_with fail
            refine (rtrim_any _ _ _ HQA.out).mono ?_
            rintro e w8 ⟨⟨v8, rfl, hv8⟩, hk8⟩
            go_wp2_with fail
            refine (refdown_any _ Rs2 s _ (HR.out.1.kept hk8) hs32).mono ?_
            rintro e w9 ⟨⟨v9, rfl, hv9⟩, hk9⟩
            have H8 := Lib.hid (hv8.at.kept hk9)
            have H9 := Lib.hid hv9
            have HK9 := Lib.hid ((HK.out.trans hk8).trans hk9)
            clear hv8 hk8 hv9 hk9
            go_wp2
            go_ret3
            exact ⟨⟨_, _, rfl, by rw [HFIN.out.1]; exact H8.out, by rw [← HFIN.out.2]; exact H9.out⟩, HK9.out⟩
          · obtain ⟨i, rfl⟩ : ∃ i, k = i + 1 := ⟨k - 1, by omega⟩
            have hji : j = (i : Int) := by omega
            subst hji
            have hila : i < la := by have := HKK.out; omega
            have hilA : i < A2.length := by rw [← HLA.out]; exact hila
            obtain ⟨b5, o5, hb5, hcy⟩ := HAB.out.1.get i hilA
            cases hb5
            have hy9 := HAB.out.1.wd.getD i
            obtain ⟨y, hy⟩ : ∃ y, y = A2.getD i 0 := ⟨_, rfl⟩
            rw [← hy] at hcy hy9
            obtain ⟨X, hX⟩ : ∃ X, X = y + 4294967296 * nv Rs2 := ⟨_, rfl⟩
            have HX1 : Hid (nv ([y] ++ Rs2) = X) := Lib.hid (by rw [hX]; rfl)
            have HXX := Lib.hid hX
            have HY := Lib.hid hy
            have hXN : X < N * 4294967296 := by have := HI.out.2; omega
            have HXN := Lib.hid hXN
            have hin : (i : Int) < (la : Int) := by omega
            have hi0 : (0 : Int) ≤ (i : Int) := by omega
            obtain ⟨ra, rc, hrv⟩ := HR.out.1.shape
            clear hX hy hXN hrv hjk hk0
            go_wp2_with (at_builtin; refine app_wds rfl _ _ rfl wr.heap.size _ [y] rfl (own_oneW wr _ y hy9 (Nat.le_refl _)) _ Rs2 rfl (HR.out.1.kept ((Kept.refl _).alloc _)) (by have := HR.out.2; simp; omega) (by simp) ?_; intro v7 w7 h7 hb7; have O7 := Lib.hid h7; have HB7 := Lib.hid hb7; clear h7 hb7)
            have HK7 : Hid (Kept wr w7) := Lib.hid (((Kept.refl wr).alloc _).app HB7.out)
            refine (rtrim_any _ _ _ O7.out.at).mono ?_
            rintro e w8 ⟨⟨v8, rfl, hv8⟩, hk8⟩
            rw [HX1.out] at hv8
            have H8 := Lib.hid hv8.at
            have HK8 := Lib.hid (HK7.out.trans hk8)
            obtain ⟨hp, hhp⟩ : ∃ hp, hp = (nw X).getD n 0 := ⟨_, rfl⟩
            obtain ⟨hq, hhq⟩ : ∃ hq, hq = (nw X).getD m 0 := ⟨_, rfl⟩
            obtain ⟨top, htop⟩ : ∃ top, top = (nw N).getD m 0 := ⟨_, rfl⟩
            have hp9 : hp < 4294967296 := by rw [hhp]; exact (nw_wd X).getD _
            have hq9 : hq < 4294967296 := by rw [hhq]; exact (nw_wd X).getD _
            have htop9 : top < 4294967296 := by rw [htop]; exact (nw_wd N).getD _
            have htop1 : 2147483648 ≤ top := by rw [htop]; exact HSH.out.2.1
            obtain ⟨hd2, hhd2⟩ : ∃ hd2, hd2 = hp * 4294967296 + hq := ⟨_, rfl⟩
            have eor := or_word hp hq hp9 hq9
            rw [← hhd2] at eor
            have hg := ref_guess (N := N) (X := X) (m := m) (head := hd2) HSH.out.1 HSH.out.2.1 HXN.out (by rw [hhd2, hhp, hhq, HN.out])
            rw [← htop] at hg
            obtain ⟨g0, hg0⟩ : ∃ g0, g0 = hd2 / top := ⟨_, rfl⟩
            rw [← hg0] at hg
            have eg0 : (hd2 : Int) / (top : Int) = (g0 : Int) := by rw [hg0]; simp
            have hd29 : hd2 < 18446744073709551616 := by omega
            have hg09 : g0 < 18446744073709551616 := Nat.lt_of_le_of_lt (by rw [hg0]; exact Nat.div_le_self _ _) hd29
            obtain ⟨g1, hg1⟩ : ∃ g1, g1 = min g0 4294967295 := ⟨_, rfl⟩
            rw [← hg1] at hg
            have eg1 : min (g0 : Int) 4294967295 = (g1 : Int) := by omega
            have hg19 : g1 < 4294967296 := by omega
            have HGE := Lib.hid hg
            have htop0 : ((top : Int) == 0) = false := by simp; omega
            have W1 := Lib.hid (rword_any _ _ n w8 H8.out)
            have W2 := Lib.hid (rword_any _ _ m w8 H8.out)
            have W3 := Lib.hid (rword_any _ _ m w8 (HAB.out.2.kept HK8.out))
            rw [← hhp] at W1
            rw [← hhq] at W2
            rw [← htop] at W3
            clear hhp hhq htop hhd2 hg hg0 hg1 hv8 hk8 hcy
            go_wp2_with fail
            refine W1.out.mono ?_
            rintro e w9 ⟨rfl, rfl⟩
            go_wp2_with fail
            refine W2.out.mono ?_
            rintro e w9 ⟨rfl, rfl⟩
            go_wp2_with fail
            refine W3.out.mono ?_
            rintro e w9 ⟨rfl, rfl⟩
            go_wp2_with fail
            refine (refmul_any _ _ (nw N) [g1] _ ((HAB.out.2.kept HK8.out).kept ((Kept.refl _).alloc _)) (wds_new1 _ g1 hg19) (by rw [HSH.out.1]; omega) (by simp)).mono ?_
            rintro e w10 ⟨⟨v10, rfl, hv10⟩, hk10⟩
            rw [nv_nw, show nv [g1] = g1 by simp [nv]] at hv10
            have H10 := Lib.hid hv10
            have HK10 := Lib.hid ((HK8.out.alloc _).trans hk10)
            have H8' := Lib.hid ((H8.out.kept ((Kept.refl _).alloc _)).kept hk10)
            clear hv10 hk10 eor eg0 eg1
            go_wp2_with fail
            go_loopg [12, 13] g1 (fun kx s12 s13 wq => ∃ g : Nat, s12 = .int .u64 g ∧ g ≤ kx ∧ g < 4294967296 ∧ Hid (WdsAt wq s13 (nw (N * g))) ∧ Hid (X / N ≤ g) ∧ Hid (Kept wr wq) ∧ Hid (WdsAt wq v8 (nw X)))
            case atStart => exact ⟨g1, rfl, Nat.le_refl _, hg19, H10, HGE, HK10, H8'⟩
            case round =>
              obtain ⟨g2, rfl, hgk, hg29, HP2, HG2, HKQ, HX2⟩ := hrel
              have hN0 : 0 < N := Nat.lt_of_le_of_lt (Nat.zero_le _) HI.out.2
              obtain ⟨cm, hcm⟩ : ∃ cm, cm = cmpN (N * g2) X := ⟨_, rfl⟩
              by_cases hle : N * g2 ≤ X
              · have hc : ¬ 0 < cm := by have := (cmp_le (N * g2) X).2 hle; omega
                obtain ⟨hd1, hd3⟩ := ref_done hN0 HG2.out hle
                have HD1 := Lib.hid hd1
                have HD3 := Lib.hid hd3
                have HCM := Lib.hid hcm
                have HLE := Lib.hid hle
                clear hcm hle hd1 hd3
                go_wp2_with fail
                refine (refcmp_any _ _ _ _ _ HP2.out HX2.out).mono ?_
                rintro e w11 ⟨rfl, rfl⟩
                rw [nv_nw, nv_nw, ← HCM.out]
                go_wp2_with fail
                refine (refsub_own _ _ _ _ _ HX2.out HP2.out (by rw [nv_nw, nv_nw]; exact HLE.out)).mono ?_
                rintro e w12 ⟨⟨v12, rfl, hv12⟩, hk12⟩
                rw [nv_nw, nv_nw, HD3.out] at hv12
                have hgl : g < w11.heap.size := (HQ.out.kept HKQ.out).lt
                have H12 := Lib.hid hv12
                have HK12 := Lib.hid (HKQ.out.trans hk12)
                have HQ2 := Lib.hid (HQ.out.kept HK12.out)
                have hiq : i < Q.length := by rw [HQL.out.1]; exact hila
                have f := HQ2.out.free i
                have hst := wds_cell HQ2.out i hiq
                have e5 : IntKind.u32.wrap (g2 : Int) = (g2 : Int) := by rw [IntKind.wrap_u32]; omega
                have HSTO := Lib.hid ((hv12.older hgl ((OnlyAt.refl g w12).store i (.int .u32 (g2 : Int)))).at)
                have HNX : Hid (nv (A2.drop i) = N * nv ((Q.set i g2).drop i) + nv (nw (X % N)) ∧ nv (nw (X % N)) < N) := Lib.hid ⟨by rw [nv_nw]; exact ref_step HI.out.1 hilA hiq (by rw [HXX.out, HY.out]) HD1.out, by rw [nv_nw]; exact Nat.mod_lt _ hN0⟩
                have HLN : Hid ((nw (X % N)).length ≤ 549755813888) := Lib.hid (Nat.le_trans (nw_mono_len (Nat.le_of_lt (Nat.mod_lt X hN0))) (by rw [HSH.out.1]; omega))
                clear hv12 hk12 hiq hgl
                go_wp2_with fail
                go_roundg i
                case measure => omega
                case rel => exact ⟨i, (i : Int) - 1, Q.set i g2, nw (X % N), by first | rfl | go_num, .inl rfl, by omega, by omega, Nat.le_refl _, Lib.hid (wds_store HQ2.out i g2), Lib.hid ⟨by rw [List.length_set]; exact HQL.out.1, HQL.out.2.set i g2 hg29⟩, Lib.hid ⟨HSTO.out, HLN.out⟩, HNX, Lib.hid ((HK4r.out.trans HK12.out).store HG.out.1 _ _)⟩
              · have hlt2 : X < N * g2 := by omega
                have hc : 0 < cm := by
                  have h9 := cmp_le (N * g2) X
                  rw [← hcm] at h9
                  have h8 : ¬ cm ≤ 0 := fun h => hle (h9.1 h)
                  omega
                obtain ⟨g', rfl, hge', hsub, hle'⟩ := ref_more hN0 HG2.out hlt2
                have eg : ((g' + 1 : Nat) : Int) - 1 = (g' : Int) := by omega
                have HGE' := Lib.hid hge'
                have HSUB := Lib.hid hsub
                have HLE' := Lib.hid hle'
                have HCM := Lib.hid hcm
                have HV4 := Lib.hid (HAB.out.2.kept HKQ.out)
                clear hcm hle hlt2 hge' hsub hle'
                go_wp2_with fail
                refine (refcmp_any _ _ _ _ _ HP2.out HX2.out).mono ?_
                rintro e w11 ⟨rfl, rfl⟩
                rw [nv_nw, nv_nw, ← HCM.out]
                go_wp2_with fail
                refine (refsub_any _ _ _ _ _ HP2.out HV4.out (by rw [nv_nw, nv_nw]; exact HLE'.out)).mono ?_
                rintro e w12 ⟨⟨v12, rfl, hv12⟩, hk12⟩
                rw [nv_nw, nv_nw, HSUB.out] at hv12
                have H12 := Lib.hid hv12
                have HK12 := Lib.hid (HKQ.out.trans hk12)
                have HX12 := Lib.hid (HX2.out.kept hk12)
                clear hv12 hk12
                go_wp2_with fail
                go_roundg g'
                case measure => omega
                case rel => exact ⟨g', by first | rfl | go_num, Nat.le_refl _, by omega, H12, HGE', HK12, HX12⟩
end Go.Proofs.YtpaedhlacbpmpaaGreatDoor
