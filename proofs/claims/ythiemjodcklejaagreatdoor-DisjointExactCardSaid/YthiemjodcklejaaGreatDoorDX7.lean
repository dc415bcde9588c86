import Derived.WalkKit
import Derived.WalkSpells
import Derived.WalkLawsBesides
import Derived.Deep.QuietTactic
import Derived.BigQuiet
import Derived.Lib.Hide
import Derived.Shelf.Abstract
import Derived.Deep.RegionWith
import Derived.Laws.AppendOwnNone
import Derived.Lib.AppendZerosOnto
import Derived.Lib.SliceRun
import Derived.Lib.SlicesCompact
import Derived.Shelf.SlSortCmp.NoneTotal
import Derived.Maps.OwnOps
import Derived.Maps.OwnSet
import Derived.Maps.Views
import Derived.Deep.MidRow
import Derived.Deep.RegionHeld3
import Derived.Deep.AppendLies
import Derived.Deep.RegionLaw
import Derived.IntWalk
import Derived.StillTailTactics
import Derived.RegionTactic
import Derived.BigRegion
import Derived.ChangeAlike
import Derived.Sort.LotD2
import Derived.Sort.LotA
import Derived.Shelf.SlSortCmp.PdqK
import Derived.Deep.DeepCutAuto
import Derived.Lib.ItoaNum
import Derived.Deep.LoopGhost
import Derived.ProofKit
import Derived.OpenShut
import Derived.SizedLaws
import Derived.Lib.SmallJoins
import Derived.Deep.Slices
import Derived.Deep.Fields
import Derived.Deep.Strs
import Derived.Carry
import Derived.Lib.BitFns
import Derived.Deep.CutBlock
import Derived.Test.YthiemjodcklejaaGreatDoorDX6
/-
  Walks: rational.one, plain, Valid, parts.
-/
namespace Go.Proofs.YthiemjodcklejaaGreatDoor
open Go.RowKit

/-- A fraction that can be read. -/
def RatAt (w : World) (v : Value) (r : Rw) : Prop := ∃ u1 u2, v = .agg #[.bool r.neg, u1, u2] ∧ WdsAt w u1 r.num ∧ WdsAt w u2 r.den
theorem RatAt.kept {w w' : World} {v : Value} {r : Rw} (h : RatAt w v r) (hk : Kept w w') : RatAt w' v r := by
  obtain ⟨u1, u2, h1, h2, h3⟩ := h
  exact ⟨u1, u2, h1, h2.kept hk, h3.kept hk⟩
theorem RatAt.ok {w : World} {v : Value} {r : Rw} (h : RatAt w v r) : r.Ok := by obtain ⟨u1, u2, _, h2, h3⟩ := h; exact ⟨h2.wd, h3.wd⟩
/-- A fraction whose words are few. -/
def Rw.Short (r : Rw) (n : Nat) : Prop := r.num.length ≤ n ∧ r.den.length ≤ n
theorem RatAt.zero (w : World) : RatAt w (.agg #[.bool false, .slice none 0 0, .slice none 0 0]) ⟨false, [], []⟩ := ⟨_, _, rfl, WdsAt.nil w, WdsAt.nil w⟩
set_option maxRecDepth 100000 in
theorem rone_any (w : World) : Calls Tryz.prog 71 #[] w fun e w' => (∃ v, e = .returned v ∧ WdsAt w' v [1]) ∧ Kept w w' := by
  go_enter Tryz.func71, Tryz.ntmps71
  go_wp2
  go_ret
  exact ⟨⟨_, rfl, wds_new1 w 1 (by omega)⟩, (Kept.refl _).alloc _⟩
set_option maxRecDepth 100000 in
theorem rplain_any (v : Value) (xs : List Nat) (w : World) (hv : WdsAt w v xs) : Calls Tryz.prog 131 #[v] w fun e w' => e = .returned (.bool (plainW xs)) ∧ w' = w := by
  obtain ⟨a, c, rfl⟩ := hv.shape
  have hl := hv.len
  obtain ⟨n, hn⟩ : ∃ n, n = xs.length := ⟨_, rfl⟩
  rw [← hn] at hv hl ⊢
  by_cases h0 : n = 0
  · have hp : plainW xs = false := by unfold plainW; rw [← hn, h0]; rfl
    rw [hp]
    subst h0
    clear hv hn hp
    go_enter Tryz.func131, Tryz.ntmps131
    go_wp2
    go_ret
    exact ⟨rfl, rfl⟩
  · obtain ⟨m, hm⟩ : ∃ m, n = m + 1 := ⟨n - 1, by omega⟩
    obtain ⟨b, o, rfl, hc⟩ := hv.get m (by omega)
    obtain ⟨x, hx⟩ : ∃ x, x = xs.getD m 0 := ⟨_, rfl⟩
    have hp : plainW xs = !((x : Int) == 0) := by
      unfold plainW
      rw [← hn, hm, Nat.add_sub_cancel, ← hx]
      by_cases h : x = 0
      · simp [h]
      · have : ((x : Int) == 0) = false := by simp; exact h
        simp [h, this]
    rw [hp]
    rw [← hx] at hc
    have e1 : (n : Int) - 1 = (m : Int) := by omega
    have hp0 : (0 : Int) < (n : Int) := by omega
    have hp1 : 0 < n := by omega
    have hmn : m < n := by omega
    have hmn' : (m : Int) < (n : Int) := by omega
    obtain ⟨bx, hbx⟩ : ∃ bx, ((x : Int) == 0) = bx := ⟨_, rfl⟩
    rw [hbx]
    clear hv hn hp hx hm h0
    cases bx with
    | true =>
      have hbn : ((x : Int) != 0) = false := by simp [bne, hbx]
      go_enter Tryz.func131, Tryz.ntmps131
      go_wp2
      go_ret
      exact ⟨by first | rfl | simp, rfl⟩
    | false =>
      have hbn : ((x : Int) != 0) = true := by simp [bne, hbx]
      go_enter Tryz.func131, Tryz.ntmps131
      go_wp2
      go_ret
      exact ⟨by first | rfl | simp, rfl⟩
theorem cmp_one (g : Nat) : (cmpN g 1 == 0) = (g == 1) := by
  rcases Nat.lt_trichotomy g 1 with h | h | h
  · rw [cmpN_lt h]
    have : (g == 1) = false := by simp; omega
    rw [this]; rfl
  · rw [cmpN_eq h]
    simp [h]
  · rw [cmpN_gt h]
    have : (g == 1) = false := by simp; omega
    rw [this]; rfl
set_option maxRecDepth 100000 in
set_option maxHeartbeats 4000000 in
theorem ratvalid_any (v : Value) (r : Rw) (w : World) (hv : RatAt w v r) (hs : r.Short 274877906944) : Calls Tryz.prog 77 #[v] w fun e w' => e = .returned (.bool (validR r)) ∧ Kept w w' := by
  obtain ⟨neg, num, den⟩ := r
  obtain ⟨u1, u2, rfl, h1, h2⟩ := hv
  obtain ⟨hs1, hs2⟩ := hs
  simp only at h1 h2 hs1 hs2
  obtain ⟨a1, c1, rfl⟩ := h1.shape
  obtain ⟨a2, c2, rfl⟩ := h2.shape
  obtain ⟨n1, hn1⟩ : ∃ n1, n1 = num.length := ⟨_, rfl⟩
  obtain ⟨n2, hn2⟩ : ∃ n2, n2 = den.length := ⟨_, rfl⟩
  rw [← hn1] at h1 ⊢
  rw [← hn2] at h2 ⊢
  have HR := Lib.hid (RowAt.made w #[.bool neg, .slice a1 n1 c1, .slice a2 n2 c2] 31)
  have HK0 : Hid (Kept w (w.alloc (.cells #[.bool neg, .slice a1 n1 c1, .slice a2 n2 c2] 31))) := Lib.hid ((Kept.refl w).alloc _)
  have H1 := Lib.hid h1
  have H2 := Lib.hid h2
  by_cases he : num = [] ∧ den = []
  · have hV : validR ⟨neg, num, den⟩ = !neg := by unfold validR; rw [if_pos he]
    have e1 : n1 = 0 := by rw [hn1, he.1]; rfl
    have e2 : n2 = 0 := by rw [hn2, he.2]; rfl
    rw [hV]
    subst e1 e2
    clear h1 h2 hn1 hn2 hV he HR
    go_enter Tryz.func77, Tryz.ntmps77
    go_wp2
    go_ret
    exact ⟨rfl, HK0.out⟩
  · have hV : validR ⟨neg, num, den⟩ = (plainW num && plainW den && (Nat.gcd (nv num) (nv den) == 1)) := by unfold validR; rw [if_neg he]
    rw [hV]
    have HP1 := Lib.hid (fun W (hk : Kept w W) => rplain_any _ num W (h1.kept hk))
    have HP2 := Lib.hid (fun W (hk : Kept w W) => rplain_any _ den W (h2.kept hk))
    have HGC := Lib.hid (fun W (hk : Kept w W) => ngcd_any _ _ num den W (h1.kept hk) (h2.kept hk) hs1 hs2)
    generalize plainW den = p2 at *
    obtain ⟨p1, hp1⟩ : ∃ p1, p1 = plainW num := ⟨_, rfl⟩
    rw [← hp1] at HP1 ⊢
    have hc : (n1 ≠ 0) ∨ (n1 = 0 ∧ n2 ≠ 0 ∧ p1 = false) := by
      by_cases h : n1 = 0
      · refine .inr ⟨h, fun h3 => he ⟨List.eq_nil_of_length_eq_zero (hn1.symm.trans h), List.eq_nil_of_length_eq_zero (hn2.symm.trans h3)⟩, ?_⟩
        rw [hp1, List.eq_nil_of_length_eq_zero (hn1.symm.trans h)]; rfl
      · exact .inl h
    generalize Nat.gcd (nv num) (nv den) = g at *
    have HG1 : Hid (∀ W v1 v2, WdsAt W v1 (nw g) → WdsAt W v2 [1] → Calls Tryz.prog 75 #[v1, v2] W fun e w' => e = .returned (.int .i64 (cmpN g 1)) ∧ Kept W w') := Lib.hid fun W v1 v2 k1 k2 => by
      have h := ncmp_any v1 v2 _ _ W k1 k2
      rw [nv_nw] at h
      exact h
    obtain ⟨bg, hbg⟩ : ∃ bg, (g == 1) = bg := ⟨_, rfl⟩
    have hcm := cmp_one g
    rw [hbg] at hcm ⊢
    obtain ⟨cg, hcg⟩ : ∃ cg, cg = cmpN g 1 := ⟨_, rfl⟩
    rw [← hcg] at hcm HG1
    clear h1 h2 hn1 hn2 hV he hp1 hbg hcg hs1 hs2
    rcases hc with hc | ⟨hc, hc2, rfl⟩
    · have hb1 : ((n1 : Int) == 0) = false := by simp; exact hc
      clear hc
      cases p1 with
      | false =>
        go_enter Tryz.func77, Tryz.ntmps77
        go_wp2_with (go_at_call 131; (with_reducible refine (HP1.out _ HK0.out).mono ?_); rintro e w2 ⟨rfl, rfl⟩)
        go_ret
        exact ⟨by simp, HK0.out⟩
      | true =>
        cases p2 with
        | false =>
          go_enter Tryz.func77, Tryz.ntmps77
          go_wp2_with (first | (go_at_call 131; (with_reducible refine (HP1.out _ HK0.out).mono ?_); rintro e w2 ⟨rfl, rfl⟩) | (go_at_call 131; (with_reducible refine (HP2.out _ HK0.out).mono ?_); rintro e w2 ⟨rfl, rfl⟩))
          go_ret
          exact ⟨by simp, HK0.out⟩
        | true =>
          go_enter Tryz.func77, Tryz.ntmps77
          go_wp2_with (first
            | (go_at_call 131; (with_reducible refine (HP1.out _ HK0.out).mono ?_); rintro e w2 ⟨rfl, rfl⟩)
            | (go_at_call 131; (with_reducible refine (HP2.out _ HK0.out).mono ?_); rintro e w2 ⟨rfl, rfl⟩)
            | (go_at_call 126; (with_reducible refine (HGC.out _ HK0.out).mono ?_); rintro e w2 ⟨⟨vg, rfl, hvg⟩, hk2⟩; have HVG := Lib.hid hvg; have HK2 := Lib.hid (HK0.out.trans hk2); clear hvg hk2)
            | (go_at_call 71; (with_reducible refine (rone_any _).mono ?_); rintro e w3 ⟨⟨vo, rfl, hvo⟩, hk3⟩; have HVG3 := Lib.hid (HVG.out.kept hk3); have HVO := Lib.hid hvo; have HK3 := Lib.hid (HK2.out.trans hk3); clear hvo hk3)
            | (go_at_call 75; (with_reducible refine (HG1.out _ _ _ HVG3.out HVO.out).mono ?_); rintro e w4 ⟨rfl, hk4⟩; have HK4 := Lib.hid (HK3.out.trans hk4); clear hk4))
          go_ret
          exact ⟨by simp, HK4.out⟩
    · have hb1 : ((n2 : Int) == 0) = false := by simp; exact hc2
      subst hc
      clear hc2
      go_enter Tryz.func77, Tryz.ntmps77
      go_wp2_with (go_at_call 131; (with_reducible refine (HP1.out _ HK0.out).mono ?_); rintro e w2 ⟨rfl, rfl⟩)
      go_ret
      exact ⟨by simp, HK0.out⟩
end Go.Proofs.YthiemjodcklejaaGreatDoor

/-
  Walks: rational.parts, form.
-/
namespace Go.Proofs.YthiemjodcklejaaGreatDoor
open Go.RowKit

/-- A block that holds these cells and no more. -/
def FixAt (w : World) (g : Nat) (xs : List Value) : Prop := ∃ cur e, w.heap[g]? = some (.cells cur e (0, 0)) ∧ cur.toList = xs
theorem FixAt.made (w : World) (cs : Array Value) (e : TypeId) : FixAt (w.alloc (.cells cs e)) w.heap.size cs.toList := ⟨cs, e, heap_alloc_new w _, rfl⟩
theorem FixAt.lt {w : World} {g : Nat} {xs : List Value} (h : FixAt w g xs) : g < w.heap.size := by
  obtain ⟨cur, e, h1, _⟩ := h
  rcases Nat.lt_or_ge g w.heap.size with h2 | h2
  · exact h2
  · simp [Array.getElem?_eq_none h2] at h1
theorem FixAt.kept {w w' : World} {g : Nat} {xs : List Value} (h : FixAt w g xs) (hk : Kept w w') : FixAt w' g xs := by
  have hl := h.lt
  obtain ⟨cur, e, h1, h2⟩ := h
  exact ⟨cur, e, (hk.block g hl).trans h1, h2⟩
theorem FixAt.only {w : World} {g i : Nat} {xs : List Value} {u : Value} (h : FixAt w g xs) (hc : w.cell? ⟨g, i, none⟩ = some u) : u ∈ xs := by
  obtain ⟨arr, e, h1, h2⟩ := h
  simp only [World.cell?, h1] at hc
  rw [← h2]
  have := Array.mem_of_getElem? hc
  simpa using this
/-- A slice of words does not lie in a fraction's own cells. -/
theorem WdsAt.apart {w w' : World} {g : Nat} {v : Value} {xs : List Nat} {row : List Value} (h : WdsAt w v xs) (hr : FixAt w g row) (hn : ∀ k x, Value.int k x ∉ row) (ho : OnlyAt g w w') : WdsAt w' v xs := by
  obtain ⟨a, c, h1, h2, h3, h4, h5⟩ := h
  refine ⟨a, c, h1, h2, h3, h4, fun i hi => ?_⟩
  obtain ⟨b, o, h6, h7⟩ := h5 i hi
  refine ⟨b, o, h6, ?_⟩
  have hne : b ≠ g := fun e => by
    subst e
    exact hn _ _ (hr.only h7)
  have hlt : b < w.heap.size := by
    rcases Nat.lt_or_ge b w.heap.size with h8 | h8
    · exact h8
    · simp [World.cell?, Array.getElem?_eq_none h8] at h7
  have := ho.block b hlt hne
  simp only [World.cell?, this] at h7 ⊢
  exact h7
set_option maxRecDepth 100000 in
set_option maxHeartbeats 4000000 in
theorem rparts_any (v : Value) (r : Rw) (w : World) (hv : RatAt w v r) (hs : r.Short 274877906944) : Calls Tryz.prog 59 #[v] w fun e w' => (∃ u1 u2, e = .returned (.tuple #[.bool (partsR r).1, u1, u2]) ∧ WdsAt w' u1 (partsR r).2.1 ∧ WdsAt w' u2 (partsR r).2.2) ∧ Kept w w' := by
  have HVA := Lib.hid (fun W (hk : Kept w W) => ratvalid_any v r W (hv.kept hk) hs)
  obtain ⟨neg, num, den⟩ := r
  obtain ⟨u1, u2, rfl, h1, h2⟩ := hv
  simp only at h1 h2
  obtain ⟨a1, c1, rfl⟩ := h1.shape
  obtain ⟨a2, c2, rfl⟩ := h2.shape
  obtain ⟨n1, hn1⟩ : ∃ n1, n1 = num.length := ⟨_, rfl⟩
  obtain ⟨n2, hn2⟩ : ∃ n2, n2 = den.length := ⟨_, rfl⟩
  rw [← hn1] at h1 HVA ⊢
  rw [← hn2] at h2 HVA ⊢
  have H1 := Lib.hid h1
  have H2 := Lib.hid h2
  obtain ⟨w1, hw1⟩ : ∃ w1, w1 = w.alloc (.cells #[.bool neg, .slice a1 n1 c1, .slice a2 n2 c2] 31) := ⟨_, rfl⟩
  have HR : Hid (RowAt w1 w.heap.size 31 [.bool neg, .slice a1 n1 c1, .slice a2 n2 c2]) := Lib.hid (by rw [hw1]; exact RowAt.made w #[.bool neg, .slice a1 n1 c1, .slice a2 n2 c2] 31)
  have HK0 : Hid (Kept w w1) := Lib.hid (by rw [hw1]; exact (Kept.refl w).alloc _)
  have q0 := HR.out.cell (i := 0) (by simp)
  have q1 := HR.out.cell (i := 1) (by simp)
  have q2 := HR.out.cell (i := 2) (by simp)
  simp only [List.getElem_cons_succ, List.getElem_cons_zero] at q0 q1 q2
  have HW1 := Lib.hid hw1
  clear hw1
  by_cases hg : validR ⟨neg, num, den⟩ = true ∧ num ≠ []
  · have hP : partsR ⟨neg, num, den⟩ = (neg, num, den) := by unfold partsR; rw [if_pos hg]
    rw [hP]
    rw [hg.1] at HVA
    have hb1 : ((n1 : Int) == 0) = false := by
      have : n1 ≠ 0 := fun h => hg.2 (List.eq_nil_of_length_eq_zero (hn1.symm.trans h))
      simp; exact this
    clear h1 h2 hP hg hn1 hn2 hs
    go_enter Tryz.func59, Tryz.ntmps59
    go_wp2_with fail
    rw [← HW1.out]
    refine (HVA.out _ HK0.out).mono ?_
    rintro e w2 ⟨rfl, hk2⟩
    have y0 := hk2.cell q0
    have y1 := hk2.cell q1
    have y2 := hk2.cell q2
    have HK2 := Lib.hid (HK0.out.trans hk2)
    clear hk2 q0 q1 q2
    go_wp2_with fail
    go_quiet (fail)
    go_wp2
    go_ret3
    exact ⟨⟨_, _, rfl, H1.out.kept (HK2.out.drewN _), H2.out.kept (HK2.out.drewN _)⟩, HK2.out.drewN _⟩
  · have hP : partsR ⟨neg, num, den⟩ = (false, [], [1]) := by unfold partsR; rw [if_neg hg]
    rw [hP]
    by_cases hvv : validR ⟨neg, num, den⟩ = true
    · have h0 : n1 = 0 := by
        rw [hn1]
        by_cases h : num = []
        · rw [h]; rfl
        · exact absurd ⟨hvv, h⟩ hg
      rw [hvv] at HVA
      subst h0
      clear h1 h2 hP hg hn1 hn2 hs hvv
      go_enter Tryz.func59, Tryz.ntmps59
      go_wp2_with fail
      rw [← HW1.out]
      refine (HVA.out _ HK0.out).mono ?_
      rintro e w2 ⟨rfl, hk2⟩
      have y1 := hk2.cell q1
      have HK2 := Lib.hid (HK0.out.trans hk2)
      clear hk2 q0 q1 q2
      go_wp2_with fail
      refine (rone_any _).mono ?_
      rintro e w3 ⟨⟨v3, rfl, hv3⟩, hk3⟩
      have H3 := Lib.hid hv3
      have HK3 := Lib.hid (HK2.out.trans hk3)
      clear hv3 hk3
      go_wp2
      go_ret3
      exact ⟨⟨_, _, rfl, WdsAt.nil _, H3.out⟩, HK3.out⟩
    · have hvf : validR ⟨neg, num, den⟩ = false := by simpa using hvv
      rw [hvf] at HVA
      clear h1 h2 hP hg hn1 hn2 hs hvv hvf
      go_enter Tryz.func59, Tryz.ntmps59
      go_wp2_with fail
      rw [← HW1.out]
      refine (HVA.out _ HK0.out).mono ?_
      rintro e w2 ⟨rfl, hk2⟩
      have HK2 := Lib.hid (HK0.out.trans hk2)
      clear hk2 q0 q1 q2
      go_wp2_with fail
      refine (rone_any _).mono ?_
      rintro e w3 ⟨⟨v3, rfl, hv3⟩, hk3⟩
      have H3 := Lib.hid hv3
      have HK3 := Lib.hid (HK2.out.trans hk3)
      clear hv3 hk3
      go_wp2
      go_ret3
      exact ⟨⟨_, _, rfl, WdsAt.nil _, H3.out⟩, HK3.out⟩
set_option maxRecDepth 100000 in
set_option maxHeartbeats 4000000 in
theorem rform_any (neg : Bool) (va vb : Value) (xs ys : List Nat) (w : World) (ha : WdsAt w va xs) (hb : WdsAt w vb ys) (hla : xs.length ≤ 274877906944) (hlb : ys.length ≤ 274877906944) (hd : nv ys ≠ 0) :
    Calls Tryz.prog 69 #[.bool neg, va, vb] w fun e w' => (∃ v, e = .returned v ∧ RatAt w' v (formR neg (nv xs) (nv ys))) ∧ Kept w w' := by
  have HB := Lib.hid (fun W (hk : Kept w W) => nbits_any va xs W (ha.kept hk))
  have HG := Lib.hid (fun W (hk : Kept w W) => ngcd_any va vb xs ys W (ha.kept hk) (hb.kept hk) hla hlb)
  have HD1 : Hid (∀ W vg, Kept w W → WdsAt W vg (nw (Nat.gcd (nv xs) (nv ys))) → Calls Tryz.prog 127 #[va, vg] W fun e w' => (∃ v1 v2, e = .returned (.tuple #[v1, v2, .nilIface]) ∧ WdsAt w' v1 (nw (nv xs / Nat.gcd (nv xs) (nv ys)))) ∧ Kept W w') := Lib.hid fun W vg hk hg =>
    (ndiv_any va vg xs _ W (ha.kept hk) hg hla (by rw [nv_nw]; exact fun h => hd (Nat.eq_zero_of_gcd_eq_zero_right h))).mono fun _ _ ⟨⟨v1, v2, h1, h2, _⟩, h3⟩ => ⟨⟨v1, v2, h1, by rw [nv_nw] at h2; exact h2⟩, h3⟩
  have HD2 : Hid (∀ W vg, Kept w W → WdsAt W vg (nw (Nat.gcd (nv xs) (nv ys))) → Calls Tryz.prog 127 #[vb, vg] W fun e w' => (∃ v1 v2, e = .returned (.tuple #[v1, v2, .nilIface]) ∧ WdsAt w' v1 (nw (nv ys / Nat.gcd (nv xs) (nv ys)))) ∧ Kept W w') := Lib.hid fun W vg hk hg =>
    (ndiv_any vb vg ys _ W (hb.kept hk) hg hlb (by rw [nv_nw]; exact fun h => hd (Nat.eq_zero_of_gcd_eq_zero_right h))).mono fun _ _ ⟨⟨v1, v2, h1, h2, _⟩, h3⟩ => ⟨⟨v1, v2, h1, by rw [nv_nw] at h2; exact h2⟩, h3⟩
  obtain ⟨a0, c0, rfl⟩ := ha.shape
  obtain ⟨a1, c1, rfl⟩ := hb.shape
  generalize xs.length = n0 at *
  generalize ys.length = n1 at *
  obtain ⟨w1, hw1⟩ : ∃ w1, w1 = w.alloc (.cells #[.bool false, .slice none 0 0, .slice none 0 0] 31) := ⟨_, rfl⟩
  have HR : Hid (RowAt w1 w.heap.size 31 [.bool false, .slice none 0 0, .slice none 0 0]) := Lib.hid (by rw [hw1]; exact RowAt.made w #[.bool false, .slice none 0 0, .slice none 0 0] 31)
  have HK0 : Hid (Kept w w1) := Lib.hid (by rw [hw1]; exact (Kept.refl w).alloc _)
  have HFX : Hid (FixAt w1 w.heap.size [.bool false, .slice none 0 0, .slice none 0 0]) := Lib.hid (by rw [hw1]; exact FixAt.made w #[.bool false, .slice none 0 0, .slice none 0 0] 31)
  have HW1 := Lib.hid hw1
  clear hw1 ha hb hla hlb hd
  by_cases h0 : nv xs = 0
  · have hF : formR neg (nv xs) (nv ys) = ⟨false, [], []⟩ := by unfold formR; rw [if_pos h0]
    rw [hF]
    have H0 := Lib.hid h0
    clear hF h0
    go_enter Tryz.func69, Tryz.ntmps69
    go_wp2_with fail
    rw [← HW1.out]
    refine (HB.out _ HK0.out).mono ?_
    rintro e w2 ⟨⟨k, rfl, hk⟩, rfl⟩
    have hk0 : k = 0 := hk.2 H0.out
    subst hk0
    clear hk
    have g0 := HR.out.cell (i := 0) (by simp)
    have g1 := HR.out.cell (i := 1) (by simp)
    have g2 := HR.out.cell (i := 2) (by simp)
    have f0 := HR.out.free 0
    have f1 := HR.out.free 1
    have f2 := HR.out.free 2
    go_wp2
    have hF := (((HR.out.store 0 (.bool false)).store 1 (.slice none 0 0)).store 2 (.slice none 0 0))
    have y0 := hF.cell (i := 0) (by simp)
    have y1 := hF.cell (i := 1) (by simp)
    have y2 := hF.cell (i := 2) (by simp)
    simp only [List.set_cons_zero, List.set_cons_succ, List.getElem_cons_succ, List.getElem_cons_zero] at y0 y1 y2
    refine bodyPost_ret (v := .agg #[.bool false, .slice none 0 0, .slice none 0 0]) ?_ rfl ⟨⟨_, rfl, RatAt.zero _⟩, ?_⟩
    · simp [results, Tryz.results69, go_sem, y0, y1, y2]
    · exact ((HK0.out.store (Nat.le_refl _) _ _).store (Nat.le_refl _) _ _).store (Nat.le_refl _) _ _
  · have hF : formR neg (nv xs) (nv ys) = ⟨neg, nw (nv xs / Nat.gcd (nv xs) (nv ys)), nw (nv ys / Nat.gcd (nv xs) (nv ys))⟩ := by unfold formR; rw [if_neg h0]
    rw [hF]
    have H0 := Lib.hid h0
    clear hF h0
    generalize nw (nv xs / Nat.gcd (nv xs) (nv ys)) = P at *
    generalize nw (nv ys / Nat.gcd (nv xs) (nv ys)) = Q at *
    generalize nw (Nat.gcd (nv xs) (nv ys)) = G at *
    go_enter Tryz.func69, Tryz.ntmps69
    go_wp2_with fail
    rw [← HW1.out]
    refine (HB.out _ HK0.out).mono ?_
    rintro e w2 ⟨⟨k, rfl, hk⟩, rfl⟩
    have hk0 : ((k : Int) == 0) = false := by
      have : k ≠ 0 := fun h => H0.out (hk.1 h)
      simp; exact this
    clear hk
    go_wp2_with fail
    refine (HG.out _ HK0.out).mono ?_
    rintro e w3 ⟨⟨v3, rfl, hv3⟩, hk3⟩
    have HV3 := Lib.hid hv3
    have HK3 := Lib.hid (HK0.out.trans hk3)
    have HR3 := Lib.hid (HR.out.kept hk3)
    have HFX3 := Lib.hid (HFX.out.kept hk3)
    clear hv3 hk3 hk0
    go_wp2_with fail
    refine (HD1.out _ _ HK3.out HV3.out).mono ?_
    rintro e w4 ⟨⟨v4, v5, rfl, hv4⟩, hk4⟩
    have HV4 := Lib.hid hv4
    have HV3' := Lib.hid (HV3.out.kept hk4)
    have HK4 := Lib.hid (HK3.out.trans hk4)
    have HR4 := Lib.hid (HR3.out.kept hk4)
    have HFX4 := Lib.hid (HFX3.out.kept hk4)
    clear hv4 hk4
    go_wp2_with fail
    refine (HD2.out _ _ HK4.out HV3'.out).mono ?_
    rintro e w5 ⟨⟨v6, v7, rfl, hv6⟩, hk5⟩
    have HV6 := Lib.hid hv6
    have HV4' := Lib.hid (HV4.out.kept hk5)
    have HK5 := Lib.hid (HK4.out.trans hk5)
    have HR5 := Lib.hid (HR4.out.kept hk5)
    have HFX5 := Lib.hid (HFX4.out.kept hk5)
    clear hv6 hk5
    obtain ⟨a4, c4, rfl⟩ := HV4'.out.shape
    obtain ⟨a6, c6, rfl⟩ := HV6.out.shape
    have g0 := HR5.out.cell (i := 0) (by simp)
    have g1 := HR5.out.cell (i := 1) (by simp)
    have g2 := HR5.out.cell (i := 2) (by simp)
    have f0 := HR5.out.free 0
    have f1 := HR5.out.free 1
    have f2 := HR5.out.free 2
    go_wp2
    have hF := (((HR5.out.store 0 (.bool neg)).store 1 (.slice a4 P.length c4)).store 2 (.slice a6 Q.length c6))
    have y0 := hF.cell (i := 0) (by simp)
    have y1 := hF.cell (i := 1) (by simp)
    have y2 := hF.cell (i := 2) (by simp)
    simp only [List.set_cons_zero, List.set_cons_succ, List.getElem_cons_succ, List.getElem_cons_zero] at y0 y1 y2
    have hO := (((OnlyAt.refl w.heap.size w5).store 0 (.bool neg)).store 1 (.slice a4 P.length c4)).store 2 (.slice a6 Q.length c6)
    have z1 := HV4'.out.apart HFX5.out (by simp) hO
    have z2 := HV6.out.apart HFX5.out (by simp) hO
    refine bodyPost_ret (v := .agg #[.bool neg, .slice a4 P.length c4, .slice a6 Q.length c6]) ?_ rfl ⟨⟨_, rfl, ⟨_, _, rfl, z1, z2⟩⟩, ?_⟩
    · simp [results, Tryz.results69, go_sem, y0, y1, y2]
    · exact ((HK5.out.store (Nat.le_refl _) _ _).store (Nat.le_refl _) _ _).store (Nat.le_refl _) _ _
end Go.Proofs.YthiemjodcklejaaGreatDoor

/-
  Walks: rational.Neg, Sign, Mul: in numbers.
-/
namespace Go.Proofs.YthiemjodcklejaaGreatDoor
open Go.RowKit

theorem parts_short {r : Rw} {k : Nat} (h : r.Short k) (hk : 1 ≤ k) : (partsR r).2.1.length ≤ k ∧ (partsR r).2.2.length ≤ k := by
  unfold partsR
  split
  · exact h
  · exact ⟨by simp, by simpa using hk⟩
theorem ratOf_neg (r : Rw) : mkRat (sg (!(partsR r).1) (nv (partsR r).2.1)) (nv (partsR r).2.2) = - ratOf r := by
  unfold ratOf; rw [sg_not, Rat.neg_mkRat]
theorem ratOf_mul {r s : Rw} : mkRat (sg ((partsR r).1 != (partsR s).1) (nv (partsR r).2.1 * nv (partsR s).2.1)) (nv (partsR r).2.2 * nv (partsR s).2.2) = ratOf r * ratOf s := by
  unfold ratOf; rw [sg_mul, Rat.mkRat_mul_mkRat]
theorem ratOf_add {r s : Rw} (hr : r.Ok) (hs : s.Ok) (h : (partsR r).1 = (partsR s).1) : mkRat (sg (partsR r).1 (nv (partsR r).2.1 * nv (partsR s).2.2 + nv (partsR s).2.1 * nv (partsR r).2.2)) (nv (partsR r).2.2 * nv (partsR s).2.2) = ratOf r + ratOf s := by
  unfold ratOf
  rw [Rat.mkRat_add_mkRat _ _ (partsR_ok hr).2.2.1 (partsR_ok hs).2.2.1, sg_add, sg_scale, h, sg_scale]
theorem ratOf_sub {r s : Rw} (hr : r.Ok) (hs : s.Ok) (h : (partsR r).1 ≠ (partsR s).1) (hle : nv (partsR s).2.1 * nv (partsR r).2.2 ≤ nv (partsR r).2.1 * nv (partsR s).2.2) : mkRat (sg (partsR r).1 (nv (partsR r).2.1 * nv (partsR s).2.2 - nv (partsR s).2.1 * nv (partsR r).2.2)) (nv (partsR r).2.2 * nv (partsR s).2.2) = ratOf r + ratOf s := by
  unfold ratOf
  rw [Rat.mkRat_add_mkRat _ _ (partsR_ok hr).2.2.1 (partsR_ok hs).2.2.1, sg_sub h hle, sg_scale, sg_scale]
theorem ratOf_sub' {r s : Rw} (hr : r.Ok) (hs : s.Ok) (h : (partsR r).1 ≠ (partsR s).1) (hle : nv (partsR r).2.1 * nv (partsR s).2.2 ≤ nv (partsR s).2.1 * nv (partsR r).2.2) : mkRat (sg (partsR s).1 (nv (partsR s).2.1 * nv (partsR r).2.2 - nv (partsR r).2.1 * nv (partsR s).2.2)) (nv (partsR r).2.2 * nv (partsR s).2.2) = ratOf r + ratOf s := by
  unfold ratOf
  rw [Rat.mkRat_add_mkRat _ _ (partsR_ok hr).2.2.1 (partsR_ok hs).2.2.1, sg_sub' h hle, sg_scale, sg_scale]
theorem sign_ratOf {r : Rw} (hr : r.Ok) : ((partsR r).2.1.length = 0 ↔ ratOf r = 0) ∧ ((partsR r).2.1.length ≠ 0 → ((partsR r).1 = true ↔ ratOf r < 0)) := by
  have hok := partsR_ok hr
  have h0 : (partsR r).2.1.length = 0 ↔ nv (partsR r).2.1 = 0 := by
    constructor
    · intro h; rw [List.eq_nil_of_length_eq_zero h]; rfl
    · intro h
      have := nw_nv hok.1 hok.2.2.2.1
      rw [h, nw_zero] at this
      rw [← this]; rfl
  have h1 : ratOf r = 0 ↔ nv (partsR r).2.1 = 0 := by
    unfold ratOf
    rw [Rat.mkRat_eq_zero hok.2.2.1]
    constructor
    · intro h; have := sg_abs (partsR r).1 (nv (partsR r).2.1); rw [h] at this; simpa using this.symm
    · intro h; rw [h]; exact sg_zero _
  refine ⟨h0.trans h1.symm, fun hne => ?_⟩
  have hn : nv (partsR r).2.1 ≠ 0 := fun h => hne (h0.2 h)
  unfold ratOf
  have h2 : mkRat (sg (partsR r).1 (nv (partsR r).2.1)) (nv (partsR r).2.2) < 0 ↔ sg (partsR r).1 (nv (partsR r).2.1) < 0 := by
    have hd : (0 : Int) < (nv (partsR r).2.2 : Int) := by have := hok.2.2.1; omega
    rw [← Rat.divInt_ofNat, ← Int.not_le, ← Rat.not_le]
    rw [show (0 ≤ Rat.divInt (sg (partsR r).1 (nv (partsR r).2.1)) (nv (partsR r).2.2 : Int)) ↔ 0 ≤ sg (partsR r).1 (nv (partsR r).2.1) from Rat.divInt_nonneg_iff_of_pos_right hd]
  rw [h2]
  unfold sg
  cases (partsR r).1 with
  | true => simp; omega
  | false => simp
/-- A fraction that has been stored into its own cells. -/
theorem rat_stored {w : World} {g : Nat} {T : TypeId} {v1 v2 : Value} {r : Rw} (hr : RowAt w g T [.bool false, .slice none 0 0, .slice none 0 0]) (hf : FixAt w g [.bool false, .slice none 0 0, .slice none 0 0]) (h1 : WdsAt w v1 r.num) (h2 : WdsAt w v2 r.den) :
    (((w.setCell ⟨g, 0, none⟩ (.bool r.neg)).setCell ⟨g, 1, none⟩ v1).setCell ⟨g, 2, none⟩ v2).cell? ⟨g, 0, none⟩ = some (.bool r.neg) ∧
    (((w.setCell ⟨g, 0, none⟩ (.bool r.neg)).setCell ⟨g, 1, none⟩ v1).setCell ⟨g, 2, none⟩ v2).cell? ⟨g, 1, none⟩ = some v1 ∧
    (((w.setCell ⟨g, 0, none⟩ (.bool r.neg)).setCell ⟨g, 1, none⟩ v1).setCell ⟨g, 2, none⟩ v2).cell? ⟨g, 2, none⟩ = some v2 ∧
    RatAt (((w.setCell ⟨g, 0, none⟩ (.bool r.neg)).setCell ⟨g, 1, none⟩ v1).setCell ⟨g, 2, none⟩ v2) (.agg #[.bool r.neg, v1, v2]) r := by
  have hF := (((hr.store 0 (.bool r.neg)).store 1 v1).store 2 v2)
  have y0 := hF.cell (i := 0) (by simp)
  have y1 := hF.cell (i := 1) (by simp)
  have y2 := hF.cell (i := 2) (by simp)
  simp only [List.set_cons_zero, List.set_cons_succ, List.getElem_cons_succ, List.getElem_cons_zero] at y0 y1 y2
  have hO := (((OnlyAt.refl g w).store 0 (.bool r.neg)).store 1 v1).store 2 v2
  exact ⟨y0, y1, y2, _, _, rfl, h1.apart hf (by simp) hO, h2.apart hf (by simp) hO⟩
end Go.Proofs.YthiemjodcklejaaGreatDoor

/-
  Walks: rational.Neg, Sign, Mul, Add.
-/
namespace Go.Proofs.YthiemjodcklejaaGreatDoor
open Go.RowKit

theorem res_made (w : World) (box : Obj) : RowAt ((w.alloc box).alloc (.cells #[.bool false, .slice none 0 0, .slice none 0 0] 31)) (w.heap.size + 1) 31 [.bool false, .slice none 0 0, .slice none 0 0] ∧ FixAt ((w.alloc box).alloc (.cells #[.bool false, .slice none 0 0, .slice none 0 0] 31)) (w.heap.size + 1) [.bool false, .slice none 0 0, .slice none 0 0] ∧ Kept w ((w.alloc box).alloc (.cells #[.bool false, .slice none 0 0, .slice none 0 0] 31)) := by
  have h1 := RowAt.made (w.alloc box) #[.bool false, .slice none 0 0, .slice none 0 0] 31
  have h2 := FixAt.made (w.alloc box) #[.bool false, .slice none 0 0, .slice none 0 0] 31
  simp only [World.size_alloc] at h1 h2
  exact ⟨h1, h2, ((Kept.refl w).alloc _).alloc _⟩
theorem res_made2 (w : World) (b1 b2 : Obj) : RowAt (((w.alloc b1).alloc b2).alloc (.cells #[.bool false, .slice none 0 0, .slice none 0 0] 31)) (w.heap.size + 1 + 1) 31 [.bool false, .slice none 0 0, .slice none 0 0] ∧ FixAt (((w.alloc b1).alloc b2).alloc (.cells #[.bool false, .slice none 0 0, .slice none 0 0] 31)) (w.heap.size + 1 + 1) [.bool false, .slice none 0 0, .slice none 0 0] ∧ Kept w (((w.alloc b1).alloc b2).alloc (.cells #[.bool false, .slice none 0 0, .slice none 0 0] 31)) := by
  have h1 := RowAt.made ((w.alloc b1).alloc b2) #[.bool false, .slice none 0 0, .slice none 0 0] 31
  have h2 := FixAt.made ((w.alloc b1).alloc b2) #[.bool false, .slice none 0 0, .slice none 0 0] 31
  simp only [World.size_alloc] at h1 h2
  exact ⟨h1, h2, (((Kept.refl w).alloc _).alloc _).alloc _⟩
set_option maxRecDepth 100000 in
set_option maxHeartbeats 4000000 in
theorem rneg_any (v : Value) (r : Rw) (w : World) (hv : RatAt w v r) (hs : r.Short 274877906944) : Calls Tryz.prog 72 #[v] w fun e w' => (∃ v', e = .returned v' ∧ RatAt w' v' (canR (- ratOf r))) ∧ Kept w w' := by
  have HPA := Lib.hid (fun W (hk : Kept w W) => rparts_any v r W (hv.kept hk) hs)
  have hok := partsR_ok hv.ok
  have hsh := parts_short hs (by omega)
  obtain ⟨R, hR⟩ : ∃ R, R = canR (- ratOf r) := ⟨_, rfl⟩
  have HFO : Hid (∀ W u1 u2, WdsAt W u1 (partsR r).2.1 → WdsAt W u2 (partsR r).2.2 → Calls Tryz.prog 69 #[.bool (!(partsR r).1), u1, u2] W fun e w' => (∃ v, e = .returned v ∧ RatAt w' v R) ∧ Kept W w') := Lib.hid fun W u1 u2 k1 k2 => by
    have h := rform_any (!(partsR r).1) u1 u2 _ _ W k1 k2 hsh.1 hsh.2 hok.2.2.1
    rw [form_can _ _ _ hok.2.2.1, ratOf_neg, ← hR] at h
    exact h
  rw [← hR]
  obtain ⟨u1, u2, rfl, h1, h2⟩ := hv
  obtain ⟨a1, c1, rfl⟩ := h1.shape
  obtain ⟨a2, c2, rfl⟩ := h2.shape
  obtain ⟨w2, hw2⟩ : ∃ w2, w2 = (w.alloc (.cells #[.bool r.neg, .slice a1 r.num.length c1, .slice a2 r.den.length c2] 31)).alloc (.cells #[.bool false, .slice none 0 0, .slice none 0 0] 31) := ⟨_, rfl⟩
  have HM := Lib.hid (res_made w (.cells #[.bool r.neg, .slice a1 r.num.length c1, .slice a2 r.den.length c2] 31))
  rw [← hw2] at HM
  have HW2 := Lib.hid hw2
  generalize (partsR r).1 = s at *
  generalize (partsR r).2.1 = N at *
  generalize (partsR r).2.2 = D at *
  generalize r.num.length = n1 at *
  generalize r.den.length = n2 at *
  generalize r.neg = neg at *
  clear hok hsh hR h1 h2 hs hw2
  go_enter Tryz.func72, Tryz.ntmps72
  go_wp2_with fail
  rw [← HW2.out]
  refine (HPA.out _ HM.out.2.2).mono ?_
  rintro e w3 ⟨⟨u3, u4, rfl, hu3, hu4⟩, hk3⟩
  have H3 := Lib.hid hu3
  have H4 := Lib.hid hu4
  have HR3 := Lib.hid (HM.out.1.kept hk3)
  have HF3 := Lib.hid (HM.out.2.1.kept hk3)
  have HK3 := Lib.hid (HM.out.2.2.trans hk3)
  clear hu3 hu4 hk3
  go_wp2_with fail
  refine (HFO.out _ _ _ H3.out H4.out).mono ?_
  rintro e w4 ⟨⟨v4, rfl, hv4⟩, hk4⟩
  have HV4 := Lib.hid hv4
  have hr4 := HR3.out.kept hk4
  have HR4 := Lib.hid hr4
  have HF4 := Lib.hid (HF3.out.kept hk4)
  have HK4 := Lib.hid (HK3.out.trans hk4)
  obtain ⟨u5, u6, rfl, k5, k6⟩ := hv4
  obtain ⟨a5, c5, rfl⟩ := k5.shape
  obtain ⟨a6, c6, rfl⟩ := k6.shape
  obtain ⟨y0, y1, y2, hra⟩ := rat_stored hr4 HF4.out k5 k6
  have g0 := hr4.cell (i := 0) (by simp)
  have g1 := hr4.cell (i := 1) (by simp)
  have g2 := hr4.cell (i := 2) (by simp)
  have f0 := hr4.free 0
  have f1 := hr4.free 1
  have f2 := hr4.free 2
  have HRA := Lib.hid hra
  have Y0 := Lib.hid y0
  have Y1 := Lib.hid y1
  have Y2 := Lib.hid y2
  clear hra y0 y1 y2 k5 k6 hr4 hk4
  generalize R.num.length = n5 at *
  generalize R.den.length = n6 at *
  go_wp2
  refine bodyPost_ret (v := .agg #[.bool R.neg, .slice a5 n5 c5, .slice a6 n6 c6]) ?_ rfl ⟨⟨_, rfl, HRA.out⟩, ?_⟩
  · simp [results, Tryz.results72, go_sem, Y0.out, Y1.out, Y2.out]
  · exact ((HK4.out.store (by omega) _ _).store (by omega) _ _).store (by omega) _ _
end Go.Proofs.YthiemjodcklejaaGreatDoor

/-
  Walks: rational.Sign, Mul, Add.
-/
namespace Go.Proofs.YthiemjodcklejaaGreatDoor
open Go.RowKit

/-- The sign of a number. -/
def sgnR (q : Rat) : Int := if q = 0 then 0 else if q < 0 then -1 else 1
set_option maxRecDepth 100000 in
set_option maxHeartbeats 4000000 in
theorem rsign_any (v : Value) (r : Rw) (w : World) (hv : RatAt w v r) (hs : r.Short 274877906944) : Calls Tryz.prog 17 #[v] w fun e w' => e = .returned (.int .i64 (sgnR (ratOf r))) ∧ Kept w w' := by
  have HPA := Lib.hid (fun W (hk : Kept w W) => rparts_any v r W (hv.kept hk) hs)
  obtain ⟨k1, k2⟩ := sign_ratOf hv.ok
  obtain ⟨u1, u2, rfl, h1, h2⟩ := hv
  obtain ⟨a1, c1, rfl⟩ := h1.shape
  obtain ⟨a2, c2, rfl⟩ := h2.shape
  have HK0 : Hid (Kept w (w.alloc (.cells #[.bool r.neg, .slice a1 r.num.length c1, .slice a2 r.den.length c2] 31))) := Lib.hid ((Kept.refl w).alloc _)
  obtain ⟨ln, hln⟩ : ∃ ln, ln = (partsR r).2.1.length := ⟨_, rfl⟩
  have HLN := Lib.hid hln
  rw [← hln] at k1 k2
  obtain ⟨S, hS⟩ : ∃ S, S = sgnR (ratOf r) := ⟨_, rfl⟩
  rw [← hS]
  have hSS : S = if ln = 0 then 0 else if (partsR r).1 = true then -1 else 1 := by
    rw [hS]
    unfold sgnR
    by_cases h : ln = 0
    · rw [if_pos h, if_pos (k1.1 h)]
    · rw [if_neg h, if_neg (fun e => h (k1.2 e))]
      by_cases h3 : (partsR r).1 = true
      · rw [if_pos h3, if_pos ((k2 h).1 h3)]
      · rw [if_neg h3, if_neg (fun e => h3 ((k2 h).2 e))]
  generalize (partsR r).1 = s at *
  generalize (partsR r).2.1 = N at *
  generalize (partsR r).2.2 = D at *
  generalize r.num.length = n1 at *
  generalize r.den.length = n2 at *
  generalize r.neg = neg at *
  clear h1 h2 hs hS k1 k2 hln
  by_cases h0 : ln = 0
  · have hE : S = 0 := by rw [hSS, if_pos h0]
    subst h0 hE
    clear hSS
    go_enter Tryz.func17, Tryz.ntmps17
    go_wp2_with fail
    refine (HPA.out _ HK0.out).mono ?_
    rintro e w3 ⟨⟨u3, u4, rfl, hu3, hu4⟩, hk3⟩
    obtain ⟨a3, c3, rfl⟩ := hu3.shape
    rw [← HLN.out]
    have HK3 := Lib.hid (HK0.out.trans hk3)
    clear hu3 hu4 hk3
    go_wp2
    go_ret
    exact ⟨rfl, HK3.out⟩
  · have hb : ((ln : Int) == 0) = false := by simp; exact h0
    cases s with
    | true =>
      have hE : S = -1 := by rw [hSS, if_neg h0, if_pos rfl]
      subst hE
      clear hSS h0
      go_enter Tryz.func17, Tryz.ntmps17
      go_wp2_with fail
      refine (HPA.out _ HK0.out).mono ?_
      rintro e w3 ⟨⟨u3, u4, rfl, hu3, hu4⟩, hk3⟩
      obtain ⟨a3, c3, rfl⟩ := hu3.shape
      rw [← HLN.out]
      have HK3 := Lib.hid (HK0.out.trans hk3)
      clear hu3 hu4 hk3
      go_wp2
      go_ret
      exact ⟨rfl, HK3.out⟩
    | false =>
      have hE : S = 1 := by rw [hSS, if_neg h0, if_neg (by simp)]
      subst hE
      clear hSS h0
      go_enter Tryz.func17, Tryz.ntmps17
      go_wp2_with fail
      refine (HPA.out _ HK0.out).mono ?_
      rintro e w3 ⟨⟨u3, u4, rfl, hu3, hu4⟩, hk3⟩
      obtain ⟨a3, c3, rfl⟩ := hu3.shape
      rw [← HLN.out]
      have HK3 := Lib.hid (HK0.out.trans hk3)
      clear hu3 hu4 hk3
      go_wp2
      go_ret
      exact ⟨rfl, HK3.out⟩
theorem nw_mul_len {xs ys : List Nat} (hx : Wd xs) (hy : Wd ys) : (nw (nv xs * nv ys)).length ≤ xs.length + ys.length := by
  refine nw_len_lt.2 ?_
  rw [Nat.pow_add]
  exact Nat.mul_lt_mul'' (nv_lt hx) (nv_lt hy)
set_option maxRecDepth 100000 in
set_option maxHeartbeats 4000000 in
theorem rmul_any (va vb : Value) (r s : Rw) (w : World) (ha : RatAt w va r) (hb : RatAt w vb s) (hr : r.Short 137438953472) (hs : s.Short 137438953472) : Calls Tryz.prog 26 #[va, vb] w fun e w' => (∃ v', e = .returned v' ∧ RatAt w' v' (canR (ratOf r * ratOf s))) ∧ Kept w w' := by
  have HP1 := Lib.hid (fun W (hk : Kept w W) => rparts_any va r W (ha.kept hk) ⟨Nat.le_trans hr.1 (by omega), Nat.le_trans hr.2 (by omega)⟩)
  have HP2 := Lib.hid (fun W (hk : Kept w W) => rparts_any vb s W (hb.kept hk) ⟨Nat.le_trans hs.1 (by omega), Nat.le_trans hs.2 (by omega)⟩)
  have hok1 := partsR_ok ha.ok
  have hok2 := partsR_ok hb.ok
  have hsh1 := parts_short hr (by omega)
  have hsh2 := parts_short hs (by omega)
  obtain ⟨R, hR⟩ : ∃ R, R = canR (ratOf r * ratOf s) := ⟨_, rfl⟩
  obtain ⟨x, hx⟩ : ∃ x, x = ((partsR r).1 != (partsR s).1) := ⟨_, rfl⟩
  have HFO : Hid (∀ W u1 u2, WdsAt W u1 (nw (nv (partsR r).2.1 * nv (partsR s).2.1)) → WdsAt W u2 (nw (nv (partsR r).2.2 * nv (partsR s).2.2)) → Calls Tryz.prog 69 #[.bool x, u1, u2] W fun e w' => (∃ v, e = .returned v ∧ RatAt w' v R) ∧ Kept W w') := Lib.hid fun W u1 u2 k1 k2 => by
    have hd : nv (partsR r).2.2 * nv (partsR s).2.2 ≠ 0 := Nat.mul_ne_zero hok1.2.2.1 hok2.2.2.1
    have h := rform_any x u1 u2 _ _ W k1 k2 (Nat.le_trans (nw_mul_len hok1.1 hok2.1) (by omega)) (Nat.le_trans (nw_mul_len hok1.2.1 hok2.2.1) (by omega)) (by rw [nv_nw]; exact hd)
    rw [nv_nw, nv_nw, form_can _ _ _ hd, hx, ratOf_mul, ← hR] at h
    rw [hx]
    exact h
  have HM1 : Hid (∀ W u1 u2, WdsAt W u1 (partsR r).2.1 → WdsAt W u2 (partsR s).2.1 → Calls Tryz.prog 73 #[u1, u2] W fun e w' => (∃ v', e = .returned v' ∧ WdsAt w' v' (nw (nv (partsR r).2.1 * nv (partsR s).2.1))) ∧ Kept W w') := Lib.hid fun W u1 u2 k1 k2 => nmul_any u1 u2 _ _ W k1 k2 (by omega) (by omega)
  have HM2 : Hid (∀ W u1 u2, WdsAt W u1 (partsR r).2.2 → WdsAt W u2 (partsR s).2.2 → Calls Tryz.prog 73 #[u1, u2] W fun e w' => (∃ v', e = .returned v' ∧ WdsAt w' v' (nw (nv (partsR r).2.2 * nv (partsR s).2.2))) ∧ Kept W w') := Lib.hid fun W u1 u2 k1 k2 => nmul_any u1 u2 _ _ W k1 k2 (by omega) (by omega)
  rw [← hR]
  obtain ⟨u1, u2, rfl, h1, h2⟩ := ha
  obtain ⟨u3, u4, rfl, h3, h4⟩ := hb
  obtain ⟨a1, c1, rfl⟩ := h1.shape
  obtain ⟨a2, c2, rfl⟩ := h2.shape
  obtain ⟨a3, c3, rfl⟩ := h3.shape
  obtain ⟨a4, c4, rfl⟩ := h4.shape
  obtain ⟨w2, hw2⟩ : ∃ w2, w2 = ((w.alloc (.cells #[.bool r.neg, .slice a1 r.num.length c1, .slice a2 r.den.length c2] 31)).alloc (.cells #[.bool s.neg, .slice a3 s.num.length c3, .slice a4 s.den.length c4] 31)).alloc (.cells #[.bool false, .slice none 0 0, .slice none 0 0] 31) := ⟨_, rfl⟩
  have HM := Lib.hid (res_made2 w (.cells #[.bool r.neg, .slice a1 r.num.length c1, .slice a2 r.den.length c2] 31) (.cells #[.bool s.neg, .slice a3 s.num.length c3, .slice a4 s.den.length c4] 31))
  rw [← hw2] at HM
  have hb2 := RowAt.made (w.alloc (.cells #[.bool r.neg, .slice a1 r.num.length c1, .slice a2 r.den.length c2] 31)) #[.bool s.neg, .slice a3 s.num.length c3, .slice a4 s.den.length c4] 31
  simp only [World.size_alloc] at hb2
  have HB2 : Hid (RowAt w2 (w.heap.size + 1) 31 [.bool s.neg, .slice a3 s.num.length c3, .slice a4 s.den.length c4]) := Lib.hid (by rw [hw2]; exact hb2.kept ((Kept.refl _).alloc _))
  have HW2 := Lib.hid hw2
  generalize nw (nv (partsR r).2.1 * nv (partsR s).2.1) = NM at *
  generalize nw (nv (partsR r).2.2 * nv (partsR s).2.2) = DE at *
  generalize (partsR r).1 = s1 at *
  generalize (partsR s).1 = s2 at *
  generalize (partsR r).2.1 = N at *
  generalize (partsR r).2.2 = D at *
  generalize (partsR s).2.1 = M at *
  generalize (partsR s).2.2 = E at *
  generalize r.num.length = n1 at *
  generalize r.den.length = n2 at *
  generalize s.num.length = n3 at *
  generalize s.den.length = n4 at *
  generalize r.neg = neg1 at *
  generalize s.neg = neg2 at *
  have hx1 : (s1 != s2) = x := hx.symm
  have hx2 : (s1 == s2) = !x := by rw [hx]; simp [bne]
  clear hok1 hok2 hsh1 hsh2 hR h1 h2 h3 h4 hr hs hw2 hb2 hx
  go_enter Tryz.func26, Tryz.ntmps26
  go_wp2_with fail
  rw [← HW2.out]
  refine (HP1.out _ HM.out.2.2).mono ?_
  rintro e w3 ⟨⟨u3, u4, rfl, hu3, hu4⟩, hk3⟩
  have HN := Lib.hid hu3
  have HD := Lib.hid hu4
  have HR3 := Lib.hid (HM.out.1.kept hk3)
  have HF3 := Lib.hid (HM.out.2.1.kept hk3)
  have hb3 := HB2.out.kept hk3
  have g0 := hb3.cell (i := 0) (by simp)
  have g1 := hb3.cell (i := 1) (by simp)
  have g2 := hb3.cell (i := 2) (by simp)
  simp only [List.getElem_cons_succ, List.getElem_cons_zero] at g0 g1 g2
  have HK3 := Lib.hid (HM.out.2.2.trans hk3)
  clear hu3 hu4 hk3 hb3
  go_wp2_with fail
  refine (HP2.out _ HK3.out).mono ?_
  rintro e w4 ⟨⟨u5, u6, rfl, hu5, hu6⟩, hk4⟩
  have HN' := Lib.hid (HN.out.kept hk4)
  have HD' := Lib.hid (HD.out.kept hk4)
  have HMM := Lib.hid hu5
  have HEE := Lib.hid hu6
  have HR4 := Lib.hid (HR3.out.kept hk4)
  have HF4 := Lib.hid (HF3.out.kept hk4)
  have HK4 := Lib.hid (HK3.out.trans hk4)
  clear hu5 hu6 hk4 g0 g1 g2
  go_wp2_with fail
  refine (HM1.out _ _ _ HN'.out HMM.out).mono ?_
  rintro e w5 ⟨⟨v5, rfl, hv5⟩, hk5⟩
  have HV5 := Lib.hid hv5
  have HR5 := Lib.hid (HR4.out.kept hk5)
  have HF5 := Lib.hid (HF4.out.kept hk5)
  have HD5 := Lib.hid (HD'.out.kept hk5)
  have HE5 := Lib.hid (HEE.out.kept hk5)
  have HK5 := Lib.hid (HK4.out.trans hk5)
  clear hv5 hk5
  go_wp2_with fail
  refine (HM2.out _ _ _ HD5.out HE5.out).mono ?_
  rintro e w6 ⟨⟨v6, rfl, hv6⟩, hk6⟩
  have HV6 := Lib.hid hv6
  have HV5' := Lib.hid (HV5.out.kept hk6)
  have HR6 := Lib.hid (HR5.out.kept hk6)
  have HF6 := Lib.hid (HF5.out.kept hk6)
  have HK6 := Lib.hid (HK5.out.trans hk6)
  clear hv6 hk6
  go_wp2_with fail
  first
    | (refine (HFO.out _ _ _ HV5'.out HV6.out).mono ?_)
    | (rw [hx1]; refine (HFO.out _ _ _ HV5'.out HV6.out).mono ?_)
  rintro e w7 ⟨⟨v7, rfl, hv7⟩, hk7⟩
  have HV7 := Lib.hid hv7
  have hr7 := HR6.out.kept hk7
  have HF7 := Lib.hid (HF6.out.kept hk7)
  have HK7 := Lib.hid (HK6.out.trans hk7)
  obtain ⟨u7, u8, rfl, k7, k8⟩ := hv7
  obtain ⟨a7, c7, rfl⟩ := k7.shape
  obtain ⟨a8, c8, rfl⟩ := k8.shape
  obtain ⟨y0, y1, y2, hra⟩ := rat_stored hr7 HF7.out k7 k8
  have g0 := hr7.cell (i := 0) (by simp)
  have g1 := hr7.cell (i := 1) (by simp)
  have g2 := hr7.cell (i := 2) (by simp)
  have f0 := hr7.free 0
  have f1 := hr7.free 1
  have f2 := hr7.free 2
  have HRA := Lib.hid hra
  have Y0 := Lib.hid y0
  have Y1 := Lib.hid y1
  have Y2 := Lib.hid y2
  clear hra y0 y1 y2 k7 k8 hr7 hk7
  generalize R.num.length = n7 at *
  generalize R.den.length = n8 at *
  go_wp2
  refine bodyPost_ret (v := .agg #[.bool R.neg, .slice a7 n7 c7, .slice a8 n8 c8]) ?_ rfl ⟨⟨_, rfl, HRA.out⟩, ?_⟩
  · simp [results, Tryz.results26, go_sem, Y0.out, Y1.out, Y2.out]
  · exact ((HK7.out.store (by omega) _ _).store (by omega) _ _).store (by omega) _ _
end Go.Proofs.YthiemjodcklejaaGreatDoor

/-
  Walks: rational.Add. Printed by gen_A24.py.
-/
namespace Go.Proofs.YthiemjodcklejaaGreatDoor
open Go.RowKit

theorem nw_add_len {p q k : Nat} (hp : (nw p).length ≤ k) (hq : (nw q).length ≤ k) : (nw (p + q)).length ≤ k + 1 := by
  have hp := nw_len_lt.1 hp
  have hq := nw_len_lt.1 hq
  refine nw_len_lt.2 ?_
  rw [Nat.pow_succ]
  omega
theorem nw_mono_len {p q : Nat} (h : p ≤ q) : (nw p).length ≤ (nw q).length := nw_len_lt.2 (Nat.lt_of_le_of_lt h (nw_len_lt.1 (Nat.le_refl _)))
set_option maxRecDepth 100000 in
set_option maxHeartbeats 4000000 in
theorem radd_same (va vb : Value) (r s : Rw) (w : World) (ha : RatAt w va r) (hb : RatAt w vb s) (hr : r.Short 68719476736) (hs : s.Short 68719476736) (hss : (partsR r).1 = (partsR s).1) : Calls Tryz.prog 27 #[va, vb] w fun e w' => (∃ v', e = .returned v' ∧ RatAt w' v' (canR (ratOf r + ratOf s))) ∧ Kept w w' := by
  have HP1 := Lib.hid (fun W (hk : Kept w W) => rparts_any va r W (ha.kept hk) ⟨Nat.le_trans hr.1 (by omega), Nat.le_trans hr.2 (by omega)⟩)
  have HP2 := Lib.hid (fun W (hk : Kept w W) => rparts_any vb s W (hb.kept hk) ⟨Nat.le_trans hs.1 (by omega), Nat.le_trans hs.2 (by omega)⟩)
  have hok1 := partsR_ok ha.ok
  have hok2 := partsR_ok hb.ok
  have hsh1 := parts_short hr (by omega)
  have hsh2 := parts_short hs (by omega)
  obtain ⟨R, hR⟩ : ∃ R, R = canR (ratOf r + ratOf s) := ⟨_, rfl⟩
  obtain ⟨p, hp⟩ : ∃ p, p = nv (partsR r).2.1 * nv (partsR s).2.2 := ⟨_, rfl⟩
  obtain ⟨q, hq⟩ : ∃ q, q = nv (partsR s).2.1 * nv (partsR r).2.2 := ⟨_, rfl⟩
  obtain ⟨d, hd⟩ : ∃ d, d = nv (partsR r).2.2 * nv (partsR s).2.2 := ⟨_, rfl⟩
  have hlp : (nw p).length ≤ 137438953472 := by rw [hp]; exact Nat.le_trans (nw_mul_len hok1.1 hok2.2.1) (by omega)
  have hlq : (nw q).length ≤ 137438953472 := by rw [hq]; exact Nat.le_trans (nw_mul_len hok2.1 hok1.2.1) (by omega)
  have hld : (nw d).length ≤ 137438953472 := by rw [hd]; exact Nat.le_trans (nw_mul_len hok1.2.1 hok2.2.1) (by omega)
  have hd0 : d ≠ 0 := by rw [hd]; exact Nat.mul_ne_zero hok1.2.2.1 hok2.2.2.1
  have HAD : Hid (∀ W u1 u2, WdsAt W u1 (nw p) → WdsAt W u2 (nw q) → Calls Tryz.prog 74 #[u1, u2] W fun e w' => (∃ v', e = .returned v' ∧ WdsAt w' v' (nw (p + q))) ∧ Kept W w') := Lib.hid fun W u1 u2 k1 k2 => by
    have h := nadd_any u1 u2 _ _ W k1 k2 (by omega) (by omega)
    rw [nv_nw, nv_nw] at h
    exact h
  have HFO : Hid (∀ W u1 u2, WdsAt W u1 (nw (p + q)) → WdsAt W u2 (nw d) → Calls Tryz.prog 69 #[.bool (partsR r).1, u1, u2] W fun e w' => (∃ v, e = .returned v ∧ RatAt w' v R) ∧ Kept W w') := Lib.hid fun W u1 u2 k1 k2 => by
    have h := rform_any (partsR r).1 u1 u2 _ _ W k1 k2 (Nat.le_trans (nw_add_len hlp hlq) (by omega)) (Nat.le_trans hld (by omega)) (by rw [nv_nw]; exact hd0)
    rw [nv_nw, nv_nw, form_can _ _ _ hd0, hp, hq, hd, ratOf_add ha.ok hb.ok hss, ← hR] at h
    exact h
  have HM1 : Hid (∀ W u1 u2, WdsAt W u1 (partsR r).2.1 → WdsAt W u2 (partsR s).2.2 → Calls Tryz.prog 73 #[u1, u2] W fun e w' => (∃ v', e = .returned v' ∧ WdsAt w' v' (nw p)) ∧ Kept W w') := Lib.hid fun W u1 u2 k1 k2 => by rw [hp]; exact nmul_any u1 u2 _ _ W k1 k2 (by omega) (by omega)
  have HM2 : Hid (∀ W u1 u2, WdsAt W u1 (partsR s).2.1 → WdsAt W u2 (partsR r).2.2 → Calls Tryz.prog 73 #[u1, u2] W fun e w' => (∃ v', e = .returned v' ∧ WdsAt w' v' (nw q)) ∧ Kept W w') := Lib.hid fun W u1 u2 k1 k2 => by rw [hq]; exact nmul_any u1 u2 _ _ W k1 k2 (by omega) (by omega)
  have HM3 : Hid (∀ W u1 u2, WdsAt W u1 (partsR r).2.2 → WdsAt W u2 (partsR s).2.2 → Calls Tryz.prog 73 #[u1, u2] W fun e w' => (∃ v', e = .returned v' ∧ WdsAt w' v' (nw d)) ∧ Kept W w') := Lib.hid fun W u1 u2 k1 k2 => by rw [hd]; exact nmul_any u1 u2 _ _ W k1 k2 (by omega) (by omega)
  rw [← hR]
  obtain ⟨u1, u2, rfl, h1, h2⟩ := ha
  obtain ⟨u3, u4, rfl, h3, h4⟩ := hb
  obtain ⟨a1, c1, rfl⟩ := h1.shape
  obtain ⟨a2, c2, rfl⟩ := h2.shape
  obtain ⟨a3, c3, rfl⟩ := h3.shape
  obtain ⟨a4, c4, rfl⟩ := h4.shape
  obtain ⟨w2, hw2⟩ : ∃ w2, w2 = ((w.alloc (.cells #[.bool r.neg, .slice a1 r.num.length c1, .slice a2 r.den.length c2] 31)).alloc (.cells #[.bool s.neg, .slice a3 s.num.length c3, .slice a4 s.den.length c4] 31)).alloc (.cells #[.bool false, .slice none 0 0, .slice none 0 0] 31) := ⟨_, rfl⟩
  have HM := Lib.hid (res_made2 w (.cells #[.bool r.neg, .slice a1 r.num.length c1, .slice a2 r.den.length c2] 31) (.cells #[.bool s.neg, .slice a3 s.num.length c3, .slice a4 s.den.length c4] 31))
  rw [← hw2] at HM
  have hb2 := RowAt.made (w.alloc (.cells #[.bool r.neg, .slice a1 r.num.length c1, .slice a2 r.den.length c2] 31)) #[.bool s.neg, .slice a3 s.num.length c3, .slice a4 s.den.length c4] 31
  simp only [World.size_alloc] at hb2
  have HB2 : Hid (RowAt w2 (w.heap.size + 1) 31 [.bool s.neg, .slice a3 s.num.length c3, .slice a4 s.den.length c4]) := Lib.hid (by rw [hw2]; exact hb2.kept ((Kept.refl _).alloc _))
  have HW2 := Lib.hid hw2
  generalize nw d = DE at *
  generalize (partsR r).1 = s1 at *
  generalize (partsR s).1 = s2 at *
  generalize (partsR r).2.1 = N at *
  generalize (partsR r).2.2 = D at *
  generalize (partsR s).2.1 = M at *
  generalize (partsR s).2.2 = E at *
  generalize r.num.length = n1 at *
  generalize r.den.length = n2 at *
  generalize s.num.length = n3 at *
  generalize s.den.length = n4 at *
  generalize r.neg = neg1 at *
  generalize s.neg = neg2 at *
  clear hok1 hok2 hsh1 hsh2 hR h1 h2 h3 h4 hr hs hw2 hb2 hp hq hd hlp hlq hld hd0
  have hb : (s1 == s2) = true := by simpa using hss
  clear hss
  go_enter Tryz.func27, Tryz.ntmps27
  go_wp2_with fail
  rw [← HW2.out]
  refine (HP1.out _ HM.out.2.2).mono ?_
  rintro e w3 ⟨⟨u3, u4, rfl, hu3, hu4⟩, hk3⟩
  have HN := Lib.hid hu3
  have HD := Lib.hid hu4
  have HR3 := Lib.hid (HM.out.1.kept hk3)
  have HF3 := Lib.hid (HM.out.2.1.kept hk3)
  have hb3 := HB2.out.kept hk3
  have g0 := hb3.cell (i := 0) (by simp)
  have g1 := hb3.cell (i := 1) (by simp)
  have g2 := hb3.cell (i := 2) (by simp)
  simp only [List.getElem_cons_succ, List.getElem_cons_zero] at g0 g1 g2
  have HK3 := Lib.hid (HM.out.2.2.trans hk3)
  clear hu3 hu4 hk3 hb3
  go_wp2_with fail
  refine (HP2.out _ HK3.out).mono ?_
  rintro e w4 ⟨⟨u5, u6, rfl, hu5, hu6⟩, hk4⟩
  have HN' := Lib.hid (HN.out.kept hk4)
  have HD' := Lib.hid (HD.out.kept hk4)
  have HMM := Lib.hid hu5
  have HEE := Lib.hid hu6
  have HR4 := Lib.hid (HR3.out.kept hk4)
  have HF4 := Lib.hid (HF3.out.kept hk4)
  have HK4 := Lib.hid (HK3.out.trans hk4)
  clear hu5 hu6 hk4 g0 g1 g2
  go_wp2_with fail
  refine (HM1.out _ _ _ HN'.out HEE.out).mono ?_
  rintro e w5 ⟨⟨v5, rfl, hv5⟩, hk5⟩
  have HV5 := Lib.hid hv5
  have HR5 := Lib.hid (HR4.out.kept hk5)
  have HF5 := Lib.hid (HF4.out.kept hk5)
  have HD5 := Lib.hid (HD'.out.kept hk5)
  have HE5 := Lib.hid (HEE.out.kept hk5)
  have HM5 := Lib.hid (HMM.out.kept hk5)
  have HK5 := Lib.hid (HK4.out.trans hk5)
  clear hv5 hk5
  go_wp2_with fail
  refine (HM2.out _ _ _ HM5.out HD5.out).mono ?_
  rintro e w6 ⟨⟨v6, rfl, hv6⟩, hk6⟩
  have HV6 := Lib.hid hv6
  have HV5' := Lib.hid (HV5.out.kept hk6)
  have HR6 := Lib.hid (HR5.out.kept hk6)
  have HF6 := Lib.hid (HF5.out.kept hk6)
  have HD6 := Lib.hid (HD5.out.kept hk6)
  have HE6 := Lib.hid (HE5.out.kept hk6)
  have HK6 := Lib.hid (HK5.out.trans hk6)
  clear hv6 hk6
  go_wp2_with fail
  refine (HM3.out _ _ _ HD6.out HE6.out).mono ?_
  rintro e w7 ⟨⟨v7, rfl, hv7⟩, hk7⟩
  have HVD := Lib.hid hv7
  have HVP := Lib.hid (HV5'.out.kept hk7)
  have HVQ := Lib.hid (HV6.out.kept hk7)
  have HR7 := Lib.hid (HR6.out.kept hk7)
  have HF7 := Lib.hid (HF6.out.kept hk7)
  have HK7 := Lib.hid (HK6.out.trans hk7)
  clear hv7 hk7
  go_wp2_with fail
  refine (HAD.out _ _ _ HVP.out HVQ.out).mono ?_
  rintro e w9 ⟨⟨v9, rfl, hv9⟩, hk9⟩
  have HVD8 := HVD
  have HR8 := HR7
  have HF8 := HF7
  have HK8 := HK7
  have HV9 := Lib.hid hv9
  have HVD9 := Lib.hid (HVD8.out.kept hk9)
  have HR9 := Lib.hid (HR8.out.kept hk9)
  have HF9 := Lib.hid (HF8.out.kept hk9)
  have HK9 := Lib.hid (HK8.out.trans hk9)
  clear hv9 hk9
  go_wp2_with fail
  refine (HFO.out _ _ _ HV9.out HVD9.out).mono ?_
  rintro e w10 ⟨⟨v10, rfl, hv10⟩, hk10⟩
  have hr10 := HR9.out.kept hk10
  have HF10 := Lib.hid (HF9.out.kept hk10)
  have HK10 := Lib.hid (HK9.out.trans hk10)
  obtain ⟨u7, u8, rfl, k7, k8⟩ := hv10
  obtain ⟨a7, c7, rfl⟩ := k7.shape
  obtain ⟨a8, c8, rfl⟩ := k8.shape
  obtain ⟨y0, y1, y2, hra⟩ := rat_stored hr10 HF10.out k7 k8
  have g0 := hr10.cell (i := 0) (by simp)
  have g1 := hr10.cell (i := 1) (by simp)
  have g2 := hr10.cell (i := 2) (by simp)
  have f0 := hr10.free 0
  have f1 := hr10.free 1
  have f2 := hr10.free 2
  have HRA := Lib.hid hra
  have Y0 := Lib.hid y0
  have Y1 := Lib.hid y1
  have Y2 := Lib.hid y2
  clear hra y0 y1 y2 k7 k8 hr10 hk10
  generalize R.num.length = n7 at *
  generalize R.den.length = n8 at *
  go_wp2
  refine bodyPost_ret (v := .agg #[.bool R.neg, .slice a7 n7 c7, .slice a8 n8 c8]) ?_ rfl ⟨⟨_, rfl, HRA.out⟩, ?_⟩
  · simp [results, Tryz.results27, go_sem, Y0.out, Y1.out, Y2.out]
  · exact ((HK10.out.store (by omega) _ _).store (by omega) _ _).store (by omega) _ _
set_option maxRecDepth 100000 in
set_option maxHeartbeats 4000000 in
theorem radd_ge (va vb : Value) (r s : Rw) (w : World) (ha : RatAt w va r) (hb : RatAt w vb s) (hr : r.Short 68719476736) (hs : s.Short 68719476736) (hss : (partsR r).1 ≠ (partsR s).1) (hle : nv (partsR s).2.1 * nv (partsR r).2.2 ≤ nv (partsR r).2.1 * nv (partsR s).2.2) : Calls Tryz.prog 27 #[va, vb] w fun e w' => (∃ v', e = .returned v' ∧ RatAt w' v' (canR (ratOf r + ratOf s))) ∧ Kept w w' := by
  have HP1 := Lib.hid (fun W (hk : Kept w W) => rparts_any va r W (ha.kept hk) ⟨Nat.le_trans hr.1 (by omega), Nat.le_trans hr.2 (by omega)⟩)
  have HP2 := Lib.hid (fun W (hk : Kept w W) => rparts_any vb s W (hb.kept hk) ⟨Nat.le_trans hs.1 (by omega), Nat.le_trans hs.2 (by omega)⟩)
  have hok1 := partsR_ok ha.ok
  have hok2 := partsR_ok hb.ok
  have hsh1 := parts_short hr (by omega)
  have hsh2 := parts_short hs (by omega)
  obtain ⟨R, hR⟩ : ∃ R, R = canR (ratOf r + ratOf s) := ⟨_, rfl⟩
  obtain ⟨p, hp⟩ : ∃ p, p = nv (partsR r).2.1 * nv (partsR s).2.2 := ⟨_, rfl⟩
  obtain ⟨q, hq⟩ : ∃ q, q = nv (partsR s).2.1 * nv (partsR r).2.2 := ⟨_, rfl⟩
  obtain ⟨d, hd⟩ : ∃ d, d = nv (partsR r).2.2 * nv (partsR s).2.2 := ⟨_, rfl⟩
  have hlp : (nw p).length ≤ 137438953472 := by rw [hp]; exact Nat.le_trans (nw_mul_len hok1.1 hok2.2.1) (by omega)
  have hlq : (nw q).length ≤ 137438953472 := by rw [hq]; exact Nat.le_trans (nw_mul_len hok2.1 hok1.2.1) (by omega)
  have hld : (nw d).length ≤ 137438953472 := by rw [hd]; exact Nat.le_trans (nw_mul_len hok1.2.1 hok2.2.1) (by omega)
  have hd0 : d ≠ 0 := by rw [hd]; exact Nat.mul_ne_zero hok1.2.2.1 hok2.2.2.1
  rw [← hp, ← hq] at hle
  have HCM : Hid (∀ W u1 u2, WdsAt W u1 (nw p) → WdsAt W u2 (nw q) → Calls Tryz.prog 75 #[u1, u2] W fun e w' => e = .returned (.int .i64 (cmpN p q)) ∧ Kept W w') := Lib.hid fun W u1 u2 k1 k2 => by
    have h := ncmp_any u1 u2 _ _ W k1 k2
    rw [nv_nw, nv_nw] at h
    exact h
  have HSU : Hid (∀ W u1 u2, WdsAt W u1 (nw p) → WdsAt W u2 (nw q) → Calls Tryz.prog 76 #[u1, u2] W fun e w' => (∃ v', e = .returned (.tuple #[v', .nilIface]) ∧ WdsAt w' v' (nw (p - q))) ∧ Kept W w') := Lib.hid fun W u1 u2 k1 k2 => by
    have h := nsub_any u1 u2 _ _ W k1 k2 (by rw [nv_nw, nv_nw]; exact hle)
    rw [nv_nw, nv_nw] at h
    exact h
  obtain ⟨cm, hcm⟩ : ∃ cm, cm = cmpN p q := ⟨_, rfl⟩
  rw [← hcm] at HCM
  have hcm0 : ¬ cm < 0 := by
    rw [hcm]
    rcases Nat.lt_or_ge q p with h | h
    · rw [cmpN_gt h]; omega
    · rw [cmpN_eq (by omega)]; omega
  have HFO : Hid (∀ W u1 u2, WdsAt W u1 (nw (p - q)) → WdsAt W u2 (nw d) → Calls Tryz.prog 69 #[.bool (partsR r).1, u1, u2] W fun e w' => (∃ v, e = .returned v ∧ RatAt w' v R) ∧ Kept W w') := Lib.hid fun W u1 u2 k1 k2 => by
    have h := rform_any (partsR r).1 u1 u2 _ _ W k1 k2 (Nat.le_trans (nw_mono_len (Nat.sub_le p q)) (by omega)) (Nat.le_trans hld (by omega)) (by rw [nv_nw]; exact hd0)
    rw [nv_nw, nv_nw, form_can _ _ _ hd0, hp, hq, hd, ratOf_sub ha.ok hb.ok hss (by rw [hp, hq] at hle; exact hle), ← hR] at h
    exact h
  have HM1 : Hid (∀ W u1 u2, WdsAt W u1 (partsR r).2.1 → WdsAt W u2 (partsR s).2.2 → Calls Tryz.prog 73 #[u1, u2] W fun e w' => (∃ v', e = .returned v' ∧ WdsAt w' v' (nw p)) ∧ Kept W w') := Lib.hid fun W u1 u2 k1 k2 => by rw [hp]; exact nmul_any u1 u2 _ _ W k1 k2 (by omega) (by omega)
  have HM2 : Hid (∀ W u1 u2, WdsAt W u1 (partsR s).2.1 → WdsAt W u2 (partsR r).2.2 → Calls Tryz.prog 73 #[u1, u2] W fun e w' => (∃ v', e = .returned v' ∧ WdsAt w' v' (nw q)) ∧ Kept W w') := Lib.hid fun W u1 u2 k1 k2 => by rw [hq]; exact nmul_any u1 u2 _ _ W k1 k2 (by omega) (by omega)
  have HM3 : Hid (∀ W u1 u2, WdsAt W u1 (partsR r).2.2 → WdsAt W u2 (partsR s).2.2 → Calls Tryz.prog 73 #[u1, u2] W fun e w' => (∃ v', e = .returned v' ∧ WdsAt w' v' (nw d)) ∧ Kept W w') := Lib.hid fun W u1 u2 k1 k2 => by rw [hd]; exact nmul_any u1 u2 _ _ W k1 k2 (by omega) (by omega)
  rw [← hR]
  obtain ⟨u1, u2, rfl, h1, h2⟩ := ha
  obtain ⟨u3, u4, rfl, h3, h4⟩ := hb
  obtain ⟨a1, c1, rfl⟩ := h1.shape
  obtain ⟨a2, c2, rfl⟩ := h2.shape
  obtain ⟨a3, c3, rfl⟩ := h3.shape
  obtain ⟨a4, c4, rfl⟩ := h4.shape
  obtain ⟨w2, hw2⟩ : ∃ w2, w2 = ((w.alloc (.cells #[.bool r.neg, .slice a1 r.num.length c1, .slice a2 r.den.length c2] 31)).alloc (.cells #[.bool s.neg, .slice a3 s.num.length c3, .slice a4 s.den.length c4] 31)).alloc (.cells #[.bool false, .slice none 0 0, .slice none 0 0] 31) := ⟨_, rfl⟩
  have HM := Lib.hid (res_made2 w (.cells #[.bool r.neg, .slice a1 r.num.length c1, .slice a2 r.den.length c2] 31) (.cells #[.bool s.neg, .slice a3 s.num.length c3, .slice a4 s.den.length c4] 31))
  rw [← hw2] at HM
  have hb2 := RowAt.made (w.alloc (.cells #[.bool r.neg, .slice a1 r.num.length c1, .slice a2 r.den.length c2] 31)) #[.bool s.neg, .slice a3 s.num.length c3, .slice a4 s.den.length c4] 31
  simp only [World.size_alloc] at hb2
  have HB2 : Hid (RowAt w2 (w.heap.size + 1) 31 [.bool s.neg, .slice a3 s.num.length c3, .slice a4 s.den.length c4]) := Lib.hid (by rw [hw2]; exact hb2.kept ((Kept.refl _).alloc _))
  have HW2 := Lib.hid hw2
  generalize nw d = DE at *
  generalize (partsR r).1 = s1 at *
  generalize (partsR s).1 = s2 at *
  generalize (partsR r).2.1 = N at *
  generalize (partsR r).2.2 = D at *
  generalize (partsR s).2.1 = M at *
  generalize (partsR s).2.2 = E at *
  generalize r.num.length = n1 at *
  generalize r.den.length = n2 at *
  generalize s.num.length = n3 at *
  generalize s.den.length = n4 at *
  generalize r.neg = neg1 at *
  generalize s.neg = neg2 at *
  clear hok1 hok2 hsh1 hsh2 hR h1 h2 h3 h4 hr hs hw2 hb2 hp hq hd hlp hlq hld hd0
  have hb : (s1 == s2) = false := by simpa using hss
  clear hss hcm hle
  go_enter Tryz.func27, Tryz.ntmps27
  go_wp2_with fail
  rw [← HW2.out]
  refine (HP1.out _ HM.out.2.2).mono ?_
  rintro e w3 ⟨⟨u3, u4, rfl, hu3, hu4⟩, hk3⟩
  have HN := Lib.hid hu3
  have HD := Lib.hid hu4
  have HR3 := Lib.hid (HM.out.1.kept hk3)
  have HF3 := Lib.hid (HM.out.2.1.kept hk3)
  have hb3 := HB2.out.kept hk3
  have g0 := hb3.cell (i := 0) (by simp)
  have g1 := hb3.cell (i := 1) (by simp)
  have g2 := hb3.cell (i := 2) (by simp)
  simp only [List.getElem_cons_succ, List.getElem_cons_zero] at g0 g1 g2
  have HK3 := Lib.hid (HM.out.2.2.trans hk3)
  clear hu3 hu4 hk3 hb3
  go_wp2_with fail
  refine (HP2.out _ HK3.out).mono ?_
  rintro e w4 ⟨⟨u5, u6, rfl, hu5, hu6⟩, hk4⟩
  have HN' := Lib.hid (HN.out.kept hk4)
  have HD' := Lib.hid (HD.out.kept hk4)
  have HMM := Lib.hid hu5
  have HEE := Lib.hid hu6
  have HR4 := Lib.hid (HR3.out.kept hk4)
  have HF4 := Lib.hid (HF3.out.kept hk4)
  have HK4 := Lib.hid (HK3.out.trans hk4)
  clear hu5 hu6 hk4 g0 g1 g2
  go_wp2_with fail
  refine (HM1.out _ _ _ HN'.out HEE.out).mono ?_
  rintro e w5 ⟨⟨v5, rfl, hv5⟩, hk5⟩
  have HV5 := Lib.hid hv5
  have HR5 := Lib.hid (HR4.out.kept hk5)
  have HF5 := Lib.hid (HF4.out.kept hk5)
  have HD5 := Lib.hid (HD'.out.kept hk5)
  have HE5 := Lib.hid (HEE.out.kept hk5)
  have HM5 := Lib.hid (HMM.out.kept hk5)
  have HK5 := Lib.hid (HK4.out.trans hk5)
  clear hv5 hk5
  go_wp2_with fail
  refine (HM2.out _ _ _ HM5.out HD5.out).mono ?_
  rintro e w6 ⟨⟨v6, rfl, hv6⟩, hk6⟩
  have HV6 := Lib.hid hv6
  have HV5' := Lib.hid (HV5.out.kept hk6)
  have HR6 := Lib.hid (HR5.out.kept hk6)
  have HF6 := Lib.hid (HF5.out.kept hk6)
  have HD6 := Lib.hid (HD5.out.kept hk6)
  have HE6 := Lib.hid (HE5.out.kept hk6)
  have HK6 := Lib.hid (HK5.out.trans hk6)
  clear hv6 hk6
  go_wp2_with fail
  refine (HM3.out _ _ _ HD6.out HE6.out).mono ?_
  rintro e w7 ⟨⟨v7, rfl, hv7⟩, hk7⟩
  have HVD := Lib.hid hv7
  have HVP := Lib.hid (HV5'.out.kept hk7)
  have HVQ := Lib.hid (HV6.out.kept hk7)
  have HR7 := Lib.hid (HR6.out.kept hk7)
  have HF7 := Lib.hid (HF6.out.kept hk7)
  have HK7 := Lib.hid (HK6.out.trans hk7)
  clear hv7 hk7
  go_wp2_with fail
  refine (HCM.out _ _ _ HVP.out HVQ.out).mono ?_
  rintro e w8 ⟨rfl, hk8⟩
  have HVD8 := Lib.hid (HVD.out.kept hk8)
  have HVP8 := Lib.hid (HVP.out.kept hk8)
  have HVQ8 := Lib.hid (HVQ.out.kept hk8)
  have HR8 := Lib.hid (HR7.out.kept hk8)
  have HF8 := Lib.hid (HF7.out.kept hk8)
  have HK8 := Lib.hid (HK7.out.trans hk8)
  clear hk8
  go_wp2_with fail
  refine (HSU.out _ _ _ HVP8.out HVQ8.out).mono ?_
  rintro e w9 ⟨⟨v9, rfl, hv9⟩, hk9⟩
  have HV9 := Lib.hid hv9
  have HVD9 := Lib.hid (HVD8.out.kept hk9)
  have HR9 := Lib.hid (HR8.out.kept hk9)
  have HF9 := Lib.hid (HF8.out.kept hk9)
  have HK9 := Lib.hid (HK8.out.trans hk9)
  clear hv9 hk9
  go_wp2_with fail
  refine (HFO.out _ _ _ HV9.out HVD9.out).mono ?_
  rintro e w10 ⟨⟨v10, rfl, hv10⟩, hk10⟩
  have hr10 := HR9.out.kept hk10
  have HF10 := Lib.hid (HF9.out.kept hk10)
  have HK10 := Lib.hid (HK9.out.trans hk10)
  obtain ⟨u7, u8, rfl, k7, k8⟩ := hv10
  obtain ⟨a7, c7, rfl⟩ := k7.shape
  obtain ⟨a8, c8, rfl⟩ := k8.shape
  obtain ⟨y0, y1, y2, hra⟩ := rat_stored hr10 HF10.out k7 k8
  have g0 := hr10.cell (i := 0) (by simp)
  have g1 := hr10.cell (i := 1) (by simp)
  have g2 := hr10.cell (i := 2) (by simp)
  have f0 := hr10.free 0
  have f1 := hr10.free 1
  have f2 := hr10.free 2
  have HRA := Lib.hid hra
  have Y0 := Lib.hid y0
  have Y1 := Lib.hid y1
  have Y2 := Lib.hid y2
  clear hra y0 y1 y2 k7 k8 hr10 hk10
  generalize R.num.length = n7 at *
  generalize R.den.length = n8 at *
  go_wp2
  refine bodyPost_ret (v := .agg #[.bool R.neg, .slice a7 n7 c7, .slice a8 n8 c8]) ?_ rfl ⟨⟨_, rfl, HRA.out⟩, ?_⟩
  · simp [results, Tryz.results27, go_sem, Y0.out, Y1.out, Y2.out]
  · exact ((HK10.out.store (by omega) _ _).store (by omega) _ _).store (by omega) _ _
set_option maxRecDepth 100000 in
set_option maxHeartbeats 4000000 in
theorem radd_lt (va vb : Value) (r s : Rw) (w : World) (ha : RatAt w va r) (hb : RatAt w vb s) (hr : r.Short 68719476736) (hs : s.Short 68719476736) (hss : (partsR r).1 ≠ (partsR s).1) (hle : nv (partsR r).2.1 * nv (partsR s).2.2 < nv (partsR s).2.1 * nv (partsR r).2.2) : Calls Tryz.prog 27 #[va, vb] w fun e w' => (∃ v', e = .returned v' ∧ RatAt w' v' (canR (ratOf r + ratOf s))) ∧ Kept w w' := by
  have HP1 := Lib.hid (fun W (hk : Kept w W) => rparts_any va r W (ha.kept hk) ⟨Nat.le_trans hr.1 (by omega), Nat.le_trans hr.2 (by omega)⟩)
  have HP2 := Lib.hid (fun W (hk : Kept w W) => rparts_any vb s W (hb.kept hk) ⟨Nat.le_trans hs.1 (by omega), Nat.le_trans hs.2 (by omega)⟩)
  have hok1 := partsR_ok ha.ok
  have hok2 := partsR_ok hb.ok
  have hsh1 := parts_short hr (by omega)
  have hsh2 := parts_short hs (by omega)
  obtain ⟨R, hR⟩ : ∃ R, R = canR (ratOf r + ratOf s) := ⟨_, rfl⟩
  obtain ⟨p, hp⟩ : ∃ p, p = nv (partsR r).2.1 * nv (partsR s).2.2 := ⟨_, rfl⟩
  obtain ⟨q, hq⟩ : ∃ q, q = nv (partsR s).2.1 * nv (partsR r).2.2 := ⟨_, rfl⟩
  obtain ⟨d, hd⟩ : ∃ d, d = nv (partsR r).2.2 * nv (partsR s).2.2 := ⟨_, rfl⟩
  have hlp : (nw p).length ≤ 137438953472 := by rw [hp]; exact Nat.le_trans (nw_mul_len hok1.1 hok2.2.1) (by omega)
  have hlq : (nw q).length ≤ 137438953472 := by rw [hq]; exact Nat.le_trans (nw_mul_len hok2.1 hok1.2.1) (by omega)
  have hld : (nw d).length ≤ 137438953472 := by rw [hd]; exact Nat.le_trans (nw_mul_len hok1.2.1 hok2.2.1) (by omega)
  have hd0 : d ≠ 0 := by rw [hd]; exact Nat.mul_ne_zero hok1.2.2.1 hok2.2.2.1
  rw [← hp, ← hq] at hle
  have HCM : Hid (∀ W u1 u2, WdsAt W u1 (nw p) → WdsAt W u2 (nw q) → Calls Tryz.prog 75 #[u1, u2] W fun e w' => e = .returned (.int .i64 (cmpN p q)) ∧ Kept W w') := Lib.hid fun W u1 u2 k1 k2 => by
    have h := ncmp_any u1 u2 _ _ W k1 k2
    rw [nv_nw, nv_nw] at h
    exact h
  have HSU : Hid (∀ W u1 u2, WdsAt W u1 (nw q) → WdsAt W u2 (nw p) → Calls Tryz.prog 76 #[u1, u2] W fun e w' => (∃ v', e = .returned (.tuple #[v', .nilIface]) ∧ WdsAt w' v' (nw (q - p))) ∧ Kept W w') := Lib.hid fun W u1 u2 k1 k2 => by
    have h := nsub_any u1 u2 _ _ W k1 k2 (by rw [nv_nw, nv_nw]; exact Nat.le_of_lt hle)
    rw [nv_nw, nv_nw] at h
    exact h
  obtain ⟨cm, hcm⟩ : ∃ cm, cm = cmpN p q := ⟨_, rfl⟩
  rw [← hcm] at HCM
  have hcm0 : cm < 0 := by
    rw [hcm]
    rw [cmpN_lt hle]; omega
  have HFO : Hid (∀ W u1 u2, WdsAt W u1 (nw (q - p)) → WdsAt W u2 (nw d) → Calls Tryz.prog 69 #[.bool (partsR s).1, u1, u2] W fun e w' => (∃ v, e = .returned v ∧ RatAt w' v R) ∧ Kept W w') := Lib.hid fun W u1 u2 k1 k2 => by
    have h := rform_any (partsR s).1 u1 u2 _ _ W k1 k2 (Nat.le_trans (nw_mono_len (Nat.sub_le q p)) (by omega)) (Nat.le_trans hld (by omega)) (by rw [nv_nw]; exact hd0)
    rw [nv_nw, nv_nw, form_can _ _ _ hd0, hp, hq, hd, ratOf_sub' ha.ok hb.ok hss (by rw [hp, hq] at hle; exact Nat.le_of_lt hle), ← hR] at h
    exact h
  have HM1 : Hid (∀ W u1 u2, WdsAt W u1 (partsR r).2.1 → WdsAt W u2 (partsR s).2.2 → Calls Tryz.prog 73 #[u1, u2] W fun e w' => (∃ v', e = .returned v' ∧ WdsAt w' v' (nw p)) ∧ Kept W w') := Lib.hid fun W u1 u2 k1 k2 => by rw [hp]; exact nmul_any u1 u2 _ _ W k1 k2 (by omega) (by omega)
  have HM2 : Hid (∀ W u1 u2, WdsAt W u1 (partsR s).2.1 → WdsAt W u2 (partsR r).2.2 → Calls Tryz.prog 73 #[u1, u2] W fun e w' => (∃ v', e = .returned v' ∧ WdsAt w' v' (nw q)) ∧ Kept W w') := Lib.hid fun W u1 u2 k1 k2 => by rw [hq]; exact nmul_any u1 u2 _ _ W k1 k2 (by omega) (by omega)
  have HM3 : Hid (∀ W u1 u2, WdsAt W u1 (partsR r).2.2 → WdsAt W u2 (partsR s).2.2 → Calls Tryz.prog 73 #[u1, u2] W fun e w' => (∃ v', e = .returned v' ∧ WdsAt w' v' (nw d)) ∧ Kept W w') := Lib.hid fun W u1 u2 k1 k2 => by rw [hd]; exact nmul_any u1 u2 _ _ W k1 k2 (by omega) (by omega)
  rw [← hR]
  obtain ⟨u1, u2, rfl, h1, h2⟩ := ha
  obtain ⟨u3, u4, rfl, h3, h4⟩ := hb
  obtain ⟨a1, c1, rfl⟩ := h1.shape
  obtain ⟨a2, c2, rfl⟩ := h2.shape
  obtain ⟨a3, c3, rfl⟩ := h3.shape
  obtain ⟨a4, c4, rfl⟩ := h4.shape
  obtain ⟨w2, hw2⟩ : ∃ w2, w2 = ((w.alloc (.cells #[.bool r.neg, .slice a1 r.num.length c1, .slice a2 r.den.length c2] 31)).alloc (.cells #[.bool s.neg, .slice a3 s.num.length c3, .slice a4 s.den.length c4] 31)).alloc (.cells #[.bool false, .slice none 0 0, .slice none 0 0] 31) := ⟨_, rfl⟩
  have HM := Lib.hid (res_made2 w (.cells #[.bool r.neg, .slice a1 r.num.length c1, .slice a2 r.den.length c2] 31) (.cells #[.bool s.neg, .slice a3 s.num.length c3, .slice a4 s.den.length c4] 31))
  rw [← hw2] at HM
  have hb2 := RowAt.made (w.alloc (.cells #[.bool r.neg, .slice a1 r.num.length c1, .slice a2 r.den.length c2] 31)) #[.bool s.neg, .slice a3 s.num.length c3, .slice a4 s.den.length c4] 31
  simp only [World.size_alloc] at hb2
  have HB2 : Hid (RowAt w2 (w.heap.size + 1) 31 [.bool s.neg, .slice a3 s.num.length c3, .slice a4 s.den.length c4]) := Lib.hid (by rw [hw2]; exact hb2.kept ((Kept.refl _).alloc _))
  have HW2 := Lib.hid hw2
  generalize nw d = DE at *
  generalize (partsR r).1 = s1 at *
  generalize (partsR s).1 = s2 at *
  generalize (partsR r).2.1 = N at *
  generalize (partsR r).2.2 = D at *
  generalize (partsR s).2.1 = M at *
  generalize (partsR s).2.2 = E at *
  generalize r.num.length = n1 at *
  generalize r.den.length = n2 at *
  generalize s.num.length = n3 at *
  generalize s.den.length = n4 at *
  generalize r.neg = neg1 at *
  generalize s.neg = neg2 at *
  clear hok1 hok2 hsh1 hsh2 hR h1 h2 h3 h4 hr hs hw2 hb2 hp hq hd hlp hlq hld hd0
  have hb : (s1 == s2) = false := by simpa using hss
  clear hss hcm hle
  go_enter Tryz.func27, Tryz.ntmps27
  go_wp2_with fail
  rw [← HW2.out]
  refine (HP1.out _ HM.out.2.2).mono ?_
  rintro e w3 ⟨⟨u3, u4, rfl, hu3, hu4⟩, hk3⟩
  have HN := Lib.hid hu3
  have HD := Lib.hid hu4
  have HR3 := Lib.hid (HM.out.1.kept hk3)
  have HF3 := Lib.hid (HM.out.2.1.kept hk3)
  have hb3 := HB2.out.kept hk3
  have g0 := hb3.cell (i := 0) (by simp)
  have g1 := hb3.cell (i := 1) (by simp)
  have g2 := hb3.cell (i := 2) (by simp)
  simp only [List.getElem_cons_succ, List.getElem_cons_zero] at g0 g1 g2
  have HK3 := Lib.hid (HM.out.2.2.trans hk3)
  clear hu3 hu4 hk3 hb3
  go_wp2_with fail
  refine (HP2.out _ HK3.out).mono ?_
  rintro e w4 ⟨⟨u5, u6, rfl, hu5, hu6⟩, hk4⟩
  have HN' := Lib.hid (HN.out.kept hk4)
  have HD' := Lib.hid (HD.out.kept hk4)
  have HMM := Lib.hid hu5
  have HEE := Lib.hid hu6
  have HR4 := Lib.hid (HR3.out.kept hk4)
  have HF4 := Lib.hid (HF3.out.kept hk4)
  have HK4 := Lib.hid (HK3.out.trans hk4)
  clear hu5 hu6 hk4 g0 g1 g2
  go_wp2_with fail
  refine (HM1.out _ _ _ HN'.out HEE.out).mono ?_
  rintro e w5 ⟨⟨v5, rfl, hv5⟩, hk5⟩
  have HV5 := Lib.hid hv5
  have HR5 := Lib.hid (HR4.out.kept hk5)
  have HF5 := Lib.hid (HF4.out.kept hk5)
  have HD5 := Lib.hid (HD'.out.kept hk5)
  have HE5 := Lib.hid (HEE.out.kept hk5)
  have HM5 := Lib.hid (HMM.out.kept hk5)
  have HK5 := Lib.hid (HK4.out.trans hk5)
  clear hv5 hk5
  go_wp2_with fail
  refine (HM2.out _ _ _ HM5.out HD5.out).mono ?_
  rintro e w6 ⟨⟨v6, rfl, hv6⟩, hk6⟩
  have HV6 := Lib.hid hv6
  have HV5' := Lib.hid (HV5.out.kept hk6)
  have HR6 := Lib.hid (HR5.out.kept hk6)
  have HF6 := Lib.hid (HF5.out.kept hk6)
  have HD6 := Lib.hid (HD5.out.kept hk6)
  have HE6 := Lib.hid (HE5.out.kept hk6)
  have HK6 := Lib.hid (HK5.out.trans hk6)
  clear hv6 hk6
  go_wp2_with fail
  refine (HM3.out _ _ _ HD6.out HE6.out).mono ?_
  rintro e w7 ⟨⟨v7, rfl, hv7⟩, hk7⟩
  have HVD := Lib.hid hv7
  have HVP := Lib.hid (HV5'.out.kept hk7)
  have HVQ := Lib.hid (HV6.out.kept hk7)
  have HR7 := Lib.hid (HR6.out.kept hk7)
  have HF7 := Lib.hid (HF6.out.kept hk7)
  have HK7 := Lib.hid (HK6.out.trans hk7)
  clear hv7 hk7
  go_wp2_with fail
  refine (HCM.out _ _ _ HVP.out HVQ.out).mono ?_
  rintro e w8 ⟨rfl, hk8⟩
  have HVD8 := Lib.hid (HVD.out.kept hk8)
  have HVP8 := Lib.hid (HVP.out.kept hk8)
  have HVQ8 := Lib.hid (HVQ.out.kept hk8)
  have HR8 := Lib.hid (HR7.out.kept hk8)
  have HF8 := Lib.hid (HF7.out.kept hk8)
  have HK8 := Lib.hid (HK7.out.trans hk8)
  clear hk8
  go_wp2_with fail
  refine (HSU.out _ _ _ HVQ8.out HVP8.out).mono ?_
  rintro e w9 ⟨⟨v9, rfl, hv9⟩, hk9⟩
  have HV9 := Lib.hid hv9
  have HVD9 := Lib.hid (HVD8.out.kept hk9)
  have HR9 := Lib.hid (HR8.out.kept hk9)
  have HF9 := Lib.hid (HF8.out.kept hk9)
  have HK9 := Lib.hid (HK8.out.trans hk9)
  clear hv9 hk9
  go_wp2_with fail
  refine (HFO.out _ _ _ HV9.out HVD9.out).mono ?_
  rintro e w10 ⟨⟨v10, rfl, hv10⟩, hk10⟩
  have hr10 := HR9.out.kept hk10
  have HF10 := Lib.hid (HF9.out.kept hk10)
  have HK10 := Lib.hid (HK9.out.trans hk10)
  obtain ⟨u7, u8, rfl, k7, k8⟩ := hv10
  obtain ⟨a7, c7, rfl⟩ := k7.shape
  obtain ⟨a8, c8, rfl⟩ := k8.shape
  obtain ⟨y0, y1, y2, hra⟩ := rat_stored hr10 HF10.out k7 k8
  have g0 := hr10.cell (i := 0) (by simp)
  have g1 := hr10.cell (i := 1) (by simp)
  have g2 := hr10.cell (i := 2) (by simp)
  have f0 := hr10.free 0
  have f1 := hr10.free 1
  have f2 := hr10.free 2
  have HRA := Lib.hid hra
  have Y0 := Lib.hid y0
  have Y1 := Lib.hid y1
  have Y2 := Lib.hid y2
  clear hra y0 y1 y2 k7 k8 hr10 hk10
  generalize R.num.length = n7 at *
  generalize R.den.length = n8 at *
  go_wp2
  refine bodyPost_ret (v := .agg #[.bool R.neg, .slice a7 n7 c7, .slice a8 n8 c8]) ?_ rfl ⟨⟨_, rfl, HRA.out⟩, ?_⟩
  · simp [results, Tryz.results27, go_sem, Y0.out, Y1.out, Y2.out]
  · exact ((HK10.out.store (by omega) _ _).store (by omega) _ _).store (by omega) _ _
theorem radd_any (va vb : Value) (r s : Rw) (w : World) (ha : RatAt w va r) (hb : RatAt w vb s) (hr : r.Short 68719476736) (hs : s.Short 68719476736) : Calls Tryz.prog 27 #[va, vb] w fun e w' => (∃ v', e = .returned v' ∧ RatAt w' v' (canR (ratOf r + ratOf s))) ∧ Kept w w' := by
  by_cases h : (partsR r).1 = (partsR s).1
  · exact radd_same va vb r s w ha hb hr hs h
  · rcases Nat.lt_or_ge (nv (partsR r).2.1 * nv (partsR s).2.2) (nv (partsR s).2.1 * nv (partsR r).2.2) with h2 | h2
    · exact radd_lt va vb r s w ha hb hr hs h h2
    · exact radd_ge va vb r s w ha hb hr hs h h2
end Go.Proofs.YthiemjodcklejaaGreatDoor

/-
  Walks: rational.Sub, Cmp, Prob; how long fractions become.
-/
namespace Go.Proofs.YthiemjodcklejaaGreatDoor
open Go.RowKit

theorem canR_short (neg : Bool) {n d k l : Nat} (hd : d ≠ 0) (hn : (nw n).length ≤ k) (hdk : (nw d).length ≤ l) : (canR (mkRat (sg neg n) d)).num.length ≤ k ∧ (canR (mkRat (sg neg n) d)).den.length ≤ l := by
  rw [← form_can _ _ _ hd]
  unfold formR
  split
  · exact ⟨Nat.zero_le _, Nat.zero_le _⟩
  · exact ⟨Nat.le_trans (nw_mono_len (Nat.div_le_self _ _)) hn, Nat.le_trans (nw_mono_len (Nat.div_le_self _ _)) hdk⟩
theorem len_nv {xs : List Nat} (h : Wd xs) {k : Nat} (hk : xs.length ≤ k) : (nw (nv xs)).length ≤ k := Nat.le_trans (nw_length_le h) hk
theorem short_neg {r : Rw} (h : r.Ok) {k : Nat} (hs : r.Short k) (hk : 1 ≤ k) : (canR (- ratOf r)).Short k := by
  have hok := partsR_ok h
  have hsh := parts_short hs hk
  rw [← ratOf_neg]
  exact canR_short _ hok.2.2.1 (len_nv hok.1 hsh.1) (len_nv hok.2.1 hsh.2)
theorem short_mul {r s : Rw} (hr : r.Ok) (hs : s.Ok) {k l : Nat} (h1 : r.Short k) (h2 : s.Short l) (hk : 1 ≤ k) (hl : 1 ≤ l) : (canR (ratOf r * ratOf s)).Short (k + l) := by
  have ok1 := partsR_ok hr
  have ok2 := partsR_ok hs
  have s1 := parts_short h1 hk
  have s2 := parts_short h2 hl
  rw [← ratOf_mul]
  exact canR_short _ (Nat.mul_ne_zero ok1.2.2.1 ok2.2.2.1) (Nat.le_trans (nw_mul_len ok1.1 ok2.1) (by omega)) (Nat.le_trans (nw_mul_len ok1.2.1 ok2.2.1) (by omega))
theorem short_add {r s : Rw} (hr : r.Ok) (hs : s.Ok) {k l : Nat} (h1 : r.Short k) (h2 : s.Short l) (hk : 1 ≤ k) (hl : 1 ≤ l) : (canR (ratOf r + ratOf s)).Short (k + l + 1) := by
  have ok1 := partsR_ok hr
  have ok2 := partsR_ok hs
  have s1 := parts_short h1 hk
  have s2 := parts_short h2 hl
  have hd := Nat.mul_ne_zero ok1.2.2.1 ok2.2.2.1
  have lp : (nw (nv (partsR r).2.1 * nv (partsR s).2.2)).length ≤ k + l := Nat.le_trans (nw_mul_len ok1.1 ok2.2.1) (by omega)
  have lq : (nw (nv (partsR s).2.1 * nv (partsR r).2.2)).length ≤ k + l := Nat.le_trans (nw_mul_len ok2.1 ok1.2.1) (by omega)
  have ld : (nw (nv (partsR r).2.2 * nv (partsR s).2.2)).length ≤ k + l + 1 := Nat.le_trans (nw_mul_len ok1.2.1 ok2.2.1) (by omega)
  by_cases h : (partsR r).1 = (partsR s).1
  · rw [← ratOf_add hr hs h]
    exact canR_short _ hd (nw_add_len lp lq) ld
  · rcases Nat.lt_or_ge (nv (partsR r).2.1 * nv (partsR s).2.2) (nv (partsR s).2.1 * nv (partsR r).2.2) with h2 | h2
    · rw [← ratOf_sub' hr hs h (Nat.le_of_lt h2)]
      exact canR_short _ hd (Nat.le_trans (nw_mono_len (Nat.sub_le _ _)) (Nat.le_succ_of_le lq)) ld
    · rw [← ratOf_sub hr hs h h2]
      exact canR_short _ hd (Nat.le_trans (nw_mono_len (Nat.sub_le _ _)) (Nat.le_succ_of_le lp)) ld
set_option maxRecDepth 100000 in
set_option maxHeartbeats 4000000 in
theorem rsub_any (va vb : Value) (r s : Rw) (w : World) (ha : RatAt w va r) (hb : RatAt w vb s) (hr : r.Short 68719476736) (hs : s.Short 68719476736) : Calls Tryz.prog 25 #[va, vb] w fun e w' => (∃ v', e = .returned v' ∧ RatAt w' v' (canR (ratOf r - ratOf s))) ∧ Kept w w' := by
  have HNE := Lib.hid (fun W (hk : Kept w W) => rneg_any vb s W (hb.kept hk) ⟨Nat.le_trans hs.1 (by omega), Nat.le_trans hs.2 (by omega)⟩)
  obtain ⟨R, hR⟩ : ∃ R, R = canR (ratOf r - ratOf s) := ⟨_, rfl⟩
  have HAD : Hid (∀ W v, Kept w W → RatAt W v (canR (- ratOf s)) → Calls Tryz.prog 27 #[va, v] W fun e w' => (∃ v', e = .returned v' ∧ RatAt w' v' R) ∧ Kept W w') := Lib.hid fun W v hk hv => by
    have h := radd_any va v r _ W (ha.kept hk) hv hr (short_neg hb.ok hs (by omega))
    rw [ratOf_can, ← Rat.sub_eq_add_neg, ← hR] at h
    exact h
  rw [← hR]
  obtain ⟨u1, u2, rfl, h1, h2⟩ := ha
  obtain ⟨u3, u4, rfl, h3, h4⟩ := hb
  obtain ⟨a1, c1, rfl⟩ := h1.shape
  obtain ⟨a2, c2, rfl⟩ := h2.shape
  obtain ⟨a3, c3, rfl⟩ := h3.shape
  obtain ⟨a4, c4, rfl⟩ := h4.shape
  generalize r.num.length = n1 at *
  generalize r.den.length = n2 at *
  generalize s.num.length = n3 at *
  generalize s.den.length = n4 at *
  generalize r.neg = neg1 at *
  generalize s.neg = neg2 at *
  obtain ⟨w2, hw2⟩ : ∃ w2, w2 = ((w.alloc (.cells #[.bool neg1, .slice a1 n1 c1, .slice a2 n2 c2] 31)).alloc (.cells #[.bool neg2, .slice a3 n3 c3, .slice a4 n4 c4] 31)).alloc (.cells #[.bool false, .slice none 0 0, .slice none 0 0] 31) := ⟨_, rfl⟩
  have HM := Lib.hid (res_made2 w (.cells #[.bool neg1, .slice a1 n1 c1, .slice a2 n2 c2] 31) (.cells #[.bool neg2, .slice a3 n3 c3, .slice a4 n4 c4] 31))
  rw [← hw2] at HM
  have ha2 := RowAt.made w #[.bool neg1, .slice a1 n1 c1, .slice a2 n2 c2] 31
  have HA2 : Hid (RowAt w2 w.heap.size 31 [.bool neg1, .slice a1 n1 c1, .slice a2 n2 c2]) := Lib.hid (by rw [hw2]; exact ha2.kept (((Kept.refl _).alloc _).alloc _))
  have hb2 := RowAt.made (w.alloc (.cells #[.bool neg1, .slice a1 n1 c1, .slice a2 n2 c2] 31)) #[.bool neg2, .slice a3 n3 c3, .slice a4 n4 c4] 31
  simp only [World.size_alloc] at hb2
  have HB2 : Hid (RowAt w2 (w.heap.size + 1) 31 [.bool neg2, .slice a3 n3 c3, .slice a4 n4 c4]) := Lib.hid (by rw [hw2]; exact hb2.kept ((Kept.refl _).alloc _))
  have HW2 := Lib.hid hw2
  clear hR h1 h2 h3 h4 hr hs hw2 ha2 hb2
  have p0 := HA2.out.cell (i := 0) (by simp)
  have p1 := HA2.out.cell (i := 1) (by simp)
  have p2 := HA2.out.cell (i := 2) (by simp)
  have g0 := HB2.out.cell (i := 0) (by simp)
  have g1 := HB2.out.cell (i := 1) (by simp)
  have g2 := HB2.out.cell (i := 2) (by simp)
  simp only [List.getElem_cons_succ, List.getElem_cons_zero] at p0 p1 p2 g0 g1 g2
  go_enter Tryz.func25, Tryz.ntmps25
  go_wp2_with fail
  rw [← HW2.out]
  go_region_with (first
    | (go_at_call 72; (with_reducible refine (HNE.out _ HM.out.2.2.drew).mono ?_); rintro e w3 ⟨⟨v3, rfl, hv3⟩, hk3⟩; have hkd := (Kept.refl w2).drew.trans hk3; have x0 := hkd.cell p0; have x1 := hkd.cell p1; have x2 := hkd.cell p2; have HV3 := Lib.hid hv3; have HKD := Lib.hid hkd; have HR3 := Lib.hid (HM.out.1.kept hkd); have HF3 := Lib.hid (HM.out.2.1.kept hkd); clear hv3 hk3 hkd)
    | (go_at_call 27; (with_reducible refine (HAD.out _ _ (HM.out.2.2.trans HKD.out) HV3.out).mono ?_); rintro e w4 ⟨⟨v4, rfl, hv4⟩, hk4⟩; have hr4 := HR3.out.kept hk4; have HR4 := Lib.hid hr4; have HF4 := Lib.hid (HF3.out.kept hk4); have HK4 := Lib.hid ((HM.out.2.2.trans HKD.out).trans hk4); obtain ⟨u5, u6, rfl, k5, k6⟩ := hv4; obtain ⟨a5, c5, rfl⟩ := k5.shape; obtain ⟨a6, c6, rfl⟩ := k6.shape; have K5 := Lib.hid k5; have K6 := Lib.hid k6; have z0 := hr4.cell (i := 0) (by simp); have z1 := hr4.cell (i := 1) (by simp); have z2 := hr4.cell (i := 2) (by simp); have f0 := hr4.free 0; have f1 := hr4.free 1; have f2 := hr4.free 2; clear k5 k6 hr4 hk4))
  all_goals
    obtain ⟨y0, y1, y2, hra⟩ := rat_stored HR4.out HF4.out K5.out K6.out
    generalize R.num.length = n7 at *
    generalize R.den.length = n8 at *
    go_wp2
    refine bodyPost_ret (v := .agg #[.bool R.neg, .slice a5 n7 c5, .slice a6 n8 c6]) ?_ rfl ⟨⟨_, rfl, hra⟩, ?_⟩
    · simp [results, Tryz.results25, go_sem, y0, y1, y2]
    · exact ((HK4.out.store (by omega) _ _).store (by omega) _ _).store (by omega) _ _
set_option maxRecDepth 100000 in
set_option maxHeartbeats 4000000 in
theorem rcmp_any (va vb : Value) (r s : Rw) (w : World) (ha : RatAt w va r) (hb : RatAt w vb s) (hr : r.Short 68719476736) (hs : s.Short 68719476736) : Calls Tryz.prog 28 #[va, vb] w fun e w' => e = .returned (.int .i64 (sgnR (ratOf r - ratOf s))) ∧ Kept w w' := by
  have HSU := Lib.hid (fun W (hk : Kept w W) => rsub_any va vb r s W (ha.kept hk) (hb.kept hk) hr hs)
  have hsh : (canR (ratOf r - ratOf s)).Short 274877906944 := by
    have h := short_add ha.ok (canR_ok _) hr (short_neg hb.ok hs (by omega)) (by omega) (by omega)
    rw [ratOf_can, ← Rat.sub_eq_add_neg] at h
    exact ⟨Nat.le_trans h.1 (by omega), Nat.le_trans h.2 (by omega)⟩
  have HSG : Hid (∀ W v, RatAt W v (canR (ratOf r - ratOf s)) → Calls Tryz.prog 17 #[v] W fun e w' => e = .returned (.int .i64 (sgnR (ratOf r - ratOf s))) ∧ Kept W w') := Lib.hid fun W v hv => by
    have h := rsign_any v _ W hv hsh
    rw [ratOf_can] at h
    exact h
  obtain ⟨u1, u2, rfl, h1, h2⟩ := ha
  obtain ⟨u3, u4, rfl, h3, h4⟩ := hb
  obtain ⟨a1, c1, rfl⟩ := h1.shape
  obtain ⟨a2, c2, rfl⟩ := h2.shape
  obtain ⟨a3, c3, rfl⟩ := h3.shape
  obtain ⟨a4, c4, rfl⟩ := h4.shape
  generalize canR (ratOf r - ratOf s) = R at *
  generalize sgnR (ratOf r - ratOf s) = S at *
  generalize r.num.length = n1 at *
  generalize r.den.length = n2 at *
  generalize s.num.length = n3 at *
  generalize s.den.length = n4 at *
  generalize r.neg = neg1 at *
  generalize s.neg = neg2 at *
  have HK0 : Hid (Kept w ((w.alloc (.cells #[.bool neg1, .slice a1 n1 c1, .slice a2 n2 c2] 31)).alloc (.cells #[.bool neg2, .slice a3 n3 c3, .slice a4 n4 c4] 31))) := Lib.hid (((Kept.refl w).alloc _).alloc _)
  clear h1 h2 h3 h4 hr hs hsh
  go_enter Tryz.func28, Tryz.ntmps28
  go_wp2_with fail
  refine (HSU.out _ HK0.out).mono ?_
  rintro e w3 ⟨⟨v3, rfl, hv3⟩, hk3⟩
  have HV3 := Lib.hid hv3
  have HK3 := Lib.hid (HK0.out.trans hk3)
  clear hv3 hk3
  go_wp2_with fail
  refine (HSG.out _ _ HV3.out).mono ?_
  rintro e w4 ⟨rfl, hk4⟩
  have HK4 := Lib.hid (HK3.out.trans hk4)
  clear hk4
  go_wp2
  go_ret
  exact ⟨rfl, HK4.out⟩
/-- What Prob says. -/
def probR (r : Rw) : Bool := validR r && !r.neg && decide (nv r.num ≤ nv r.den)
theorem cmp_le (a b : Nat) : cmpN a b ≤ 0 ↔ a ≤ b := by
  rcases Nat.lt_trichotomy a b with h | h | h
  · rw [cmpN_lt h]; omega
  · rw [cmpN_eq h]; omega
  · rw [cmpN_gt h]; omega
set_option maxRecDepth 100000 in
set_option maxHeartbeats 4000000 in
theorem rprob_any (v : Value) (r : Rw) (w : World) (hv : RatAt w v r) (hs : r.Short 274877906944) : Calls Tryz.prog 29 #[v] w fun e w' => e = .returned (.bool (probR r)) ∧ Kept w w' := by
  have HVA := Lib.hid (fun W (hk : Kept w W) => ratvalid_any v r W (hv.kept hk) hs)
  obtain ⟨neg, num, den⟩ := r
  obtain ⟨u1, u2, rfl, h1, h2⟩ := hv
  simp only at h1 h2
  obtain ⟨a1, c1, rfl⟩ := h1.shape
  obtain ⟨a2, c2, rfl⟩ := h2.shape
  have hP : probR ⟨neg, num, den⟩ = (validR ⟨neg, num, den⟩ && !neg && decide (cmpN (nv num) (nv den) ≤ 0)) := by
    unfold probR
    congr 1
    exact decide_eq_decide.2 (cmp_le _ _).symm
  rw [hP]
  have HCM := Lib.hid (fun W (hk : Kept w W) => ncmp_any _ _ num den W (h1.kept hk) (h2.kept hk))
  have HR := Lib.hid (RowAt.made w #[.bool neg, .slice a1 num.length c1, .slice a2 den.length c2] 31)
  have HK0 : Hid (Kept w (w.alloc (.cells #[.bool neg, .slice a1 num.length c1, .slice a2 den.length c2] 31))) := Lib.hid ((Kept.refl w).alloc _)
  generalize cmpN (nv num) (nv den) = cm at *
  generalize validR ⟨neg, num, den⟩ = vb at *
  generalize num.length = n1 at *
  generalize den.length = n2 at *
  obtain ⟨w1, hw1⟩ : ∃ w1, w1 = w.alloc (.cells #[.bool neg, .slice a1 n1 c1, .slice a2 n2 c2] 31) := ⟨_, rfl⟩
  rw [← hw1] at HR HK0
  have HW1 := Lib.hid hw1
  have q0 := HR.out.cell (i := 0) (by simp)
  have q1 := HR.out.cell (i := 1) (by simp)
  have q2 := HR.out.cell (i := 2) (by simp)
  simp only [List.getElem_cons_succ, List.getElem_cons_zero] at q0 q1 q2
  clear h1 h2 hP hs hw1
  cases vb with
  | false =>
    go_enter Tryz.func29, Tryz.ntmps29
    go_wp2_with fail
    rw [← HW1.out]
    refine (HVA.out _ HK0.out).mono ?_
    rintro e w2 ⟨rfl, hk2⟩
    have HK2 := Lib.hid (HK0.out.trans hk2)
    clear hk2
    go_wp2
    go_ret
    exact ⟨by simp, HK2.out⟩
  | true =>
    cases neg with
    | true =>
      go_enter Tryz.func29, Tryz.ntmps29
      go_wp2_with fail
      rw [← HW1.out]
      refine (HVA.out _ HK0.out).mono ?_
      rintro e w2 ⟨rfl, hk2⟩
      have y0 := hk2.cell q0
      have HK2 := Lib.hid (HK0.out.trans hk2)
      clear hk2
      go_wp2
      go_ret
      exact ⟨by simp, HK2.out⟩
    | false =>
      go_enter Tryz.func29, Tryz.ntmps29
      go_wp2_with fail
      rw [← HW1.out]
      refine (HVA.out _ HK0.out).mono ?_
      rintro e w2 ⟨rfl, hk2⟩
      have y0 := hk2.cell q0
      have y1 := hk2.cell q1
      have y2 := hk2.cell q2
      have HK2 := Lib.hid (HK0.out.trans hk2)
      clear hk2
      go_wp2_with fail
      refine (HCM.out _ HK2.out).mono ?_
      rintro e w3 ⟨rfl, hk3⟩
      have HK3 := Lib.hid (HK2.out.trans hk3)
      clear hk3
      go_wp2
      go_ret
      exact ⟨by simp, HK3.out⟩
end Go.Proofs.YthiemjodcklejaaGreatDoor

/-
  Walks: rational.size, Of.
-/
namespace Go.Proofs.YthiemjodcklejaaGreatDoor
open Go.RowKit

set_option maxRecDepth 100000 in
set_option maxHeartbeats 2000000 in
theorem rsz_any (n : Int) (w : World) (h1 : -9223372036854775808 < n) (h2 : n < 9223372036854775808) : Calls Tryz.prog 70 #[.int .i64 n] w fun e w' => (∃ v', e = .returned v' ∧ WdsAt w' v' (nw n.natAbs)) ∧ Kept w w' := by
  obtain ⟨m, hm⟩ : ∃ m, m = n.natAbs := ⟨_, rfl⟩
  have hm9 : m < 9223372036854775808 := by omega
  have HOF := Lib.hid (fun W => nof_any m W hm9)
  have hne : (n == -9223372036854775808) = false := by simp; omega
  have hmx : max n (-n) = (m : Int) := by omega
  rw [← hm]
  clear hm
  go_enter Tryz.func70, Tryz.ntmps70
  go_wp2_with fail
  refine (HOF.out _).mono ?_
  rintro e w2 ⟨⟨v2, rfl, hv2⟩, hk2⟩
  have HV2 := Lib.hid hv2
  have HK2 := Lib.hid hk2
  clear hv2 hk2
  go_wp2
  go_ret
  exact ⟨⟨_, rfl, HV2.out⟩, HK2.out⟩
theorem of_num (n : Int) : mkRat (sg (decide (n < 0)) n.natAbs) 1 = (n : Rat) := by
  have e : sg (decide (n < 0)) n.natAbs = n := by
    unfold sg
    by_cases h : n < 0
    · simp [h]; omega
    · simp [h]; omega
  rw [e, Rat.mkRat_one]
set_option maxRecDepth 100000 in
set_option maxHeartbeats 2000000 in
theorem rof_any (n : Int) (w : World) (h1 : -9223372036854775808 < n) (h2 : n < 9223372036854775808) : Calls Tryz.prog 24 #[.int .i64 n] w fun e w' => (∃ v', e = .returned v' ∧ RatAt w' v' (canR (n : Rat))) ∧ Kept w w' := by
  have HSZ := Lib.hid (fun W => rsz_any n W h1 h2)
  obtain ⟨R, hR⟩ : ∃ R, R = canR (n : Rat) := ⟨_, rfl⟩
  obtain ⟨b, hb⟩ : ∃ b, decide (n < 0) = b := ⟨_, rfl⟩
  have HFO : Hid (∀ W u1 u2, WdsAt W u1 (nw n.natAbs) → WdsAt W u2 [1] → Calls Tryz.prog 69 #[.bool b, u1, u2] W fun e w' => (∃ v, e = .returned v ∧ RatAt w' v R) ∧ Kept W w') := Lib.hid fun W u1 u2 k1 k2 => by
    have hl : (nw n.natAbs).length ≤ 2 := nw_len_lt.2 (by rw [show (4294967296 : Nat) ^ 2 = 18446744073709551616 by rfl]; omega)
    have h := rform_any b u1 u2 _ _ W k1 k2 (by omega) (by simp) (by simp [nv])
    rw [nv_nw, show nv [1] = 1 by rfl, form_can _ _ _ (by omega), ← hb, of_num, ← hR] at h
    rw [← hb]
    exact h
  rw [← hR]
  generalize nw n.natAbs = X at *
  obtain ⟨w2, hw2⟩ : ∃ w2, w2 = w.alloc (.cells #[.bool false, .slice none 0 0, .slice none 0 0] 31) := ⟨_, rfl⟩
  have HR : Hid (RowAt w2 w.heap.size 31 [.bool false, .slice none 0 0, .slice none 0 0]) := Lib.hid (by rw [hw2]; exact RowAt.made w #[.bool false, .slice none 0 0, .slice none 0 0] 31)
  have HFX : Hid (FixAt w2 w.heap.size [.bool false, .slice none 0 0, .slice none 0 0]) := Lib.hid (by rw [hw2]; exact FixAt.made w #[.bool false, .slice none 0 0, .slice none 0 0] 31)
  have HK0 : Hid (Kept w w2) := Lib.hid (by rw [hw2]; exact (Kept.refl w).alloc _)
  have HW2 := Lib.hid hw2
  have HB := Lib.hid hb
  clear hw2 hR hb h1 h2
  go_enter Tryz.func24, Tryz.ntmps24
  go_wp2_with fail
  rw [← HW2.out]
  refine (HSZ.out _).mono ?_
  rintro e w3 ⟨⟨v3, rfl, hv3⟩, hk3⟩
  have HV3 := Lib.hid hv3
  have HR3 := Lib.hid (HR.out.kept hk3)
  have HF3 := Lib.hid (HFX.out.kept hk3)
  have HK3 := Lib.hid (HK0.out.trans hk3)
  clear hv3 hk3
  go_wp2_with fail
  refine (rone_any _).mono ?_
  rintro e w4 ⟨⟨v4, rfl, hv4⟩, hk4⟩
  have HV4 := Lib.hid hv4
  have HV3' := Lib.hid (HV3.out.kept hk4)
  have HR4 := Lib.hid (HR3.out.kept hk4)
  have HF4 := Lib.hid (HF3.out.kept hk4)
  have HK4 := Lib.hid (HK3.out.trans hk4)
  clear hv4 hk4
  go_wp2_with fail
  rw [HB.out]
  refine (HFO.out _ _ _ HV3'.out HV4.out).mono ?_
  rintro e w10 ⟨⟨v10, rfl, hv10⟩, hk10⟩
  have hr10 := HR4.out.kept hk10
  have HF10 := Lib.hid (HF4.out.kept hk10)
  have HK10 := Lib.hid (HK4.out.trans hk10)
  obtain ⟨u7, u8, rfl, k7, k8⟩ := hv10
  obtain ⟨a7, c7, rfl⟩ := k7.shape
  obtain ⟨a8, c8, rfl⟩ := k8.shape
  obtain ⟨y0, y1, y2, hra⟩ := rat_stored hr10 HF10.out k7 k8
  have g0 := hr10.cell (i := 0) (by simp)
  have g1 := hr10.cell (i := 1) (by simp)
  have g2 := hr10.cell (i := 2) (by simp)
  have f0 := hr10.free 0
  have f1 := hr10.free 1
  have f2 := hr10.free 2
  have HRA := Lib.hid hra
  have Y0 := Lib.hid y0
  have Y1 := Lib.hid y1
  have Y2 := Lib.hid y2
  clear hra y0 y1 y2 k7 k8 hr10 hk10
  generalize R.num.length = n7 at *
  generalize R.den.length = n8 at *
  go_wp2
  refine bodyPost_ret (v := .agg #[.bool R.neg, .slice a7 n7 c7, .slice a8 n8 c8]) ?_ rfl ⟨⟨_, rfl, HRA.out⟩, ?_⟩
  · simp [results, Tryz.results24, go_sem, Y0.out, Y1.out, Y2.out]
  · exact ((HK10.out.store (by omega) _ _).store (by omega) _ _).store (by omega) _ _
end Go.Proofs.YthiemjodcklejaaGreatDoor

/-
  Walks: faultlineref01.Cmp, Add, Sub.
-/
namespace Go.Proofs.YthiemjodcklejaaGreatDoor
open Go.RowKit

theorem nv_lt_words {a b : List Nat} (ha : Wd a) {k : Nat} (hd : ∀ i, k < i → a.getD i 0 = b.getD i 0) (hlt : a.getD k 0 < b.getD k 0) : nv a < nv b := by
  have key : ∀ j, nv (a.take (k + 1 + j)) < nv (b.take (k + 1 + j)) := by
    intro j
    induction j with
    | zero =>
      rw [Nat.add_zero, nv_take_succ, nv_take_succ]
      have h1 : nv (a.take k) < 4294967296 ^ k := Nat.lt_of_lt_of_le (nv_lt (ha.take k)) (Nat.pow_le_pow_right (by omega) (by rw [List.length_take]; omega))
      have h2 : (a.getD k 0 + 1) * 4294967296 ^ k ≤ b.getD k 0 * 4294967296 ^ k := Nat.mul_le_mul_right _ hlt
      rw [Nat.add_mul, Nat.one_mul] at h2
      omega
    | succ j ih =>
      rw [← Nat.add_assoc, nv_take_succ, nv_take_succ, hd (k + 1 + j) (by omega)]
      omega
  have := key (a.length + b.length)
  rwa [nv_take_all a _ (by omega), nv_take_all b _ (by omega)] at this
theorem nv_eq_words {a b : List Nat} (hd : ∀ i, a.getD i 0 = b.getD i 0) : nv a = nv b := by
  have key : ∀ j, nv (a.take j) = nv (b.take j) := by
    intro j
    induction j with
    | zero => simp
    | succ j ih => rw [nv_take_succ, nv_take_succ, ih, hd]
  have := key (a.length + b.length)
  rwa [nv_take_all a _ (by omega), nv_take_all b _ (by omega)] at this
set_option maxRecDepth 100000 in
set_option maxHeartbeats 2000000 in
theorem refcmp_any (va vb : Value) (xs ys : List Nat) (w : World) (ha : WdsAt w va xs) (hb : WdsAt w vb ys) : Calls Tryz.prog 185 #[va, vb] w fun e w' => e = .returned (.int .i64 (cmpN (nv xs) (nv ys))) ∧ w' = w := by
  have HA := Lib.hid (fun (i : Nat) => rword_any va xs i w ha)
  have HB := Lib.hid (fun (i : Nat) => rword_any vb ys i w hb)
  have HWA := Lib.hid ha.wd
  have HWB := Lib.hid hb.wd
  have hl0 := ha.len
  have hl1 := hb.len
  obtain ⟨a0, c0, rfl⟩ := ha.shape
  obtain ⟨a1, c1, rfl⟩ := hb.shape
  obtain ⟨l0, h0⟩ : ∃ l0, l0 = xs.length := ⟨_, rfl⟩
  obtain ⟨l1, h1⟩ : ∃ l1, l1 = ys.length := ⟨_, rfl⟩
  rw [← h0] at HA hl0 ⊢
  rw [← h1] at HB hl1 ⊢
  have H0 := Lib.hid h0
  have H1 := Lib.hid h1
  obtain ⟨p, hp⟩ : ∃ p, p = max l0 l1 := ⟨_, rfl⟩
  have hp9 : p ≤ 1099511627776 := by omega
  have e0 : max (l0 : Int) (l1 : Int) = (p : Int) := by omega
  have HP : Hid (l0 ≤ p ∧ l1 ≤ p) := Lib.hid (by omega)
  clear ha hb h0 h1 hp
  go_enter Tryz.func185, Tryz.ntmps185
  go_wp2_with fail
  go_loopg [5] p (fun kx s5 wr => ∃ k : Nat, s5 = .int .i64 ((k : Int) - 1) ∧ k ≤ p ∧ k ≤ kx ∧ Hid (∀ i, k ≤ i → xs.getD i 0 = ys.getD i 0) ∧ w = wr)
  case atStart => exact ⟨p, rfl, Nat.le_refl _, Nat.le_refl _, Lib.hid (fun i hi => by
    have h1 := HP.out
    have h2 := H0.out
    have h3 := H1.out
    simp [List.getD_eq_getElem?_getD, show xs.length ≤ i by omega, show ys.length ≤ i by omega]), rfl⟩
  case round =>
    obtain ⟨k, rfl, hk, hkx, HD, rfl⟩ := hrel
    by_cases hk0 : k = 0
    · subst hk0
      have HC := Lib.hid (cmpN_eq (nv_eq_words fun i => HD.out i (by omega)))
      go_wp2_with fail
      go_ret
      exact ⟨by rw [HC.out]; first | done | rfl, rfl⟩
    · obtain ⟨j, rfl⟩ : ∃ j, k = j + 1 := ⟨k - 1, by omega⟩
      have HX := Lib.hid (HA.out j)
      have HY := Lib.hid (HB.out j)
      have hxw := HWA.out.getD j
      have hyw := HWB.out.getD j
      have HLT : Hid (xs.getD j 0 < ys.getD j 0 → nv xs < nv ys) := Lib.hid fun h => nv_lt_words HWA.out (fun i hi => HD.out i (by omega)) h
      have HGT : Hid (ys.getD j 0 < xs.getD j 0 → nv ys < nv xs) := Lib.hid fun h => nv_lt_words HWB.out (fun i hi => (HD.out i (by omega)).symm) h
      have HEQ : Hid (xs.getD j 0 = ys.getD j 0 → ∀ i, j ≤ i → xs.getD i 0 = ys.getD i 0) := Lib.hid fun h i hi => by
        by_cases e : i = j
        · rw [e]; exact h
        · exact HD.out i (by omega)
      generalize xs.getD j 0 = x at *
      generalize ys.getD j 0 = y at *
      have e1 : ((j + 1 : Nat) : Int) - 1 = (j : Int) := by omega
      rw [e1]
      have hj0 : (0 : Int) ≤ (j : Int) := by omega
      clear e1 hk0
      rcases Nat.lt_trichotomy x y with h | h | h
      · have HC := Lib.hid (cmpN_lt (HLT.out h))
        go_wp2_with (first | (go_at_call 240; (with_reducible refine HX.out.mono ?_); rintro e w2 ⟨rfl, rfl⟩) | (go_at_call 240; (with_reducible refine HY.out.mono ?_); rintro e w2 ⟨rfl, rfl⟩))
        go_ret
        exact ⟨by rw [HC.out]; first | done | rfl, rfl⟩
      · subst h
        have hr := Lib.hid (HEQ.out rfl)
        have h' : ¬ x < x := by omega
        go_wp2_with (first | (go_at_call 240; (with_reducible refine HX.out.mono ?_); rintro e w2 ⟨rfl, rfl⟩) | (go_at_call 240; (with_reducible refine HY.out.mono ?_); rintro e w2 ⟨rfl, rfl⟩))
        go_roundg j
        case measure => omega
        case rel => exact ⟨j, rfl, by omega, Nat.le_refl _, hr, rfl⟩
      · have HC := Lib.hid (cmpN_gt (HGT.out h))
        have h' : ¬ x < y := by omega
        go_wp2_with (first | (go_at_call 240; (with_reducible refine HX.out.mono ?_); rintro e w2 ⟨rfl, rfl⟩) | (go_at_call 240; (with_reducible refine HY.out.mono ?_); rintro e w2 ⟨rfl, rfl⟩))
        go_ret
        exact ⟨by rw [HC.out]; first | done | rfl, rfl⟩
theorem nv_push {L : List Nat} {i : Nat} (h : L.length = i) (r : Nat) : nv (L ++ [r]) = nv L + r * 4294967296 ^ i := by
  rw [nv_append, nv_cons, nv_nil, h, Nat.mul_zero, Nat.add_zero, Nat.mul_comm]
set_option maxRecDepth 100000 in
set_option maxHeartbeats 2000000 in
theorem refadd_any (va vb : Value) (xs ys : List Nat) (w : World) (ha : WdsAt w va xs) (hb : WdsAt w vb ys) (hla : xs.length ≤ 549755813888) (hlb : ys.length ≤ 549755813888) :
    Calls Tryz.prog 184 #[va, vb] w fun e w' => (∃ v', e = .returned v' ∧ WdsAt w' v' (nw (nv xs + nv ys))) ∧ Kept w w' := by
  have HA := Lib.hid (fun W (hk : Kept w W) (i : Nat) => rword_any va xs i W (ha.kept hk))
  have HB := Lib.hid (fun W (hk : Kept w W) (i : Nat) => rword_any vb ys i W (hb.kept hk))
  have HWA := Lib.hid ha.wd
  have HWB := Lib.hid hb.wd
  obtain ⟨a0, c0, rfl⟩ := ha.shape
  obtain ⟨a1, c1, rfl⟩ := hb.shape
  obtain ⟨l0, h0⟩ : ∃ l0, l0 = xs.length := ⟨_, rfl⟩
  obtain ⟨l1, h1⟩ : ∃ l1, l1 = ys.length := ⟨_, rfl⟩
  rw [← h0] at HA hla ⊢
  rw [← h1] at HB hlb ⊢
  have H0 := Lib.hid h0
  have H1 := Lib.hid h1
  obtain ⟨m, hm⟩ : ∃ m, m = max l0 l1 := ⟨_, rfl⟩
  have hm9 : m ≤ 549755813888 := by omega
  have e0 : max (l0 : Int) (l1 : Int) = (m : Int) := by omega
  obtain ⟨p, hp⟩ : ∃ p, p = m + 1 := ⟨_, rfl⟩
  have e1 : (m : Int) + 1 = (p : Int) := by omega
  have hp9 : p ≤ 549755813889 := by omega
  have HP : Hid (l0 + 1 ≤ p ∧ l1 + 1 ≤ p) := Lib.hid (by omega)
  clear ha hb h0 h1 hm hp
  go_enter Tryz.func184, Tryz.ntmps184
  go_wp2_with fail
  go_loopg [5, 6, 15] p (fun kx s5 s6 s15 wr => ∃ (i c : Nat) (L : List Nat), s6 = .int .u64 c ∧ s15 = .int .i64 i ∧ i ≤ p ∧ p - i ≤ kx ∧ c ≤ 1 ∧ Hid (OwnWds wr w.heap.size s5 L) ∧ Hid (L.length = i) ∧ Hid (nv L + c * 4294967296 ^ i = nv (xs.take i) + nv (ys.take i)) ∧ Hid (Kept w wr))
  case atStart => exact ⟨0, 0, [], rfl, rfl, Nat.zero_le _, by omega, by omega, Lib.hid (OwnWds.nil _ _), Lib.hid rfl, Lib.hid (by simp [nv_nil]), Lib.hid (Kept.refl _)⟩
  case round =>
    obtain ⟨i, c, L, rfl, rfl, hi, hkx, hc, HO, HL, HI, HK⟩ := hrel
    by_cases hlt : i < p
    · have hx := HWA.out.getD i
      have hy := HWB.out.getD i
      have HX := Lib.hid (HA.out wr HK.out i)
      have HY := Lib.hid (HB.out wr HK.out i)
      have HST : Hid (∀ s, s = c + xs.getD i 0 + ys.getD i 0 → nv (L ++ [s % 4294967296]) + (s / 4294967296) * 4294967296 ^ (i + 1) = nv (xs.take (i + 1)) + nv (ys.take (i + 1))) := Lib.hid fun s hs => by
        have := wadd_step HI.out hs
        rw [nv_push HL.out, nv_take_succ, nv_take_succ, ← this, Nat.pow_succ, Nat.mul_comm (4294967296 ^ i)]
      generalize xs.getD i 0 = x at *
      generalize ys.getD i 0 = y at *
      have hkn : (i : Int) < (p : Int) := by omega
      obtain ⟨t, ht⟩ : ∃ t, t = x + y := ⟨_, rfl⟩
      obtain ⟨s, hs⟩ : ∃ s, s = c + x + y := ⟨_, rfl⟩
      have hs9 : s < 18446744073709551616 := by omega
      have ht9 : t < 18446744073709551616 := by omega
      obtain ⟨r, hr⟩ : ∃ r, r = s % 4294967296 := ⟨_, rfl⟩
      obtain ⟨q, hq⟩ : ∃ q, q = s / 4294967296 := ⟨_, rfl⟩
      have hr9 : r < 4294967296 := by omega
      have hq9 : q ≤ 1 := by omega
      have HSS := Lib.hid (HST.out s hs)
      rw [← hr, ← hq] at HSS
      have e2 : (x : Int) + (y : Int) = (t : Int) := by omega
      have e3 : (t : Int) + (c : Int) = (s : Int) := by omega
      have e6 : (s : Int) / 4294967296 = (q : Int) := by omega
      have e5 : IntKind.u32.wrap (s : Int) = (r : Int) := by rw [IntKind.wrap_u32]; omega
      have hi9 : i < 1099511627776 := by omega
      have HSZ := Lib.hid HK.out.size
      clear HST hs hr hq ht
      go_wp2_with (first
        | (go_at_call 240; (with_reducible refine HX.out.mono ?_); rintro e w2 ⟨rfl, rfl⟩)
        | (go_at_call 240; (with_reducible refine HY.out.mono ?_); rintro e w2 ⟨rfl, rfl⟩)
        | (at_builtin; refine app_wd rfl _ _ rfl w.heap.size _ L rfl (HO.out.kept ((Kept.refl _).alloc _)) _ r rfl (by simp) hr9 (by rw [HL.out]; exact hi9) (by have := HSZ.out; simp; omega) ?_; intro v7 w7 h7 hb7; have O7 := Lib.hid h7; have HB7 := Lib.hid hb7; clear h7 hb7))
      go_roundg (p - (i + 1))
      case measure => omega
      case rel => exact ⟨i + 1, q, L ++ [r], rfl, by go_num, by omega, Nat.le_refl _, hq9, O7, Lib.hid (by rw [List.length_append, HL.out]; rfl), HSS, Lib.hid ((HK.out.alloc _).app HB7.out)⟩
    · have hip : i = p := by omega
      have HV : Hid (nv L = nv xs + nv ys) := Lib.hid (add_done (L := L) (i := i) (c := c) (p := p) (by rw [nv_take_all L i (by rw [HL.out]; exact Nat.le_refl _)]; exact HI.out) hip (by have h1 := HP.out; have h2 := H0.out; omega) (by have h1 := HP.out; have h2 := H1.out; omega) (by rw [HL.out]; exact hip) HWA.out HWB.out)
      have HT := Lib.hid (rtrim_any _ _ _ HO.out.at)
      clear hip
      go_wp2_with fail
      refine HT.out.mono ?_
      rintro e w2 ⟨⟨v2, rfl, hv2⟩, hk2⟩
      have HV2 := Lib.hid hv2
      have HK2 := Lib.hid (HK.out.trans hk2)
      clear hv2 hk2
      go_wp2
      go_ret
      exact ⟨⟨_, rfl, by rw [← HV.out]; exact HV2.out.at⟩, HK2.out⟩
end Go.Proofs.YthiemjodcklejaaGreatDoor

/-
  Walks: faultlineref01.Sub.
-/
namespace Go.Proofs.YthiemjodcklejaaGreatDoor
open Go.RowKit

set_option maxRecDepth 100000 in
set_option maxHeartbeats 4000000 in
theorem refsub_own (va vb : Value) (xs ys : List Nat) (w : World) (ha : WdsAt w va xs) (hb : WdsAt w vb ys) (hle : nv ys ≤ nv xs) :
    Calls Tryz.prog 186 #[va, vb] w fun e w' => (∃ v', e = .returned (.tuple #[v', .int .i64 0]) ∧ OwnWds w' w.heap.size v' (nw (nv xs - nv ys))) ∧ Kept w w' := by
  have HA := Lib.hid (fun W (hk : Kept w W) (i : Nat) => rword_any va xs i W (ha.kept hk))
  have HB := Lib.hid (fun W (hk : Kept w W) (i : Nat) => rword_any vb ys i W (hb.kept hk))
  have HCMP := Lib.hid (refcmp_any va vb xs ys w ha hb)
  have HWA := Lib.hid ha.wd
  have HWB := Lib.hid hb.wd
  have hc0 : 0 ≤ cmpN (nv xs) (nv ys) := by unfold cmpN; split <;> (try split) <;> omega
  obtain ⟨cv, hcv⟩ : ∃ cv, cv = cmpN (nv xs) (nv ys) := ⟨_, rfl⟩
  rw [← hcv] at HCMP hc0
  obtain ⟨a0, c0, rfl⟩ := ha.shape
  obtain ⟨a1, c1, rfl⟩ := hb.shape
  obtain ⟨p, h0⟩ : ∃ p, p = xs.length := ⟨_, rfl⟩
  have hp9 : p ≤ 1099511627776 := by rw [h0]; exact ha.len
  rw [← h0] at HA HCMP ⊢
  generalize ys.length = l1 at *
  have H0 := Lib.hid h0
  have HLE := Lib.hid hle
  have hc1 : ¬ cv < 0 := by omega
  clear ha hb h0 hle hcv hc0
  go_enter Tryz.func186, Tryz.ntmps186
  go_wp2_with fail
  refine HCMP.out.mono ?_
  rintro e w0 ⟨rfl, rfl⟩
  go_wp2_with fail
  go_loopg [6, 7, 16] p (fun kx s6 s7 s16 wr => ∃ (i c : Nat) (L : List Nat), s7 = .int .u64 c ∧ s16 = .int .i64 i ∧ i ≤ p ∧ p - i ≤ kx ∧ c ≤ 1 ∧ Hid (OwnWds wr w0.heap.size s6 L) ∧ Hid (L.length = i) ∧ Hid (nv L + nv (ys.take i) = nv (xs.take i) + c * 4294967296 ^ i) ∧ Hid (Kept w0 wr))
  case atStart => exact ⟨0, 0, [], rfl, rfl, Nat.zero_le _, by omega, by omega, Lib.hid (OwnWds.nil _ _), Lib.hid rfl, Lib.hid (by simp [nv_nil]), Lib.hid (Kept.refl _)⟩
  case round =>
    obtain ⟨i, c, L, rfl, rfl, hi, hkx, hc, HO, HL, HI, HK⟩ := hrel
    by_cases hlt : i < p
    · have hx := HWA.out.getD i
      have hy := HWB.out.getD i
      have HX := Lib.hid (HA.out wr HK.out i)
      have HY := Lib.hid (HB.out wr HK.out i)
      have HST : Hid (∀ o b', o + ys.getD i 0 + c = xs.getD i 0 + b' * 4294967296 → nv (L ++ [o]) + nv (ys.take (i + 1)) = nv (xs.take (i + 1)) + b' * 4294967296 ^ (i + 1)) := Lib.hid fun o b' hs => by
        have := sub_step HI.out hs
        rw [nv_push HL.out, nv_take_succ, nv_take_succ, this, Nat.pow_succ, Nat.mul_comm (4294967296 ^ i)]
      generalize xs.getD i 0 = x at *
      generalize ys.getD i 0 = y at *
      have hkn : (i : Int) < (p : Int) := by omega
      obtain ⟨o, b', D, ho, hb', hD, hob, hm, hd, hcs⟩ := borrow_cases hx hy hc
      have HSS := Lib.hid (HST.out o b' hob)
      have e5 : IntKind.u32.wrap (D : Int) = (o : Int) := by rw [IntKind.wrap_u32]; omega
      have e6 : (D : Int) / 9223372036854775808 = (b' : Int) := by omega
      have HSZ := Lib.hid HK.out.size
      have HI9 : Hid (L.length < 1099511627776) := Lib.hid (by rw [HL.out]; omega)
      clear HST hob hm hd
      rcases hcs with ⟨h1, h2⟩ | ⟨h1, D1, h2, h3⟩ | ⟨h1, h2, h3⟩
      · go_wp2_with (first
          | (go_at_call 240; (with_reducible refine HX.out.mono ?_); rintro e w2 ⟨rfl, rfl⟩)
          | (go_at_call 240; (with_reducible refine HY.out.mono ?_); rintro e w2 ⟨rfl, rfl⟩)
          | (at_builtin; refine app_wd rfl _ _ rfl w0.heap.size _ L rfl (HO.out.kept ((Kept.refl _).alloc _)) _ o rfl (by simp) ho HI9.out (by have := HSZ.out; simp; omega) ?_; intro v7 w7 h7 hb7; have O7 := Lib.hid h7; have HB7 := Lib.hid hb7; clear h7 hb7))
        go_roundg (p - (i + 1))
        case measure => omega
        case rel => exact ⟨i + 1, b', L ++ [o], rfl, by go_num, by omega, Nat.le_refl _, hb', O7, Lib.hid (by rw [List.length_append, HL.out]; rfl), HSS, Lib.hid ((HK.out.alloc _).app HB7.out)⟩
      · have e1 := u64_up h2 (by omega)
        have hD1 : D1 < 18446744073709551616 := by omega
        clear h2
        go_wp2_with (first
          | (go_at_call 240; (with_reducible refine HX.out.mono ?_); rintro e w2 ⟨rfl, rfl⟩)
          | (go_at_call 240; (with_reducible refine HY.out.mono ?_); rintro e w2 ⟨rfl, rfl⟩)
          | (at_builtin; refine app_wd rfl _ _ rfl w0.heap.size _ L rfl (HO.out.kept ((Kept.refl _).alloc _)) _ o rfl (by simp) ho HI9.out (by have := HSZ.out; simp; omega) ?_; intro v7 w7 h7 hb7; have O7 := Lib.hid h7; have HB7 := Lib.hid hb7; clear h7 hb7))
        go_roundg (p - (i + 1))
        case measure => omega
        case rel => exact ⟨i + 1, b', L ++ [o], rfl, by go_num, by omega, Nat.le_refl _, hb', O7, Lib.hid (by rw [List.length_append, HL.out]; rfl), HSS, Lib.hid ((HK.out.alloc _).app HB7.out)⟩
      · have e1 := u64_up h3 (by omega)
        have g1 : x ≤ y := by omega
        have g2 : y ≤ x := by omega
        have g3 : 1 ≤ c := by omega
        clear h1 h2 h3
        go_wp2_with (first
          | (go_at_call 240; (with_reducible refine HX.out.mono ?_); rintro e w2 ⟨rfl, rfl⟩)
          | (go_at_call 240; (with_reducible refine HY.out.mono ?_); rintro e w2 ⟨rfl, rfl⟩)
          | (at_builtin; refine app_wd rfl _ _ rfl w0.heap.size _ L rfl (HO.out.kept ((Kept.refl _).alloc _)) _ o rfl (by simp) ho HI9.out (by have := HSZ.out; simp; omega) ?_; intro v7 w7 h7 hb7; have O7 := Lib.hid h7; have HB7 := Lib.hid hb7; clear h7 hb7))
        go_roundg (p - (i + 1))
        case measure => omega
        case rel => exact ⟨i + 1, b', L ++ [o], rfl, by go_num, by omega, Nat.le_refl _, hb', O7, Lib.hid (by rw [List.length_append, HL.out]; rfl), HSS, Lib.hid ((HK.out.alloc _).app HB7.out)⟩
    · have hip : i = p := by omega
      have HV : Hid (nv L = nv xs - nv ys) := Lib.hid (sub_done (L := L) (i := i) (b := c) (p := p) (by rw [nv_take_all L i (by rw [HL.out]; exact Nat.le_refl _)]; exact HI.out) hip H0.out.symm (by rw [HL.out]; exact hip) HO.out.at.wd HWA.out HLE.out)
      have HT := Lib.hid (rtrim_any _ _ _ HO.out.at)
      clear hip
      go_wp2_with fail
      refine HT.out.mono ?_
      rintro e w2 ⟨⟨v2, rfl, hv2⟩, hk2⟩
      have HV2 := Lib.hid hv2
      have HK2 := Lib.hid (HK.out.trans hk2)
      clear hv2 hk2
      go_wp2
      go_ret2
      exact ⟨⟨_, rfl, by rw [← HV.out]; exact HV2.out.mono HK.out.size⟩, HK2.out⟩
theorem refsub_any (va vb : Value) (xs ys : List Nat) (w : World) (ha : WdsAt w va xs) (hb : WdsAt w vb ys) (hle : nv ys ≤ nv xs) :
    Calls Tryz.prog 186 #[va, vb] w fun e w' => (∃ v', e = .returned (.tuple #[v', .int .i64 0]) ∧ WdsAt w' v' (nw (nv xs - nv ys))) ∧ Kept w w' :=
  (refsub_own va vb xs ys w ha hb hle).mono fun _ _ ⟨⟨v', h1, h2⟩, h3⟩ => ⟨⟨v', h1, h2.at⟩, h3⟩
/-- Words of the call's own are kept by a store into an older block. -/
theorem OwnWds.older {w w' : World} {B g : Nat} {v : Value} {xs : List Nat} (h : OwnWds w B v xs) (hg : g < B) (ho : OnlyAt g w w') : OwnWds w' B v xs := by
  obtain ⟨⟨h1, h2⟩, h3⟩ := h
  refine ⟨⟨h1, ?_⟩, h3⟩
  rcases h2 with h2 | ⟨p, cap, cur, h4, h5, h6, h7⟩
  · exact .inl h2
  · refine .inr ⟨p, cap, cur, h4, h5, ?_, h7⟩
    have hlt : p < w.heap.size := by
      rcases Nat.lt_or_ge p w.heap.size with h8 | h8
      · exact h8
      · simp [Array.getElem?_eq_none h8] at h6
    rw [ho.block p hlt (by omega)]
    exact h6
end Go.Proofs.YthiemjodcklejaaGreatDoor

/-
  Walk: faultlineref01.Mul.
-/
namespace Go.Proofs.YthiemjodcklejaaGreatDoor
open Go.RowKit

set_option maxRecDepth 100000 in
set_option maxHeartbeats 4000000 in
theorem refmul_any (va vb : Value) (xs ys : List Nat) (w : World) (ha : WdsAt w va xs) (hb : WdsAt w vb ys) (hla : xs.length ≤ 274877906944) (hlb : ys.length ≤ 274877906944) :
    Calls Tryz.prog 182 #[va, vb] w fun e w' => (∃ v', e = .returned v' ∧ WdsAt w' v' (nw (nv xs * nv ys))) ∧ Kept w w' := by
  have HA := Lib.hid ha
  have HB := Lib.hid (fun W (hk : Kept w W) (i : Nat) => rword_any vb ys i W (hb.kept hk))
  have HWB := Lib.hid hb.wd
  obtain ⟨a0, c0, rfl⟩ := ha.shape
  obtain ⟨a1, c1, rfl⟩ := hb.shape
  obtain ⟨l0, h0⟩ : ∃ l0, l0 = xs.length := ⟨_, rfl⟩
  obtain ⟨l1, h1⟩ : ∃ l1, l1 = ys.length := ⟨_, rfl⟩
  rw [← h0] at HA hla ⊢
  rw [← h1] at HB hlb ⊢
  have H0 := Lib.hid h0
  have H1 := Lib.hid h1
  obtain ⟨p0, hp0⟩ : ∃ p0, p0 = l0 + l1 := ⟨_, rfl⟩
  obtain ⟨p, hp⟩ : ∃ p, p = p0 + 1 := ⟨_, rfl⟩
  obtain ⟨l2, hl2⟩ : ∃ l2, l2 = l1 + 1 := ⟨_, rfl⟩
  have e0 : (l0 : Int) + (l1 : Int) = (p0 : Int) := by omega
  have e1 : (p0 : Int) + 1 = (p : Int) := by omega
  have e2 : (l1 : Int) + 1 = (l2 : Int) := by omega
  have hp9 : p ≤ 549755813889 := by omega
  have hp09 : p0 ≤ 549755813888 := by omega
  have hl29 : l2 ≤ 274877906945 := by omega
  have HP : Hid (p = l0 + l1 + 1) := Lib.hid (by omega)
  have HL2 : Hid (l2 = l1 + 1) := Lib.hid hl2
  clear ha hb h0 h1 hp hp0 hl2
  go_enter Tryz.func182, Tryz.ntmps182
  go_wp2_with (refine make_one 29 82 (.int .u32 0) 4 info_u32 Tryz.underlying29 rfl rfl _ _ rfl p rfl rfl (by omega) (by unfold maxLen; omega) ?_; intro w1 hr1 hk1)
  have HR1 := Lib.hid (made_wds hr1)
  have HK1 := Lib.hid hk1
  clear hr1 hk1
  go_loopg [20] l0 (fun kx s20 wr => ∃ (i : Nat) (L : List Nat), s20 = .int .i64 i ∧ i ≤ l0 ∧ l0 - i ≤ kx ∧ Hid (RowAt wr w.heap.size 82 (L.map w32)) ∧ Hid (L.length = p ∧ Wd L) ∧ Hid (nv L = nv (xs.take i) * nv ys ∧ ∀ q, i + l1 ≤ q → L.getD q 0 = 0) ∧ Hid (Kept w wr))
  case atStart => exact ⟨0, List.replicate p 0, rfl, Nat.zero_le _, by omega, HR1, Lib.hid ⟨by simp, Wd.zeros _⟩, Lib.hid ⟨by rw [nv_zeros]; simp [nv_nil], fun q _ => by simp [List.getD_eq_getElem?_getD, List.getElem?_replicate]; split <;> rfl⟩, HK1⟩
  case round =>
    obtain ⟨wo, rfl⟩ : ∃ wo : World, wo = wr := ⟨_, rfl⟩
    obtain ⟨i, L, rfl, hi, hkx, HR, HL, HI, HK⟩ := hrel
    by_cases hlt : i < l0
    · obtain ⟨b, o, rfl, hcx⟩ := (HA.out.kept HK.out).get i (by have := H0.out; omega)
      have hx := HA.out.wd.getD i
      obtain ⟨x, hxx⟩ : ∃ x, x = xs.getD i 0 := ⟨_, rfl⟩
      rw [← hxx] at hcx hx
      have HX := Lib.hid hxx
      have hkn : (i : Int) < (l0 : Int) := by omega
      clear hxx
      go_wp2
      go_loopg [8, 28] l2 (fun kx s8 s28 wq => ∃ (k c : Nat) (L' : List Nat), s8 = .int .u64 c ∧ s28 = .int .i64 k ∧ k ≤ l2 ∧ l2 - k ≤ kx ∧ c < 4294967296 ∧ Hid (RowAt wq w.heap.size 82 (L'.map w32)) ∧ Hid (L'.length = p ∧ Wd L') ∧ Hid (nv L' + c * 4294967296 ^ (i + k) = nv L + x * (nv (ys.take k) * 4294967296 ^ i) ∧ (∀ q, i + l1 ≤ q → i + k ≤ q → L'.getD q 0 = 0) ∧ (l1 < k → c = 0)) ∧ Hid (Kept w wq))
      case atStart => exact ⟨0, 0, L, rfl, rfl, Nat.zero_le _, by omega, by omega, HR, HL, Lib.hid ⟨by simp [nv_nil], fun q h _ => HI.out.2 q h, fun _ => rfl⟩, HK⟩
      case round =>
        obtain ⟨k, c, L', rfl, rfl, hk, hkx2, hc, HR2, HL2', HI2, HK2⟩ := hrel
        by_cases hlt2 : k < l2
        · have hy := HWB.out.getD k
          have hy0 : l1 ≤ k → ys.getD k 0 = 0 := fun h => by rw [List.getD_eq_getElem?_getD, List.getElem?_eq_none (by rw [← H1.out]; exact h)]; rfl
          have HY := Lib.hid (fun W (hk : Kept wr W) => HB.out W (HK2.out.trans hk) k)
          have hpp := HP.out
          have hl2 := HL2.out
          have hik : i + k < L'.length := by have := HL2'.out.1; omega
          have hikp : i + k < p := by omega
          obtain ⟨u, hu⟩ : ∃ u, u = i + k := ⟨_, rfl⟩
          have eik : (i : Int) + (k : Int) = (u : Int) := by omega
          have hup : u < p := by omega
          have hup' : (u : Int) < (p : Int) := by omega
          have HU := Lib.hid hu
          have f := HR2.out.free u
          have hst := wds_cell HR2.out u (by rw [hu]; exact hik)
          rw [hu] at hst
          have hwz := HL2'.out.2.getD (i + k)
          have hz0 : l1 ≤ k → L'.getD (i + k) 0 = 0 := fun h => HI2.out.2.1 _ (by omega) (Nat.le_refl _)
          have HST : Hid (∀ s, s = c + x * ys.getD k 0 + L'.getD (i + k) 0 → nv (L'.set (i + k) (s % 4294967296)) + (s / 4294967296) * 4294967296 ^ (i + (k + 1)) = nv L + x * (nv (ys.take (k + 1)) * 4294967296 ^ i)) := Lib.hid fun s hs => mul_inner HI2.out.1 hik hs
          generalize ys.getD k 0 = y at *
          generalize L'.getD (i + k) 0 = z at *
          obtain ⟨hs1, hs2, hs3⟩ := sub_words hc hx hy hwz
          obtain ⟨s, hs⟩ : ∃ s, s = c + x * y + z := ⟨_, rfl⟩
          have HSS := Lib.hid (HST.out s hs)
          rw [← hs] at hs1 hs3
          obtain ⟨xy, hxy⟩ : ∃ xy, xy = x * y := ⟨_, rfl⟩
          rw [← hxy] at hs hs2
          have hxy0 : y = 0 → xy = 0 := fun h => by rw [hxy, h, Nat.mul_zero]
          have exy : (x : Int) * (y : Int) = (xy : Int) := by rw [hxy]; simp
          obtain ⟨xz, hxz⟩ : ∃ xz, xz = xy + z := ⟨_, rfl⟩
          have exz : (xy : Int) + (z : Int) = (xz : Int) := by omega
          have hxz9 : xz < 18446744073709551616 := by omega
          obtain ⟨r, hr⟩ : ∃ r, r = s % 4294967296 := ⟨_, rfl⟩
          obtain ⟨q, hq⟩ : ∃ q, q = s / 4294967296 := ⟨_, rfl⟩
          rw [← hr, ← hq] at HSS
          rw [← hq] at hs3
          have hlast : l1 < k + 1 → q = 0 := fun h => by
            have h1 := hz0 (by omega)
            have h2 := hxy0 (hy0 (by omega))
            omega
          have HLA := Lib.hid hlast
          have hr9 : r < 4294967296 := by omega
          have es : (xz : Int) + (c : Int) = (s : Int) := by omega
          have e6 : (s : Int) / 4294967296 = (q : Int) := by omega
          have hkn2 : (k : Int) < (l2 : Int) := by omega
          have e5 : IntKind.u32.wrap (s : Int) = (r : Int) := by rw [IntKind.wrap_u32]; omega
          rw [← HU.out] at hst
          have hu9 : u < 549755813889 := by omega
          have ww1 : IntKind.i64.wrap (u : Int) = (u : Int) := by rw [IntKind.wrap_i64]; omega
          have ww2 : IntKind.u64.wrap (xy : Int) = (xy : Int) := by rw [IntKind.wrap_u64]; omega
          have ww3 : IntKind.u64.wrap (xz : Int) = (xz : Int) := by rw [IntKind.wrap_u64]; omega
          have ww4 : IntKind.u64.wrap (s : Int) = (s : Int) := by rw [IntKind.wrap_u64]; omega
          have hst' := ((Kept.refl wr).drew).cell hst
          clear hu hik hikp hs hr hq HST hxy hpp hl2 hxy0 hlast hz0 hy0 hxz
          go_wp2_with fail
          go_region_with ((go_at_call 240; refine (HY.out _ (by first | exact Kept.refl _ | exact (Kept.refl _).drew)).mono ?_; rintro e w2 ⟨rfl, rfl⟩))
          all_goals
            go_wp2
            go_roundg (l2 - (k + 1))
            case measure => omega
            case rel => exact ⟨k + 1, q, L'.set (i + k) r, rfl, by go_num, by omega, Nat.le_refl _, hs3, Lib.hid (by have h := wds_store (HR2.out.kept (Kept.refl _).drew) u r; rw [HU.out] at h ⊢; exact h), Lib.hid ⟨by rw [List.length_set]; exact HL2'.out.1, HL2'.out.2.set _ r hr9⟩, Lib.hid ⟨HSS.out, fun q' h1 h2 => by rw [getD_set_ne (by omega)]; exact HI2.out.2.1 q' h1 (by omega), HLA.out⟩, Lib.hid ((HK2.out.trans (Kept.refl _).drew).store (Nat.le_refl _) _ _)⟩
        · have hke : k = l2 := by omega
          have HNX : Hid (nv L' = nv (xs.take (i + 1)) * nv ys) := Lib.hid (by
            have h := HI2.out.1
            rw [HI2.out.2.2 (by have := HL2.out; omega), Nat.zero_mul, Nat.add_zero, nv_take_all ys k (by have := HL2.out; have := H1.out; omega), HI.out.1] at h
            rw [h, nv_take_succ, Nat.add_mul, HX.out, Nat.mul_assoc (xs.getD i 0), Nat.mul_comm (nv ys)])
          have HKE := Lib.hid hke
          clear hke
          go_wp2
          go_roundg (l0 - (i + 1))
          case measure => omega
          case rel => exact ⟨i + 1, L', by go_num, by omega, Nat.le_refl _, HR2, HL2', Lib.hid ⟨HNX.out, fun q hq => HI2.out.2.1 q (by omega) (by have := HKE.out; have := HL2.out; omega)⟩, HK2⟩
    · have hie : i = l0 := by omega
      have HV : Hid (nv L = nv xs * nv ys) := Lib.hid (by have := HI.out.1; rw [hie, H0.out, nv_take_all _ _ (Nat.le_refl _)] at this; exact this)
      have HT : Hid (Calls Tryz.prog 241 #[.slice (some ⟨w.heap.size, 0, none⟩) p p] wo fun e w' => (∃ v', e = .returned v' ∧ OwnWds w' wo.heap.size v' (nw (nv L))) ∧ Kept wo w') := Lib.hid (by
        have h := row_wds HR.out (c := p) (by rw [HL.out.1]; exact Nat.le_refl _) (by rw [HL.out.1]; omega) HL.out.2
        rw [HL.out.1] at h
        exact rtrim_any _ _ _ h)
      clear hie
      go_wp2_with fail
      refine HT.out.mono ?_
      rintro e w2 ⟨⟨v2, rfl, hv2⟩, hk2⟩
      have HV2 := Lib.hid hv2
      have HK2 := Lib.hid (HK.out.trans hk2)
      clear hv2 hk2
      go_wp2
      go_ret
      exact ⟨⟨_, rfl, by rw [← HV.out]; exact HV2.out.at⟩, HK2.out⟩
end Go.Proofs.YthiemjodcklejaaGreatDoor
