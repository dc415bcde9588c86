import Derived.WalkKit
import Derived.WalkSpells
import Derived.WalkLawsBesides
import Derived.Deep.QuietTactic
import Derived.BigQuiet
import Derived.Lib.Hide
import Derived.Shelf.Abstract
import Derived.Deep.RegionWith
import Derived.Laws.AppendOwnNone
import Derived.Lib.AppendZerosOnto
import Derived.Lib.SliceRun
import Derived.Lib.SlicesCompact
import Derived.Shelf.SlSortCmp.NoneTotal
import Derived.Maps.OwnOps
import Derived.Maps.OwnSet
import Derived.Maps.Views
import Derived.Deep.MidRow
import Derived.Deep.RegionHeld3
import Derived.Deep.AppendLies
import Derived.Deep.RegionLaw
import Derived.IntWalk
import Derived.StillTailTactics
import Derived.ProofKit
import Derived.OpenShut
import Derived.SizedLaws
import Derived.Lib.SmallJoins
import Derived.Deep.Slices
import Derived.Deep.Fields
import Derived.Deep.Strs
import Derived.Carry
import Derived.Deep.DeepCutAuto
import Derived.BigRegion
import Derived.ChangeAlike
import Derived.Deep.LoopGhost
import Derived.Lib.ItoaNum
import Derived.RegionTactic
import Derived.Shelf.SlSortCmp.PdqK
import Derived.Sort.LotA
import Derived.Sort.LotD2
import Derived.Lib.BitFns
import Derived.Deep.CutBlock
import Derived.Maps.RangeWalk
import Derived.Shelf.SlSortCmp.WholeK
import Derived.Test.YtpaedhlacbpmpaaGreatDoorPX5
import Derived.Test.YtpaedhlacbpmpaaGreatDoorPX3
import Derived.Test.YtpaedhlacbpmpaaGreatDoorPX4
import Derived.Test.YtpaedhlacbpmpaaGreatDoorPX2
import Derived.Test.YtpaedhlacbpmpaaGreatDoorPX1
import Derived.Test.YtpaedhlacbpmpaaGreatDoorShelf
import Derived.Laws.IdiomStrings
/-
  Walks: the sum's add; its terms in ascending order.
-/
namespace Go.Proofs.YtpaedhlacbpmpaaGreatDoor
open Go.RowKit Go.Maps

theorem grown_only {b : Nat} {w w' : World} (h : w.grownBy w' (some b)) : OnlyAt b w w' := ⟨h.os, h.tape, h.output, h.size, fun i hi hne => h.block i hi (fun e => hne (by cases e; rfl))⟩
set_option maxRecDepth 100000 in
set_option maxHeartbeats 4000000 in
theorem sadd_any (b s : Nat) (cv : Value) (c : Rw) (l : Pol) (w : World) (h : SumAt w b l) (hc : RatAt w cv c) (hs : (canR (coef l s)).Short 34359738368) (hcs : c.Short 34359738368) :
    Calls Tryz.prog 55 #[.map (some b), .int .i64 s, cv] w fun e w' => e = .returned (.tuple #[]) ∧ SumAt w' b (l ++ [(s, ratOf c)]) ∧ OnlyAt b w w' := by
  obtain ⟨L, hL, hv, hput⟩ := h.step s
  obtain ⟨fv, hfv⟩ : ∃ fv, fv = (findL (s : Int) L).getD (.agg #[.bool false, .slice none 0 0, .slice none 0 0]) := ⟨_, rfl⟩
  rw [← hfv] at hv
  have HAD : Hid (∀ W u1 u2, RatAt W u1 (canR (coef l s)) → RatAt W u2 c → Calls Tryz.prog 24 #[u1, u2] W fun e w' => (∃ v', e = .returned v' ∧ RatAt w' v' (canR (coef l s + ratOf c))) ∧ Kept W w') := Lib.hid fun W u1 u2 k1 k2 => by
    have h := radd_any u1 u2 _ _ W k1 k2 ⟨Nat.le_trans hs.1 (by omega), Nat.le_trans hs.2 (by omega)⟩ ⟨Nat.le_trans hcs.1 (by omega), Nat.le_trans hcs.2 (by omega)⟩
    rw [ratOf_can] at h
    exact h
  obtain ⟨n1, l1, m1, a1, c1, a2, c2, w1, rfl, hw1, hcell, hk1, hr1, hz1⟩ := hc.box
  obtain ⟨n2, l2, m2, a3, c3, a4, c4, rfl⟩ := hv.parts
  have HFV := Lib.hid hfv.symm
  have HM1 : Hid (IntMap (w.alloc (.cells #[.bool n1, .slice a1 l1 c1, .slice a2 m1 c2] 38)) b L) := Lib.hid (by rw [← hw1]; exact hL.same (hk1.block b hL.lt))
  have HLW := Lib.hid hL
  have HV := Lib.hid (hv.kept hk1)
  have HC := Lib.hid hr1
  have HW1 := Lib.hid hw1
  have HK1 := Lib.hid hk1
  have HP := Lib.hid hput
  obtain ⟨x0, x1, x2⟩ : w1.cell? ⟨w.heap.size, 0, none⟩ = some (.bool n1) ∧ w1.cell? ⟨w.heap.size, 1, none⟩ = some (.slice a1 l1 c1) ∧ w1.cell? ⟨w.heap.size, 2, none⟩ = some (.slice a2 m1 c2) := by
    have hR := RowAt.made w #[.bool n1, .slice a1 l1 c1, .slice a2 m1 c2] 38
    rw [← hw1] at hR
    exact ⟨hR.cell (i := 0) (by simp), hR.cell (i := 1) (by simp), hR.cell (i := 2) (by simp)⟩
  rw [hw1] at x0 x1 x2
  clear h hc hs hcs hL hv hfv hput hw1 hcell hk1 hr1 hz1
  go_enter Tryz.func55, Tryz.ntmps55
  go_wp2_with (at_lookup; refine look_sum rfl _ _ rfl b L rfl HM1.out (s : Int) rfl ?_; rw [HFV.out])
  rw [← HW1.out]
  refine (HAD.out _ _ _ HV.out HC.out).mono ?_
  rintro e w2 ⟨⟨v2, rfl, hv2⟩, hk2⟩
  obtain ⟨n3, l3, m3, a5, c5, a6, c6, rfl⟩ := hv2.parts
  have HV2 := Lib.hid hv2
  have HK2 := Lib.hid (HK1.out.trans hk2)
  have HM2 := Lib.hid (HLW.out.same (HK2.out.block b HLW.out.lt))
  clear hv2 hk2 x0 x1 x2
  go_wp2_with (at_mapUpdate; refine store_sum rfl _ _ _ rfl b L rfl HM2.out (s : Int) rfl _ rfl ?_; intro w3 hm3 hg3)
  go_end0
  exact ⟨rfl, HP.out w2 w3 _ _ HK2.out HV2.out hm3 hg3, (OnlyAt.kept HK2.out).trans (grown_only hg3)⟩
theorem OwnTrms.older {w w' : World} {B g : Nat} {v : Value} {rs : List Trm} (h : OwnTrms w B v rs) (hg : g < B) (hN : NoW w g) (ho : OnlyAt g w w') : OwnTrms w' B v rs := by
  obtain ⟨L, h1, ⟨h21, h22⟩, h3, h4, h5⟩ := h
  have hb : ∀ k, v.ownBlock = some k → B ≤ k ∧ k < w.heap.size := fun k hk => by
    rcases h22 with ⟨rfl, _⟩ | ⟨g', cap, cur, rfl, hB, hh, _⟩
    · simp [Value.ownBlock] at hk
    · cases hk; exact ⟨hB, heap_lt hh⟩
  refine ⟨L, h1, ⟨h21, h22.imp id ?_⟩, h3, fun k hk => ?_, fun x hx => ?_⟩
  · rintro ⟨g', cap, cur, rfl, hB, hh, rest⟩
    exact ⟨g', cap, cur, rfl, hB, (ho.block g' (heap_lt hh) (by omega)).trans hh, rest⟩
  · have := hb k hk
    exact (h4 k hk).same (ho.block k this.2 (by omega))
  · exact (h5 x hx).only (g := some g) (fun k e => by cases e; exact hN) fun k hk hkg => ho.block k hk fun e => hkg (by rw [e])
theorem RangeInt.noW {w : World} {b r : Nat} {L : List (Int × Value)} {left : Int → Bool} (h : RangeInt w b r L left) : NoW w r := by
  obtain ⟨es, c, s, n, c0, _, _, _, _, _, _, _, _, h1, _⟩ := h
  intro cur e fr h2
  rw [h1] at h2; cases h2
theorem row3_at {w : World} {g : Nat} {e : TypeId} {x y z : Value} (h : RowAt w g e [x, y, z]) : w.cell? ⟨g, 0, none⟩ = some x ∧ w.cell? ⟨g, 1, none⟩ = some y ∧ w.cell? ⟨g, 2, none⟩ = some z := by
  have h0 := h.cell (i := 0) (by simp)
  have h1 := h.cell (i := 1) (by simp)
  have h2 := h.cell (i := 2) (by simp)
  exact ⟨by simpa using h0, by simpa using h1, by simpa using h2⟩
theorem range_made4 (w : World) (x0 x1 x2 x3 : Value) (e : TypeId) : (w.alloc (.cells #[x0, x1, x2, x3] e)).rangeAt w.heap.size 0 [x0, x1, x2, x3] := by
  have h := RowAt.made w #[x0, x1, x2, x3] e
  intro j v hj
  match j, hj with
  | 0, hj => simp at hj; subst hj; exact h.cell (i := 0) (by simp)
  | 1, hj => simp at hj; subst hj; exact h.cell (i := 1) (by simp)
  | 2, hj => simp at hj; subst hj; exact h.cell (i := 2) (by simp)
  | 3, hj => simp at hj; subst hj; exact h.cell (i := 3) (by simp)
def cntL (left : Int → Bool) : List (Int × Value) → Nat
  | [] => 0
  | p :: L => (if left p.1 = true then 1 else 0) + cntL left L
theorem cntL_le (left : Int → Bool) (x : Int × Value) : ∀ L : List (Int × Value), cntL (fun k => left k && !(k == x.1)) L ≤ cntL left L := by
  intro L
  induction L with
  | nil => exact Nat.le_refl _
  | cons p L ih =>
    unfold cntL
    cases h1 : left p.1 <;> cases h2 : (p.1 == x.1) <;> simp only [Bool.true_and, Bool.false_and, Bool.not_true, Bool.not_false, if_pos, Bool.false_eq_true, if_false] <;> omega
theorem cntL_less {left : Int → Bool} {x : Int × Value} : ∀ {L : List (Int × Value)}, x ∈ L → left x.1 = true → cntL (fun k => left k && !(k == x.1)) L < cntL left L := by
  intro L
  induction L with
  | nil => intro h; cases h
  | cons p L ih =>
    intro h hx
    unfold cntL
    rcases List.mem_cons.1 h with rfl | h
    · have := cntL_le left x L
      have e : (left x.1 && !(x.1 == x.1)) = false := by simp
      rw [if_neg (by rw [e]; simp), if_pos hx]
      omega
    · have := ih h hx
      have h3 : (if (left p.1 && !(p.1 == x.1)) = true then 1 else 0) ≤ (if left p.1 = true then 1 else 0) := by
        cases left p.1 <;> cases (p.1 == x.1) <;> simp
      omega
theorem nodup_le {α : Type} [DecidableEq α] : ∀ {a b : List α}, a.Nodup → (∀ x ∈ a, x ∈ b) → a.length ≤ b.length := by
  intro a
  induction a with
  | nil => intro b _ _; exact Nat.zero_le _
  | cons x a ih =>
    intro b hn h
    rw [List.nodup_cons] at hn
    have hx := h x List.mem_cons_self
    have h2 := ih (b := b.erase x) hn.2 fun y hy => (List.mem_erase_of_ne (fun e => hn.1 (by rw [← e]; exact hy))).2 (h y (List.mem_cons_of_mem _ hy))
    have h3 := List.length_erase_of_mem hx
    have h4 : 0 < b.length := List.length_pos_of_mem hx
    rw [List.length_cons]
    omega
theorem Coll.strict {l : Pol} {L : List (Int × Value)} {left : Int → Bool} {M M' : List Trm} (h : Coll l L left M) (hp : M'.Perm M) (ho : M'.Pairwise fun a b => ¬ ltK b.1.toNat a.1.toNat) : M'.Pairwise fun a b => ltK a.1.toNat b.1.toNat := by
  have hnd : (M'.map Prod.fst).Nodup := (hp.map Prod.fst).nodup_iff.2 h.2.1
  have hs : ∀ t ∈ M', ∃ s : Nat, t.1 = s := fun t ht => by
    obtain ⟨s, e, _⟩ := h.1 t (hp.mem_iff.1 ht)
    exact ⟨s, by rw [e]⟩
  rw [List.pairwise_iff_getElem] at ho ⊢
  intro i j hi hj hij
  rcases ltK_total M'[i].1.toNat M'[j].1.toNat with h1 | h1 | h1
  · exact h1
  · exfalso
    obtain ⟨s, e1⟩ := hs M'[i] (List.getElem_mem _)
    obtain ⟨t, e2⟩ := hs M'[j] (List.getElem_mem _)
    rw [e1, e2] at h1
    have h1 : s = t := by simpa using h1
    have h2 : (M'.map Prod.fst)[i]'(by simpa using hi) = (M'.map Prod.fst)[j]'(by simpa using hj) := by simp only [List.getElem_map]; rw [e1, e2, h1]
    have := (List.getElem_inj hnd).1 h2
    omega
  · exact absurd h1 (ho i j hi hj hij)
theorem Coll.eq {l : Pol} {L : List (Int × Value)} {left : Int → Bool} {M M' : List Trm} (h : Coll l L left M) (h0 : ∀ p ∈ L, left p.1 = false) (hk : ∀ t ∈ l, ∃ p ∈ L, p.1 = (t.1 : Int)) (hp : M'.Perm M) (ho : M'.Pairwise fun a b => ¬ ltK b.1.toNat a.1.toNat) : M' = polT (normP l) :=
  h.done h0 hk (fun _ => hp.mem_iff) (h.strict hp ho)
theorem Coll.len {l : Pol} {L : List (Int × Value)} {left : Int → Bool} {M : List Trm} (h : Coll l L left M) (h0 : ∀ p ∈ L, left p.1 = false) (hk : ∀ t ∈ l, ∃ p ∈ L, p.1 = (t.1 : Int)) : (normP l).length = M.length := by
  have hp := List.mergeSort_perm M fun a b => !(decide (cmpK b.1.toNat a.1.toNat < 0))
  have ho := List.pairwise_mergeSort (le := fun a b : Trm => !(decide (cmpK b.1.toNat a.1.toNat < 0))) (fun a b c h1 h2 => by
    simp only [Bool.not_eq_true', decide_eq_false_iff_not, cmpK_lt] at *
    intro h3
    rcases ltK_total b.1.toNat a.1.toNat with h4 | h4 | h4
    · exact h1 h4
    · rw [← h4] at h3; exact h2 h3
    · exact h2 (ltK_tr _ _ _ h3 h4)) (fun a b => by
    by_cases h1 : cmpK b.1.toNat a.1.toNat < 0
    · have h2 : ¬ cmpK a.1.toNat b.1.toNat < 0 := by
        rw [cmpK_lt] at *
        intro h3; exact ltK_irr _ (ltK_tr _ _ _ h1 h3)
      simp [h2]
    · simp [h1]) M
  have e := h.eq h0 hk hp (ho.imp fun {a b} h1 => by simpa only [Bool.not_eq_true', decide_eq_false_iff_not, cmpK_lt] using h1)
  rw [← polT_len (normP l), ← e]
  exact hp.length_eq
/-- A polynomial that is returned, or the error of too many terms. -/
def TRes (w' : World) (e : Ending) (r : Option Pol) : Prop :=
  match r with
  | some p => ∃ v, e = .returned (.tuple #[v, .nilIface]) ∧ TrmsAt w' v (polT p)
  | none => e = .returned (.tuple #[.slice none 0 0, errV 4])
set_option maxRecDepth 100000 in
set_option maxHeartbeats 8000000 in
theorem sterms_any (b : Nat) (l : Pol) (w : World) (h : SumAt w b l) (h24 : ∀ t ∈ l, t.1 < 16777216) (hsh : ∀ s, (canR (coef l s)).Short 34359738368) (hll : l.length ≤ 16777216) :
    Calls Tryz.prog 56 #[.map (some b)] w fun e w' => TRes w' e (fitP (normP l)) ∧ Kept w w' := by
  obtain ⟨L, hL, hE, hK⟩ := h
  have HL := Lib.hid hL
  have HE := Lib.hid hE
  have HKY := Lib.hid hK
  have H24 := Lib.hid h24
  have HSH := Lib.hid hsh
  have HSG : Hid (∀ s W u, RatAt W u (canR (coef l s)) → Calls Tryz.prog 37 #[u] W fun e w' => e = .returned (.int .i64 (sgnR (coef l s))) ∧ Kept W w') := Lib.hid fun s W u hu => by
    have h := rsign_any u _ W hu ⟨Nat.le_trans (hsh s).1 (by omega), Nat.le_trans (hsh s).2 (by omega)⟩
    rw [ratOf_can] at h
    exact h
  have HLEN : Hid (∀ left M, Coll l L left M → M.length ≤ 16777216) := Lib.hid fun left M hc => by
    have hnd := hc.2.1
    have hsub : ∀ x ∈ M.map Prod.fst, x ∈ l.map fun t => (t.1 : Int) := fun x hx => by
      obtain ⟨t, ht, rfl⟩ := List.mem_map.1 hx
      obtain ⟨s, e, hne, _⟩ := hc.1 t ht
      refine Classical.byContradiction fun hn => hne (coef_none fun u hu e2 => hn (List.mem_map.2 ⟨u, hu, by rw [e, e2]⟩))
    have h2 := nodup_le hnd hsub
    simp only [List.length_map] at h2
    exact Nat.le_trans h2 hll
  have HKB : Hid (∀ p ∈ L, ∃ (s : Nat) (v : Value), p = ((s : Int), v) ∧ s < 16777216 ∧ RatAt w v (canR (coef l s))) := Lib.hid fun p hp => by
    obtain ⟨t, ht, e, hr⟩ := hE p hp
    exact ⟨t.1, p.2, by rw [← e], h24 t ht, hr⟩
  clear hL hE hK h24 hsh hll
  go_enter Tryz.func56, Tryz.ntmps56
  go_wp2_with (at_range; refine range_sum rfl _ rfl b L rfl HL.out ?_; intro w1 hr1 hg1 hs1)
  go_frame
  have HK1 : Hid (Kept w w1) := Lib.hid ⟨hg1.os, hg1.tape, hg1.output, hg1.size, fun i hi => hg1.block i hi (by simp)⟩
  have HR1 := Lib.hid hr1
  have HZ1 := Lib.hid hs1
  clear hg1 hr1 hs1
  go_loopg [4] (cntL (fun _ => true) L) (fun kx s4 wr => ∃ (left : Int → Bool) (M : List Trm), cntL left L ≤ kx ∧ Hid (RangeInt wr b w.heap.size L left) ∧ Hid (Coll l L left M) ∧ Hid (OwnTrms wr (w.heap.size + 1) s4 M) ∧ Hid (Kept w wr) ∧ Hid (w.heap.size < wr.heap.size))
  case atStart => exact ⟨_, [], Nat.le_refl _, HR1, Lib.hid (Coll.start l L), Lib.hid (OwnTrms.nil _ _), HK1, HZ1⟩
  case round =>
    obtain ⟨left, M, hcnt, HR, HC, HO, HKr, HZ⟩ := hrel
    obtain ⟨wi, rfl⟩ : ∃ wi : World, wi = wr := ⟨_, rfl⟩
    obtain ⟨sa, sc, rfl⟩ := HO.out.at.shape
    have hml := HLEN.out _ _ HC.out
    obtain ⟨m, hm⟩ : ∃ m, m = M.length := ⟨_, rfl⟩
    rw [← hm] at HO hml ⊢
    have HM := Lib.hid hm
    clear hm
    go_wp2_with (at_next; refine next_sum rfl _ rfl b w.heap.size L left rfl HR.out ?_ ?_)
    · intro hd0
      have hd : ∀ p ∈ L, left p.1 = false := fun p hp => hd0 p.1 p.2 hp
      have hlen := HC.out.len hd HKY.out
      rw [← HM.out] at hlen
      by_cases h4 : m ≤ 4096
      · have h4i : ¬ (4096 : Int) < (m : Int) := by omega
        have HFT : Hid (fitP (normP l) = some (normP l)) := Lib.hid (by unfold fitP; rw [if_pos (by omega)])
        have HSO := Lib.hid (sortTrms_any (w.heap.size + 1) _ M wi HO.out (fun t ht => by
          obtain ⟨s, e, hne, _⟩ := HC.out.1 t ht
          refine ⟨s, by rw [e], ?_⟩
          refine Classical.byContradiction fun hn => hne (coef_none fun u hu e2 => hn (by have := H24.out u hu; omega))) (by have := HZ.out; omega))
        have HEQ : Hid (∀ M' : List Trm, M'.Perm M → M'.Pairwise (fun a b => ¬ ltK b.1.toNat a.1.toNat) → M' = polT (normP l)) := Lib.hid fun M' h1 h2 => HC.out.eq hd HKY.out h1 h2
        clear hd hd0 hlen
        go_wp2_with fail
        refine HSO.out.mono ?_
        rintro e w3 ⟨rfl, M', hp, ho, hown, hb⟩
        have HE3 := Lib.hid (HEQ.out M' hp ho)
        have HO3 := Lib.hid hown
        have HK3 := Lib.hid (HKr.out.app (Below.mono hb (Nat.le_succ _)))
        clear hp ho hown hb
        go_wp2
        go_ret2
        refine ⟨?_, HK3.out⟩
        rw [HFT.out]
        exact ⟨_, rfl, by rw [← HE3.out]; exact HO3.out.at⟩
      · have h4i : (4096 : Int) < (m : Int) := by omega
        have HFT : Hid (fitP (normP l) = none) := Lib.hid (by unfold fitP; rw [if_neg (by omega)])
        clear hd hd0 hlen
        go_wp2
        go_ret2
        refine ⟨?_, HKr.out⟩
        rw [HFT.out]
        rfl
    · intro pk pv hp hl w2 hr2 hg2 hen
      obtain ⟨s, v, e, hs24, hv⟩ := HKB.out (pk, pv) hp
      cases e
      have hk2 := kept_ne HKr.out hg2 (Nat.le_refl _)
      have ho2 := HO.out.older (Nat.lt_succ_self _) HR.out.noW (grown_only hg2)
      have hz2 : w.heap.size < w2.heap.size := Nat.lt_of_lt_of_le HZ.out hg2.size
      obtain ⟨R, hRe⟩ : ∃ R, R = canR (coef l s) := ⟨_, rfl⟩
      have HRE := Lib.hid hRe
      rw [← hRe] at hv
      obtain ⟨u1, u2, rfl, hw1, hw2⟩ := hv
      obtain ⟨a1, c1, rfl⟩ := hw1.shape
      obtain ⟨a2, c2, rfl⟩ := hw2.shape
      have hen2 := hen w2 rfl rfl
      obtain ⟨w3, hw3⟩ : ∃ w3, w3 = w2.alloc (.cells #[.bool R.neg, .slice a1 R.num.length c1, .slice a2 R.den.length c2] 38) := ⟨_, rfl⟩
      have hk3 : Kept w2 w3 := by rw [hw3]; exact (Kept.refl _).alloc _
      have HX3 : Hid (RowAt w3 w2.heap.size 38 [.bool R.neg, .slice a1 R.num.length c1, .slice a2 R.den.length c2]) := Lib.hid (by rw [hw3]; exact RowAt.made w2 #[.bool R.neg, .slice a1 R.num.length c1, .slice a2 R.den.length c2] 38)
      have HC3 : Hid (RatCell w3 w2.heap.size R) := Lib.hid (by rw [hw3]; exact RatCell.made (hw1.kept hk2) (hw2.kept hk2))
      have HV3 : Hid (RatAt w3 (.agg #[.bool R.neg, .slice a1 R.num.length c1, .slice a2 R.den.length c2]) R) := Lib.hid ⟨_, _, rfl, hw1.kept (hk2.trans hk3), hw2.kept (hk2.trans hk3)⟩
      have HWW := Lib.hid (And.intro hw1 hw2)
      have HW3 := Lib.hid hw3
      have HK2 := Lib.hid hk2
      have HK23 := Lib.hid hk3
      have HO2 := Lib.hid ho2
      have HR2 := Lib.hid hr2
      have HZ2 := Lib.hid hz2
      have HCN := Lib.hid (cntL_less (x := ((s : Int), .agg #[.bool R.neg, .slice a1 R.num.length c1, .slice a2 R.den.length c2])) hp hl)
      have HPL := Lib.hid hl
      obtain ⟨S, hS⟩ : ∃ S, S = sgnR (coef l s) := ⟨_, rfl⟩
      have HSI : Hid (∀ W u, RatAt W u R → Calls Tryz.prog 37 #[u] W fun e w' => e = .returned (.int .i64 S) ∧ Kept W w') := Lib.hid fun W u hu => by rw [hS]; exact HSG.out s W u (by rw [← HRE.out]; exact hu)
      have hS0 : S = 0 ↔ coef l s = 0 := by
        rw [hS]
        unfold sgnR
        constructor
        · intro h
          refine Classical.byContradiction fun hn => ?_
          rw [if_neg hn] at h
          split at h <;> cases h
        · intro h; rw [if_pos h]
      have HS0 := Lib.hid hS0
      clear hRe hw1 hw2 hw3 hk2 hk3 ho2 hr2 hz2 hg2 hen hp hl hS hS0
      go_wp2_with fail
      rw [← HW3.out]
      refine (HSI.out _ _ HV3.out).mono ?_
      rintro e w4 ⟨rfl, hk4⟩
      have HK4 := Lib.hid (HK23.out.trans hk4)
      have HX4 := Lib.hid (HX3.out.kept hk4)
      clear hk4 hen2
      by_cases hz : S = 0
      · have hzb : (S == 0) = true := by rw [hz]; rfl
        have hzn : (S != 0) = false := by rw [hz]; rfl
        go_wp2_with fail
        go_roundg (cntL (fun k => left k && !(k == (s : Int))) L)
        case measure => exact Nat.lt_of_lt_of_le HCN.out hcnt
        case rel => exact ⟨_, M, Nat.le_refl _, Lib.hid (HR2.out.same (HK4.out.block b (Nat.lt_trans HL.out.lt HZ2.out)) (HK4.out.block _ HZ2.out)), Lib.hid (HC.out.skip (HS0.out.1 hz)), Lib.hid (HO2.out.kept HK4.out), Lib.hid (HK2.out.trans HK4.out), Lib.hid (Nat.lt_of_lt_of_le HZ2.out HK4.out.size)⟩
      · have hzb : (S == 0) = false := by rw [beq_eq_false_iff_ne]; exact hz
        have hzn : (S != 0) = true := by rw [bne_iff_ne]; exact hz
        obtain ⟨x0, x1, x2⟩ := row3_at HX4.out
        have HO5 : Hid (OwnTrms (w4.alloc (.cells #[.int .i64 s, .bool R.neg, .slice a1 R.num.length c1, .slice a2 R.den.length c2] 83)) (w.heap.size + 1) (.slice sa m sc) M) := Lib.hid (HO2.out.kept (HK4.out.alloc _))
        have HWA : Hid (WdsAt (w4.alloc (.cells #[.int .i64 s, .bool R.neg, .slice a1 R.num.length c1, .slice a2 R.den.length c2] 83)) (.slice a1 R.num.length c1) R.num) := Lib.hid (HWW.out.1.kept (HK2.out.trans (HK4.out.alloc _)))
        have HWB : Hid (WdsAt (w4.alloc (.cells #[.int .i64 s, .bool R.neg, .slice a1 R.num.length c1, .slice a2 R.den.length c2] 83)) (.slice a2 R.den.length c2) R.den) := Lib.hid (HWW.out.2.kept (HK2.out.trans (HK4.out.alloc _)))
        have HSZ : Hid (w.heap.size + 1 ≤ w4.heap.size) := Lib.hid (Nat.lt_of_lt_of_le HZ2.out HK4.out.size)
        have HML : Hid (M.length < 1099511627776) := Lib.hid (by rw [← HM.out]; omega)
        go_wp2_with (at_builtin; refine app_trm rfl _ _ rfl (w.heap.size + 1) _ M rfl HO5.out w4.heap.size ((s : Int), R) _ _ rfl (range_made4 _ _ _ _ _ _) HWA.out HWB.out HML.out (by have := HSZ.out; simp; omega) ?_; intro v8 w8 hown8 hb8; have HO8 := Lib.hid hown8; have HB8 := Lib.hid hb8; clear hown8 hb8)
        go_roundg (cntL (fun k => left k && !(k == (s : Int))) L)
        case measure => exact Nat.lt_of_lt_of_le HCN.out hcnt
        case rel =>
          have hK := HK4.out.alloc (.cells #[.int .i64 s, .bool R.neg, .slice a1 R.num.length c1, .slice a2 R.den.length c2] 83)
          refine ⟨_, _, Nat.le_refl _, Lib.hid (HR2.out.same ((HB8.out.block b (Nat.lt_succ_of_lt HL.out.lt)).trans (hK.block b (Nat.lt_trans HL.out.lt HZ2.out))) ((HB8.out.block _ (Nat.lt_succ_self _)).trans (hK.block _ HZ2.out))), Lib.hid (HC.out.more (fun h => hz (HS0.out.2 h)) HPL.out), Lib.hid (by rw [← HRE.out]; exact HO8.out), Lib.hid ((HK2.out.trans hK).app (Below.mono HB8.out (Nat.le_succ _))), Lib.hid ?_⟩
          exact Nat.lt_of_lt_of_le (Nat.lt_of_lt_of_le HZ2.out hK.size) HB8.out.size
end Go.Proofs.YtpaedhlacbpmpaaGreatDoor

/-
  Plain: accepted lists of terms are polynomials; how long the coefficients of sums become.
-/
namespace Go.Proofs.YtpaedhlacbpmpaaGreatDoor
open Go.RowKit

theorem sgnR_zero {q : Rat} : sgnR q = 0 ↔ q = 0 := by
  unfold sgnR
  constructor
  · intro h
    refine Classical.byContradiction fun hn => ?_
    rw [if_neg hn] at h
    split at h <;> cases h
  · intro h; rw [if_pos h]
theorem coef_short {c : Nat} (hc : 1 ≤ c) {s : Nat} : ∀ {l : Pol}, (∀ t ∈ l, (canR t.2).Short c) → (canR (coef l s)).Short ((c + 1) * l.length + 1) := by
  intro l
  induction l with
  | nil => intro _; exact ⟨Nat.zero_le _, Nat.zero_le _⟩
  | cons t l ih =>
    intro h
    rw [List.length_cons, Nat.mul_succ]
    have ih := ih (fun u hu => h u (List.mem_cons_of_mem _ hu))
    rw [coef_cons]
    have ht := h t List.mem_cons_self
    by_cases e : t.1 = s
    · rw [if_pos e]
      have h2 := short_add (canR_ok t.2) (canR_ok (coef l s)) ht ih hc (by omega)
      rw [ratOf_can, ratOf_can] at h2
      exact ⟨Nat.le_trans h2.1 (by omega), Nat.le_trans h2.2 (by omega)⟩
    · rw [if_neg e, Rat.zero_add]
      exact ⟨Nat.le_trans ih.1 (by omega), Nat.le_trans ih.2 (by omega)⟩
/-- A polynomial that is accepted. -/
structure Acc (p : Pol) : Prop where
  can : CanP p
  len : p.length ≤ 4096
  bit : ∀ t ∈ p, t.1 < 16777216
theorem polT_get {p : Pol} {i : Nat} (h : i < p.length) : (polT p).getD i default = ((p[i].1 : Int), canR p[i].2) := by
  simp [List.getD_eq_getElem?_getD, polT, h]
theorem nodeT_pol {p : Pol} (h : Acc p) {i : Nat} (hi : i < p.length) : nodeT (polT p) i = 0 := by
  have hb := h.bit p[i] (List.getElem_mem _)
  unfold nodeT
  rw [polT_get hi]
  simp only
  rw [if_neg (by simp; omega), canR_valid, if_neg (by simp), ratOf_can, if_neg (fun e => h.can.2 p[i] (List.getElem_mem _) (sgnR_zero.1 e)), if_neg]
  rintro ⟨h0, h1⟩
  refine h1 ?_
  rw [polT_get (i := i - 1) (by omega)]
  have := List.pairwise_iff_getElem.1 h.can.1 (i - 1) i (by omega) hi (by omega)
  simpa using this
theorem chkT_pol {p : Pol} (h : Acc p) : chkT (polT p) = 0 := by
  unfold chkT
  rw [if_neg (by rw [polT_len]; have := h.len; omega)]
  have go : ∀ k i, i + k ≤ p.length → firstT (polT p) k i = 0 := by
    intro k
    induction k with
    | zero => intro i _; rfl
    | succ k ih =>
      intro i hi
      unfold firstT
      rw [if_pos (nodeT_pol h (by omega))]
      exact ih (i + 1) (by omega)
  exact go _ 0 (by rw [polT_len]; omega)
/-- What Check accepts is a polynomial. -/
theorem pol_chkT {ts : List Trm} (ho : ∀ t ∈ ts, t.2.Ok) (h : chkT ts = 0) : ts = polT (ts.map trmP) ∧ Acc (ts.map trmP) := by
  unfold chkT at h
  by_cases hl : 4096 < ts.length
  · rw [if_pos hl] at h; cases h
  rw [if_neg hl] at h
  have hn : ∀ i, i < ts.length → nodeT ts i = 0 := fun i hi => firstT_zero h i (Nat.zero_le _) (by omega)
  have hg : ∀ i (hi : i < ts.length), ts.getD i default = ts[i] := fun i hi => by simp [List.getD_eq_getElem?_getD, hi]
  have h1 : ∀ i (hi : i < ts.length), (0 ≤ ts[i].1 ∧ ts[i].1 ≤ 16777215) ∧ validR ts[i].2 = true ∧ ratOf ts[i].2 ≠ 0 ∧ (0 < i → ltK (ts.getD (i - 1) default).1.toNat ts[i].1.toNat) := fun i hi => by
    have h2 := hn i hi
    unfold nodeT at h2
    rw [hg i hi] at h2
    by_cases k1 : 0 ≤ ts[i].1 ∧ ts[i].1 ≤ 16777215
    · rw [if_neg (by simp; omega)] at h2
      cases k2 : validR ts[i].2 with
      | false => rw [k2, if_pos rfl] at h2; cases h2
      | true =>
        rw [k2, if_neg (by simp)] at h2
        by_cases k3 : sgnR (ratOf ts[i].2) = 0
        · rw [if_pos k3] at h2; cases h2
        · rw [if_neg k3] at h2
          refine ⟨k1, rfl, fun e => k3 (sgnR_zero.2 e), fun h0 => ?_⟩
          refine Classical.byContradiction fun hn => ?_
          rw [if_pos ⟨h0, hn⟩] at h2; cases h2
    · rw [decide_eq_false k1, if_pos rfl] at h2; cases h2
  have hadj : ∀ i (hi : i + 1 < ts.length), ltK ts[i].1.toNat ts[i + 1].1.toNat := fun i hi => by
    have := (h1 (i + 1) hi).2.2.2 (by omega)
    rw [show i + 1 - 1 = i by omega, hg i (by omega)] at this
    exact this
  have hlt : ∀ k i (hi : i + k + 1 < ts.length), ltK ts[i].1.toNat ts[i + k + 1].1.toNat := by
    intro k
    induction k with
    | zero => intro i hi; exact hadj i hi
    | succ k ih => intro i hi; exact ltK_tr _ _ _ (ih i (by omega)) (hadj (i + k + 1) hi)
  refine ⟨?_, ⟨?_, fun t ht => ?_⟩, by rw [List.length_map]; omega, fun t ht => ?_⟩
  · unfold polT
    rw [List.map_map]
    refine (List.ext_getElem (by simp) fun i hi _ => ?_)
    rw [List.getElem_map]
    obtain ⟨k1, k2, _⟩ := h1 i hi
    show ts[i] = (((ts[i].1.toNat : Nat) : Int), canR (ratOf ts[i].2))
    rw [can_ratOf (ho _ (List.getElem_mem _)) k2, Int.toNat_of_nonneg k1.1]
  · rw [List.pairwise_map, List.pairwise_iff_getElem]
    intro i j hi hj hij
    have := hlt (j - i - 1) i (by omega)
    simp only [show i + (j - i - 1) + 1 = j by omega] at this
    exact this
  · obtain ⟨u, hu, rfl⟩ := List.mem_map.1 ht
    obtain ⟨i, hi, rfl⟩ := List.getElem_of_mem hu
    exact (h1 i hi).2.2.1
  · obtain ⟨u, hu, rfl⟩ := List.mem_map.1 ht
    obtain ⟨i, hi, rfl⟩ := List.getElem_of_mem hu
    have := (h1 i hi).1
    show ts[i].1.toNat < 16777216
    omega
end Go.Proofs.YtpaedhlacbpmpaaGreatDoor

/-
  Walks: both, given. Printed by gen_PC1.py.
-/
namespace Go.Proofs.YtpaedhlacbpmpaaGreatDoor
open Go.RowKit Go.Maps

/-- The error of two lists of terms. -/
def bothE (ts us : List Trm) : Nat := if chkT ts = 0 then chkT us else chkT ts
def ShT (c : Nat) (ts : List Trm) : Prop := ∀ t ∈ ts, t.2.Short c
def ShP (c : Nat) (p : Pol) : Prop := ∀ t ∈ p, (canR t.2).Short c
theorem ShP.t {c : Nat} {p : Pol} (h : ShP c p) : ShT c (polT p) := fun t ht => by
  unfold polT at ht
  obtain ⟨u, hu, rfl⟩ := List.mem_map.1 ht
  exact h u hu
theorem ShP.mono {c d : Nat} {p : Pol} (h : ShP c p) (hcd : c ≤ d) : ShP d p := fun t ht => ⟨Nat.le_trans (h t ht).1 hcd, Nat.le_trans (h t ht).2 hcd⟩
set_option maxRecDepth 100000 in
theorem both_any (v u : Value) (ts us : List Trm) (w : World) (hv : TrmsAt w v ts) (hu : TrmsAt w u us) (h1 : ShT 34359738368 ts) (h2 : ShT 34359738368 us) : Calls Tryz.prog 54 #[v, u] w fun e w' => e = .returned (errV (bothE ts us)) ∧ Kept w w' := by
  have HC1 : Hid (Calls Tryz.prog 21 #[v] w fun e w' => e = .returned (errV (chkT ts)) ∧ Kept w w') := Lib.hid (pcheck20_any v ts w hv h1)
  have HC2 : Hid (∀ W, Kept w W → Calls Tryz.prog 21 #[u] W fun e w' => e = .returned (errV (chkT us)) ∧ Kept W w') := Lib.hid fun W h => pcheck20_any u us W (hu.kept h) h2
  obtain ⟨q1, hq1⟩ : ∃ q, q = chkT ts := ⟨_, rfl⟩
  obtain ⟨q2, hq2⟩ : ∃ q, q = chkT us := ⟨_, rfl⟩
  unfold bothE
  rw [← hq1, ← hq2]
  rw [← hq1] at HC1
  rw [← hq2] at HC2
  clear hq1 hq2 hv hu h1 h2
  by_cases h0 : q1 = 0
  · rw [if_pos h0]
    rw [h0, errV_zero] at HC1
    obtain ⟨ev, hev⟩ : ∃ ev, ev = errV q2 := ⟨_, rfl⟩
    rw [← hev] at HC2 ⊢
    clear h0 hev
    go_enter Tryz.func54, Tryz.ntmps54
    go_wp2_with fail
    refine HC1.out.mono ?_
    rintro e w1 ⟨rfl, hk1⟩
    go_wp2_with fail
    refine (HC2.out _ hk1).mono ?_
    rintro e w2 ⟨rfl, hk2⟩
    go_wp2
    go_ret
    exact ⟨rfl, hk1.trans hk2⟩
  · rw [if_neg h0]
    rw [errV_pos h0] at HC1 ⊢
    clear h0
    go_enter Tryz.func54, Tryz.ntmps54
    go_wp2_with fail
    refine HC1.out.mono ?_
    rintro e w1 ⟨rfl, hk1⟩
    go_wp2
    go_ret
    exact ⟨rfl, hk1⟩
/-- The error of a list of terms and an event. -/
def givenE (ts : List Trm) (i : Int) : Nat := if chkT ts = 0 then (if i < 0 ∨ 24 ≤ i then 10 else 0) else chkT ts
set_option maxRecDepth 100000 in
theorem given_any (v : Value) (ts : List Trm) (i : Int) (w : World) (hv : TrmsAt w v ts) (h1 : ShT 34359738368 ts) : Calls Tryz.prog 72 #[v, .int .i64 i] w fun e w' => e = .returned (errV (givenE ts i)) ∧ Kept w w' := by
  have HC1 : Hid (Calls Tryz.prog 21 #[v] w fun e w' => e = .returned (errV (chkT ts)) ∧ Kept w w') := Lib.hid (pcheck20_any v ts w hv h1)
  obtain ⟨q1, hq1⟩ : ∃ q, q = chkT ts := ⟨_, rfl⟩
  unfold givenE
  rw [← hq1]
  rw [← hq1] at HC1
  clear hq1 hv h1
  by_cases h0 : q1 = 0
  · rw [if_pos h0]
    rw [h0, errV_zero] at HC1
    clear h0
    by_cases hi : i < 0
    · rw [if_pos (.inl hi)]
      go_enter Tryz.func72, Tryz.ntmps72
      go_wp2_with fail
      refine HC1.out.mono ?_
      rintro e w1 ⟨rfl, hk1⟩
      go_wp2
      go_ret
      exact ⟨rfl, hk1⟩
    · by_cases hi2 : 24 ≤ i
      · rw [if_pos (.inr hi2)]
        go_enter Tryz.func72, Tryz.ntmps72
        go_wp2_with fail
        refine HC1.out.mono ?_
        rintro e w1 ⟨rfl, hk1⟩
        go_wp2
        go_ret
        exact ⟨rfl, hk1⟩
      · rw [if_neg (by omega)]
        go_enter Tryz.func72, Tryz.ntmps72
        go_wp2_with fail
        refine HC1.out.mono ?_
        rintro e w1 ⟨rfl, hk1⟩
        go_wp2
        go_ret
        exact ⟨rfl, hk1⟩
  · rw [if_neg h0]
    rw [errV_pos h0] at HC1 ⊢
    clear h0
    go_enter Tryz.func72, Tryz.ntmps72
    go_wp2_with fail
    refine HC1.out.mono ?_
    rintro e w1 ⟨rfl, hk1⟩
    go_wp2
    go_ret
    exact ⟨rfl, hk1⟩
theorem TrmsAt.ok {w : World} {v : Value} {ts : List Trm} (h : TrmsAt w v ts) : ∀ t ∈ ts, t.2.Ok := fun t ht => by
  obtain ⟨i, hi, rfl⟩ := List.getElem_of_mem ht
  obtain ⟨a, c, _, _, _, h4⟩ := h
  obtain ⟨_, _, _, _, _, _, k1, k2⟩ := h4 i hi
  exact ⟨k1.wd, k2.wd⟩
theorem TrmsAt.nil (w : World) : TrmsAt w (.slice none 0 0) [] := ⟨none, 0, rfl, ⟨by simp, fun _ => rfl⟩, by simp, fun i h => by simp at h⟩
/-- A term of a polynomial that is read. -/
theorem TrmsAt.term {w : World} {a : Option Addr} {n c : Nat} {p : Pol} (h : TrmsAt w (.slice a n c) (polT p)) (i : Nat) (hi : i < p.length) : ∃ b o y1 y2 y3 a1 c1 a2 c2, a = some ⟨b, o, none⟩ ∧
    w.cell? ⟨b, o + i * 4, none⟩ = some (.int .i64 (p[i].1 : Int)) ∧ w.cell? ⟨b, o + i * 4 + 1, none⟩ = some (.bool y1) ∧ w.cell? ⟨b, o + i * 4 + 2, none⟩ = some (.slice a1 y2 c1) ∧ w.cell? ⟨b, o + i * 4 + 3, none⟩ = some (.slice a2 y3 c2) ∧
    Hid (RatAt w (.agg #[.bool y1, .slice a1 y2 c1, .slice a2 y3 c2]) (canR p[i].2)) := by
  have h2 := h.read i (by rw [polT_len]; exact hi)
  rw [polT_get hi] at h2
  exact h2
end Go.Proofs.YtpaedhlacbpmpaaGreatDoor

/-
  Walk: Add of two polynomials. Printed by gen_PC1.py.
-/
namespace Go.Proofs.YtpaedhlacbpmpaaGreatDoor
open Go.RowKit Go.Maps

/-- add of a term, the coefficients short. -/
theorem sadd_step {b s : Nat} {l : Pol} {x : Rat} {w : World} {u : Value} (h : SumAt w b l) (hu : RatAt w u (canR x)) (hl : ShP 2000 l) (hn : l.length ≤ 16777216) (hx : (canR x).Short 2000) :
    Calls Tryz.prog 55 #[.map (some b), .int .i64 s, u] w fun e w' => e = .returned (.tuple #[]) ∧ SumAt w' b (l ++ [(s, x)]) ∧ OnlyAt b w w' := by
  have hc := coef_short (c := 2000) (by decide) (s := s) hl
  have hm : 2001 * l.length ≤ 2001 * 16777216 := Nat.mul_le_mul_left _ hn
  have h1 := sadd_any b s u (canR x) l w h hu ⟨Nat.le_trans hc.1 (by omega), Nat.le_trans hc.2 (by omega)⟩ ⟨Nat.le_trans hx.1 (by omega), Nat.le_trans hx.2 (by omega)⟩
  rw [ratOf_can] at h1
  exact h1
theorem sterms_step {b : Nat} {l : Pol} {w : World} (h : SumAt w b l) (hb : ∀ t ∈ l, t.1 < 16777216) (hl : ShP 2000 l) (hn : l.length ≤ 16777216) :
    Calls Tryz.prog 56 #[.map (some b)] w fun e w' => TRes w' e (fitP (normP l)) ∧ Kept w w' := by
  have hm : 2001 * l.length ≤ 2001 * 16777216 := Nat.mul_le_mul_left _ hn
  exact sterms_any b l w h hb (fun s => by
    have hc := coef_short (c := 2000) (by decide) (s := s) hl
    exact ⟨Nat.le_trans hc.1 (by omega), Nat.le_trans hc.2 (by omega)⟩) hn
theorem ShP.take {c : Nat} {p : Pol} (h : ShP c p) (j : Nat) : ShP c (p.take j) := fun t ht => h t (List.mem_of_mem_take ht)
theorem ShP.app {c : Nat} {p q : Pol} (h : ShP c p) (k : ShP c q) : ShP c (p ++ q) := fun t ht => by
  rcases List.mem_append.1 ht with ht | ht
  · exact h t ht
  · exact k t ht
theorem mem_negT {p : Pol} {u : Nat × Rat} (h : u ∈ negP p) : ∃ t ∈ p, u = (t.1, - t.2) := mem_negP h
theorem ShP.neg {c : Nat} {p : Pol} (h : ShP c p) (hc : 1 ≤ c) : ShP c (negP p) := fun t ht => by
  obtain ⟨u, hu, rfl⟩ := mem_negP ht
  have := short_neg (canR_ok u.2) (h u hu) hc
  rw [ratOf_can] at this
  exact this
theorem map_made (w : World) : SumAt (w.alloc (.map #[] 0)) w.heap.size [] := SumAt.made w
set_option maxRecDepth 100000 in
set_option maxHeartbeats 16000000 in
theorem padd_any (v u : Value) (p q : Pol) (w : World) (hp : TrmsAt w v (polT p)) (hq : TrmsAt w u (polT q)) (ha : Acc p) (hb : Acc q) (hsp : ShP 1000 p) (hsq : ShP 1000 q) : Calls Tryz.prog 13 #[v, u] w fun e w' => TRes w' e (addO p q) ∧ Kept w w' := by
  have HCH : Hid (Calls Tryz.prog 54 #[v, u] w fun e w' => e = .returned .nilIface ∧ Kept w w') := Lib.hid (by
    have h := both_any v u (polT p) (polT q) w hp hq (hsp.mono (by omega)).t (hsq.mono (by omega)).t
    unfold bothE at h
    rw [chkT_pol ha, if_pos rfl, chkT_pol hb, errV_zero] at h
    exact h)
  obtain ⟨R, hR⟩ : ∃ R, R = addO p q := ⟨_, rfl⟩
  have HRE := Lib.hid hR
  rw [← hR]
  obtain ⟨a, ac, rfl⟩ := hp.shape
  obtain ⟨b9, bc, rfl⟩ := hq.shape
  obtain ⟨n, hn⟩ : ∃ n, n = p.length := ⟨_, rfl⟩
  obtain ⟨m, hm⟩ : ∃ m, m = q.length := ⟨_, rfl⟩
  rw [polT_len, ← hn] at hp HCH ⊢
  rw [polT_len, ← hm] at hq HCH ⊢
  have hnl : n ≤ 4096 := by rw [hn]; exact ha.len
  have hml : m ≤ 4096 := by rw [hm]; exact hb.len
  have HP := Lib.hid hp
  have HQ := Lib.hid hq
  have HN := Lib.hid hn
  have HM := Lib.hid hm
  have HSP := Lib.hid hsp
  have HSQ := Lib.hid hsq
  have HBP := Lib.hid ha.bit
  have HBQ := Lib.hid hb.bit
  have HSTEP1 : Hid (∀ j (h : j < p.length), p.take (j + 1) = p.take j ++ [(p[j].1, p[j].2)]) := Lib.hid fun j h => by rw [List.take_succ_eq_append_getElem h]
  have HSH1 : Hid (∀ j, ShP 2000 (p.take j)) := Lib.hid fun j => (hsp.mono (by omega)).take j
  have HLN1 : Hid (∀ j, (p.take j).length ≤ 16777216) := Lib.hid fun j => by have := ha.len; rw [List.length_take]; omega
  have HSTEP2 : Hid (∀ j (h : j < q.length), p ++ q.take (j + 1) = (p ++ q.take j) ++ [(q[j].1, q[j].2)]) := Lib.hid fun j h => by rw [List.take_succ_eq_append_getElem h, List.append_assoc]
  have HSH2 : Hid (∀ j, ShP 2000 (p ++ q.take j)) := Lib.hid fun j => (hsp.mono (by omega)).app ((hsq.mono (by omega)).take j)
  have HLN2 : Hid (∀ j, (p ++ q.take j).length ≤ 16777216) := Lib.hid fun j => by have := ha.len; have := hb.len; rw [List.length_append, List.length_take]; omega
  have HBT : Hid (∀ t ∈ p ++ q, t.1 < 16777216) := Lib.hid fun t ht => by
    rcases List.mem_append.1 ht with h | h
    · exact ha.bit t h
    · exact hb.bit t h
  have HSHT : Hid (ShP 2000 (p ++ q)) := Lib.hid ((hsp.mono (by omega)).app (hsq.mono (by omega)))
  have HLNT : Hid ((p ++ q).length ≤ 16777216) := Lib.hid (by have := ha.len; have := hb.len; rw [List.length_append]; omega)
  clear hp hq ha hb hsp hsq hR hn hm
  go_enter Tryz.func13, Tryz.ntmps13
  have hmm := @run_makeMap Tryz.prog
  go_wp2_with fail
  refine (HCH.out).mono ?_
  rintro e w1 ⟨rfl, hk1⟩
  obtain ⟨w2, hw2⟩ : ∃ w2, w2 = w1.alloc (.map #[] 0) := ⟨_, rfl⟩
  have HS2 : Hid (SumAt w2 w1.heap.size []) := Lib.hid (by rw [hw2]; exact map_made w1)
  have HK2 : Hid (Kept w w2) := Lib.hid (by rw [hw2]; exact hk1.alloc _)
  have HB : Hid (w.heap.size ≤ w1.heap.size) := Lib.hid hk1.size
  have HW2 := Lib.hid hw2
  clear hk1 hw2
  go_wp2_with fail
  rw [← HW2.out]
  go_loopg [21] n (fun kx sj wr => ∃ j : Nat, j ≤ n ∧ sj = .int .i64 j ∧ n - j ≤ kx ∧ Hid (SumAt wr w1.heap.size (p.take j)) ∧ Hid (Kept w wr))
  case atStart => exact ⟨0, Nat.zero_le _, rfl, by omega, Lib.hid (by have h := HS2.out; simpa using h), HK2⟩
  case round =>
    obtain ⟨j, hj, rfl, hjx, HS, HKr⟩ := hrel
    obtain ⟨wi, rfl⟩ : ∃ wi : World, wi = wr := ⟨_, rfl⟩
    by_cases hlt : j < n
    · have hjn : (j : Int) < (n : Int) := by omega
      have hjl : j < p.length := by rw [← HN.out]; exact hlt
      obtain ⟨b, o, y1, y2, y3, a1, c1, a2, c2, rfl, z0, z1, z2, z3, HRT⟩ := (HP.out.kept HKr.out).term j hjl
      obtain ⟨s, hs⟩ : ∃ s, s = p[j].1 := ⟨_, rfl⟩
      obtain ⟨c, hc⟩ : ∃ c, c = p[j].2 := ⟨_, rfl⟩
      have hcs : (canR c).Short 1000 := by rw [hc]; exact HSP.out _ (List.getElem_mem _)
      have hs24 : s < 16777216 := by rw [hs]; exact HBP.out _ (List.getElem_mem _)
      have HST := Lib.hid (HSTEP1.out j hjl)
      rw [← hs, ← hc] at HST
      have HS24 := Lib.hid hs24
      have HCS := Lib.hid hcs
      have HSJ := Lib.hid hs
      rw [← hs] at z0
      rw [← hc] at HRT
      clear hs hc hcs
      obtain ⟨w3, hw3⟩ : ∃ w3, w3 = wi.alloc (.cells #[.int .i64 s, .bool y1, .slice a1 y2 c1, .slice a2 y3 c2] 83) := ⟨_, rfl⟩
      have HX3 : Hid (RowAt w3 wi.heap.size 83 [.int .i64 s, .bool y1, .slice a1 y2 c1, .slice a2 y3 c2]) := Lib.hid (by rw [hw3]; exact RowAt.made wi #[.int .i64 s, .bool y1, .slice a1 y2 c1, .slice a2 y3 c2] 83)
      have HK3 : Hid (Kept wi w3) := Lib.hid (by rw [hw3]; exact (Kept.refl wi).alloc _)
      have HW3 := Lib.hid hw3
      have HS3 := Lib.hid (HS.out.kept HK3.out)
      have HR3 := Lib.hid (HRT.out.kept HK3.out)
      clear hw3
      have HAD : Hid (∀ W u, SumAt W w1.heap.size (p.take j) → RatAt W u (canR c) → Calls Tryz.prog 55 #[.map (some w1.heap.size), .int .i64 s, u] W fun e w' => e = .returned (.tuple #[]) ∧ SumAt w' w1.heap.size (p.take (j + 1)) ∧ OnlyAt w1.heap.size W w') := Lib.hid fun W u h1 h2 => by
        rw [HST.out]
        exact sadd_step h1 h2 (HSH1.out j) (HLN1.out j) (by have h := HCS.out; exact ⟨Nat.le_trans h.1 (by omega), Nat.le_trans h.2 (by omega)⟩)
      go_wp2_with fail
      rw [← HW3.out]
      refine (HAD.out _ _ HS3.out HR3.out).mono ?_
      rintro e w4 ⟨rfl, hs4, ho4⟩
      have HS4 := Lib.hid hs4
      have HK4 := Lib.hid (ho4.toKept (HKr.out.trans HK3.out) HB.out)
      clear hs4 ho4 z0 z1 z2 z3
      go_wp2_with fail
      go_roundg (n - (j + 1))
      case measure => omega
      case rel => exact ⟨j + 1, by omega, by go_num, Nat.le_refl _, HS4, HK4⟩
    · have hjn : ¬ (j : Int) < (n : Int) := by omega
      have hje : j = p.length := by have := HN.out; omega
      have HSP1 : Hid (SumAt wi w1.heap.size p) := Lib.hid (by have h := HS.out; rw [hje, List.take_length] at h; exact h)
      obtain ⟨wo, rfl⟩ : ∃ wo : World, wo = wi := ⟨_, rfl⟩
      have HKo := HKr
      clear hje hj hjx hlt HS HKr
      go_wp2_with fail
      go_loopg [34] m (fun kx sj wr => ∃ j : Nat, j ≤ m ∧ sj = .int .i64 j ∧ m - j ≤ kx ∧ Hid (SumAt wr w1.heap.size (p ++ q.take j)) ∧ Hid (Kept w wr))
      case atStart => exact ⟨0, Nat.zero_le _, rfl, by omega, Lib.hid (by have h := HSP1.out; simpa using h), HKo⟩
      case round =>
        obtain ⟨j, hj, rfl, hjx, HS, HKr⟩ := hrel
        obtain ⟨wi, rfl⟩ : ∃ wi : World, wi = wr := ⟨_, rfl⟩
        by_cases hlt : j < m
        · have hjn : (j : Int) < (m : Int) := by omega
          have hjl : j < q.length := by rw [← HM.out]; exact hlt
          obtain ⟨b, o, y1, y2, y3, a1, c1, a2, c2, rfl, z0, z1, z2, z3, HRT⟩ := (HQ.out.kept HKr.out).term j hjl
          obtain ⟨s, hs⟩ : ∃ s, s = q[j].1 := ⟨_, rfl⟩
          obtain ⟨c, hc⟩ : ∃ c, c = q[j].2 := ⟨_, rfl⟩
          have hcs : (canR c).Short 1000 := by rw [hc]; exact HSQ.out _ (List.getElem_mem _)
          have hs24 : s < 16777216 := by rw [hs]; exact HBQ.out _ (List.getElem_mem _)
          have HST := Lib.hid (HSTEP2.out j hjl)
          rw [← hs, ← hc] at HST
          have HS24 := Lib.hid hs24
          have HCS := Lib.hid hcs
          have HSJ := Lib.hid hs
          rw [← hs] at z0
          rw [← hc] at HRT
          clear hs hc hcs
          obtain ⟨w3, hw3⟩ : ∃ w3, w3 = wi.alloc (.cells #[.int .i64 s, .bool y1, .slice a1 y2 c1, .slice a2 y3 c2] 83) := ⟨_, rfl⟩
          have HX3 : Hid (RowAt w3 wi.heap.size 83 [.int .i64 s, .bool y1, .slice a1 y2 c1, .slice a2 y3 c2]) := Lib.hid (by rw [hw3]; exact RowAt.made wi #[.int .i64 s, .bool y1, .slice a1 y2 c1, .slice a2 y3 c2] 83)
          have HK3 : Hid (Kept wi w3) := Lib.hid (by rw [hw3]; exact (Kept.refl wi).alloc _)
          have HW3 := Lib.hid hw3
          have HS3 := Lib.hid (HS.out.kept HK3.out)
          have HR3 := Lib.hid (HRT.out.kept HK3.out)
          clear hw3
          have HAD : Hid (∀ W u, SumAt W w1.heap.size (p ++ q.take j) → RatAt W u (canR c) → Calls Tryz.prog 55 #[.map (some w1.heap.size), .int .i64 s, u] W fun e w' => e = .returned (.tuple #[]) ∧ SumAt w' w1.heap.size (p ++ q.take (j + 1)) ∧ OnlyAt w1.heap.size W w') := Lib.hid fun W u h1 h2 => by
            rw [HST.out]
            exact sadd_step h1 h2 (HSH2.out j) (HLN2.out j) (by have h := HCS.out; exact ⟨Nat.le_trans h.1 (by omega), Nat.le_trans h.2 (by omega)⟩)
          go_wp2_with fail
          rw [← HW3.out]
          refine (HAD.out _ _ HS3.out HR3.out).mono ?_
          rintro e w4 ⟨rfl, hs4, ho4⟩
          have HS4 := Lib.hid hs4
          have HK4 := Lib.hid (ho4.toKept (HKr.out.trans HK3.out) HB.out)
          clear hs4 ho4 z0 z1 z2 z3
          go_wp2_with fail
          go_roundg (m - (j + 1))
          case measure => omega
          case rel => exact ⟨j + 1, by omega, by go_num, Nat.le_refl _, HS4, HK4⟩
        · have hjn : ¬ (j : Int) < (m : Int) := by omega
          have hje : j = q.length := by have := HM.out; omega
          have HSE : Hid (SumAt wi w1.heap.size (p ++ q)) := Lib.hid (by have h := HS.out; rw [hje, List.take_length] at h; exact h)
          clear hje
          have HTE : Hid (∀ W, SumAt W w1.heap.size (p ++ q) → Calls Tryz.prog 56 #[.map (some w1.heap.size)] W fun e w' => TRes w' e R ∧ Kept W w') := Lib.hid fun W h => by
            rw [HRE.out]
            exact sterms_step h HBT.out HSHT.out HLNT.out
          cases R with
          | none =>
            go_wp2_with fail
            refine (HTE.out _ HSE.out).mono ?_
            rintro e w9 ⟨he, hk9⟩
            have he : e = .returned (.tuple #[.slice none 0 0, .iface 50 (.int .i64 4)]) := he
            subst he
            go_wp2
            go_ret2
            exact ⟨rfl, HKr.out.trans hk9⟩
          | some r =>
            go_wp2_with fail
            refine (HTE.out _ HSE.out).mono ?_
            rintro e w9 ⟨⟨v9, rfl, hv9⟩, hk9⟩
            go_wp2
            go_ret2
            exact ⟨⟨_, rfl, hv9⟩, HKr.out.trans hk9⟩
end Go.Proofs.YtpaedhlacbpmpaaGreatDoor

/-
  Walks: disjoint.less and the reference's less.
-/
namespace Go.Proofs.YtpaedhlacbpmpaaGreatDoor
open Go.RowKit

/-- The events of a cube behind some steps. -/
def lessY (y : Nat) (is : List Nat) : Nat := is.foldl (fun y i => y ||| 2 ^ i) y
end Go.Proofs.YtpaedhlacbpmpaaGreatDoor

/-
  Walks: disjoint.without, Cubes.
-/
namespace Go.Proofs.YtpaedhlacbpmpaaGreatDoor
open Go.RowKit

/-- What Cubes answers. -/
def cubR (xs : List Int) : Nat × List (Nat × Nat) := if chkI xs ≠ 0 then (chkI xs, []) else match cubesK (natsI xs) with | none => (4, []) | some l => (0, l)
end Go.Proofs.YtpaedhlacbpmpaaGreatDoor

/-
  Walks: inclusion.sums, inclusion.partials.
-/
namespace Go.Proofs.YtpaedhlacbpmpaaGreatDoor
open Go.RowKit

/-- The thirteen sums over the choices below m. -/
def sumL (ps : List Rw) (l : List Nat) (m : Nat) : List Rw := (List.range 13).map fun k => canR (sumR ps l k m)
def incL (ps : List Rw) (l : List Nat) : List Rw := (List.range 13).map fun k => canR (incR ps l k)
end Go.Proofs.YtpaedhlacbpmpaaGreatDoor

/-
  Walks: inclusion.partials, Sum, Partial, Exact. Printed by gen_EA6.py.
-/
namespace Go.Proofs.YtpaedhlacbpmpaaGreatDoor
open Go.RowKit

/-- The first k alternating sums; all. -/
def altP (ps : List Rw) (l : List Nat) (k : Nat) : List Rw := (List.range 13).map fun j => if j < k then canR (altR ps l j) else ⟨false, [], []⟩
def altL (ps : List Rw) (l : List Nat) : List Rw := (List.range 13).map fun j => canR (altR ps l j)
end Go.Proofs.YtpaedhlacbpmpaaGreatDoor

/-
  Walks: faultlinebase.Cubes of equal lists; faultlinelaw38.many.
-/
namespace Go.Proofs.YtpaedhlacbpmpaaGreatDoor
open Go.RowKit

/-- A list is too long to be looked at. -/
def manyB (n most : Nat) : Bool := (decide (40 < n) && decide (n ≤ most)) || decide (3000 < n)
end Go.Proofs.YtpaedhlacbpmpaaGreatDoor

/-
  Walks: writing to a strings.Builder that is new.
-/
namespace Go.Proofs.YtpaedhlacbpmpaaGreatDoor
open Go.RowKit

set_option maxHeartbeats 1000000 in
set_option maxRecDepth 100000 in
theorem bcheck_new (b : Nat) (w : World) (h0 : w.cell? ⟨b, 0, none⟩ = some (.pointer none)) (hsh : w.shape? b = some (147, 2)) (hfz : w.frozen? ⟨b, 0, none⟩ = false) :
    Calls Tryz.prog 141 #[.pointer (some ⟨b, 0, none⟩)] w fun e w' => e = .returned (.tuple #[]) ∧ w' = w.setCell ⟨b, 0, none⟩ (.pointer (some ⟨b, 0, none⟩)) := by
  have hsz : (Tryz.prog.info? 147).map (fun i => i.size) = some 2 := by kernel_rfl
  obtain ⟨j, hj, hjs⟩ := Option.map_eq_some_iff.1 hsz
  have hne : j.size ≠ 0 := by rw [hjs]; decide
  go_enter Tryz.func141, Tryz.ntmps141
  go_wp2
  rw [Lib.run_to_unsafe w ⟨b, 0, none⟩ Tryz.underlying144 Tryz.underlying178 hj hne hsh (Nat.zero_lt_succ 1)]
  simp only [Result.andThen]
  rw [Oper.upon_value]
  go_wp2
  rw [run_callFunc_extern Tryz.func158 (by kernel_rfl) (by kernel_rfl) (by kernel_rfl) (e := Extern.AbiNoEscape.same) (by kernel_rfl)]
  rw [Lib.run_noEscape]
  simp only [Result.andThen]
  rw [Oper.upon_value]
  go_wp2
  rw [Lib.run_from_unsafe w ⟨b, 0, none⟩ Tryz.underlying178 Tryz.underlying144 hj hsh Go.Proofs.Tryz.Builder_Extra_169.liesBuilder]
  simp only [Result.andThen]
  rw [Oper.upon_value]
  go_wp2
  go_end0
  exact ⟨rfl, rfl⟩
set_option maxHeartbeats 2000000 in
set_option maxRecDepth 100000 in
/-- WriteString to a new builder. -/
theorem bwrite_new (B b : Nat) (s : ByteArray) (w : World) (hB : B ≤ b) (hbk : w.heap[b]? = some (.cells #[.pointer none, .slice none 0 0] 147 (0, 0))) (hlen : s.size ≤ 140737488355328) (hBw : B ≤ w.heap.size) :
    Calls Tryz.prog 123 #[.pointer (some ⟨b, 0, none⟩), .string s] w fun e w' => e = .returned (.tuple #[.int .i64 s.size, .nilIface]) ∧ (Lib.BuilderAt 147 5 B b (.pointer (some ⟨b, 0, none⟩)) (Lib.strCells s) w' ∧ Below B w w') := by
  obtain ⟨i0, hi, hz0, hz1, hz2⟩ := info_parts Go.Proofs.Tryz.Builder_Extra_169.infoByte
  have hlt : b < w.heap.size := by
    rcases Nat.lt_or_ge b w.heap.size with h' | h'
    · exact h'
    · simp [Array.getElem?_eq_none h'] at hbk
  have e0 : w.cell? ⟨b, 0, none⟩ = some (.pointer none) := by simp [World.cell?, hbk]
  have ef : w.frozen? ⟨b, 0, none⟩ = false := Lib.frozen_of_heap hbk 0
  have es : w.shape? b = some (147, 2) := by simp [World.shape?, hbk]
  obtain ⟨w1, hw1⟩ : ∃ w1, w1 = w.setCell ⟨b, 0, none⟩ (.pointer (some ⟨b, 0, none⟩)) := ⟨_, rfl⟩
  have HCK : Hid (Calls Tryz.prog 141 #[.pointer (some ⟨b, 0, none⟩)] w fun e w' => e = .returned (.tuple #[]) ∧ w' = w1) := Lib.hid (by rw [hw1]; exact bcheck_new b w e0 es ef)
  obtain ⟨v, hv⟩ : ∃ v : Value, v = .slice none 0 0 := ⟨_, rfl⟩
  have HOW : Hid (w1.ownsRow B 5 1 v 0 []) := Lib.hid (by rw [hv]; exact World.ownsRow_nil _ _ _ _)
  have HNB : Hid (v.ownBlock = none) := Lib.hid (by rw [hv]; rfl)
  have hb1 : w1.heap[b]? = some (.cells #[.pointer (some ⟨b, 0, none⟩), v] 147 (0, 0)) := by
    rw [hw1, hv]
    have := heap_setCell_same w b 0 _ _ (.pointer (some ⟨b, 0, none⟩)) hbk
    simpa using this
  have hk1 : Below B w w1 := by rw [hw1]; exact (Below.refl B w).setCell (p := ⟨b, 0, none⟩) hB _
  have hs1 : w1.heap.size = w.heap.size := by rw [hw1]; simp
  have c0 : w1.cell? ⟨b, 0, none⟩ = some (.pointer (some ⟨b, 0, none⟩)) := by rw [Lib.cell_of_heap hb1]; rfl
  have c1 : w1.cell? ⟨b, 1, none⟩ = some v := by rw [Lib.cell_of_heap hb1]; rfl
  have HB1 := Lib.hid hb1
  have HK1 := Lib.hid hk1
  have HI := Lib.hid hi
  have HZ0 := Lib.hid hz0
  have HZ1 := Lib.hid hz1
  have HZ2 := Lib.hid hz2
  clear hw1 hv hbk e0 ef es hb1 hk1 hi hz0 hz1 hz2
  go_enter Tryz.func123, Tryz.ntmps123
  go_wp2_with (go_at_call 141; refine HCK.out.mono ?_)
  rintro e w1' ⟨rfl, rfl⟩
  go_wp2_with (at_builtin; refine Lib.wpList_append_own_string _ rfl _ _ 145 9 rfl B 5 i0 Tryz.underlying145 Tryz.underlying9 HI.out HZ0.out HZ1.out HZ2.out v 0 [] rfl HOW.out s rfl ?c3 ?c4 ?c5 ?_)
  case c3 => unfold maxLen; omega
  case c4 => omega
  case c5 => omega
  intro v' w2 hown' hgrow _
  have hb2 : w2.heap[b]? = some (.cells #[.pointer (some ⟨b, 0, none⟩), v] 147 (0, 0)) := by
    rw [hgrow.block b (by rw [hs1]; exact hlt) (fun e => by rw [HNB.out] at e; cases e)]
    exact HB1.out
  have d0 : w2.cell? ⟨b, 0, none⟩ = some (.pointer (some ⟨b, 0, none⟩)) := by rw [Lib.cell_of_heap hb2]; rfl
  have d1 : w2.cell? ⟨b, 1, none⟩ = some v := by rw [Lib.cell_of_heap hb2]; rfl
  have f1 : w2.frozen? ⟨b, 1, none⟩ = false := Lib.frozen_of_heap hb2 1
  obtain ⟨ao, n', cap, rfl⟩ : ∃ ao n' cap, v' = .slice ao n' cap := by
    rcases hown'.2 with ⟨hv, _⟩ | ⟨g, cap, cur, hv, _⟩
    · exact ⟨_, _, _, hv⟩
    · exact ⟨_, _, _, hv⟩
  go_wp2
  go_ret2
  refine ⟨rfl, ?_, ?_⟩
  · exact Lib.BuilderAt.put (T := 147) (e := 5) hB hb2 (bs' := Lib.strCells s) (by simpa [Lib.strCells_length] using hown') Go.Proofs.Tryz.Builder_Extra_169.neB5
  · exact (HK1.out.grown hgrow (by rw [hs1]; exact hBw) (fun k hk => by rw [HNB.out] at hk; cases hk)).setCell (p := ⟨b, 1, none⟩) hB _
end Go.Proofs.YtpaedhlacbpmpaaGreatDoor

/-
  Walk: natural.nine.
-/
namespace Go.Proofs.YtpaedhlacbpmpaaGreatDoor
open Go.RowKit

/-- The digits so far, from behind. -/
def arrK (r k : Nat) : List Value := (List.range 9).map fun j => .int .u8 (((if 9 ≤ j + k then 48 + r / 10 ^ (8 - j) % 10 else 0 : Nat)) : Int)
theorem arrK_step (r k : Nat) (hk : k < 9) : (arrK r k).set (8 - k) (.int .u8 ((48 + r / 10 ^ k % 10 : Nat) : Int)) = arrK r (k + 1) := by
  match k, hk with
  | 0, _ => rfl
  | 1, _ => rfl
  | 2, _ => rfl
  | 3, _ => rfl
  | 4, _ => rfl
  | 5, _ => rfl
  | 6, _ => rfl
  | 7, _ => rfl
  | 8, _ => rfl
def nineB (r : Nat) : List UInt8 := (List.range 9).map fun j => UInt8.ofNat (48 + r / 10 ^ (8 - j) % 10)
theorem nineB_len (r : Nat) : (nineB r).length = 9 := by unfold nineB; simp
theorem nineB_get (r j : Nat) (h : j < (nineB r).length) : (((nineB r)[j].toNat : Nat) : Int) = ((48 + r / 10 ^ (8 - j) % 10 : Nat) : Int) := by
  rw [nineB_len] at h
  have : r / 10 ^ (8 - j) % 10 < 10 := Nat.mod_lt _ (by decide)
  simp [nineB]
  omega
theorem arrK_get (r j : Nat) (h : j < 9) : (arrK r 9)[j]'(by simp [arrK]; omega) = .int .u8 ((48 + r / 10 ^ (8 - j) % 10 : Nat) : Int) := by
  simp [arrK]
set_option maxRecDepth 100000 in
set_option maxHeartbeats 4000000 in
theorem nine_any (r : Nat) (hr : r < 4294967296) (w : World) : Calls Tryz.prog 122 #[.int .u32 r] w fun e w' => e = .returned (.string ⟨(nineB r).toArray⟩) ∧ Kept w w' := by
  obtain ⟨w1, hw1⟩ : ∃ w1, w1 = w.alloc (.cells #[.int .u8 0, .int .u8 0, .int .u8 0, .int .u8 0, .int .u8 0, .int .u8 0, .int .u8 0, .int .u8 0, .int .u8 0] 161) := ⟨_, rfl⟩
  have HR1 : Hid (RowAt w1 w.heap.size 161 (arrK r 0)) := Lib.hid (by rw [hw1]; exact RowAt.made w #[.int .u8 0, .int .u8 0, .int .u8 0, .int .u8 0, .int .u8 0, .int .u8 0, .int .u8 0, .int .u8 0, .int .u8 0] 161)
  have HK1 : Hid (Kept w w1) := Lib.hid (by rw [hw1]; exact (Kept.refl w).alloc _)
  have HW1 := Lib.hid hw1
  have HCV : Hid (∀ W, RowAt W w.heap.size 161 (arrK r 9) → (convert 145 9 (.slice (some ⟨w.heap.size, 0, none⟩) 9 9)).run Tryz.prog W = .ok (.string ⟨(nineB r).toArray⟩) W) := Lib.hid fun W hW => by
    have h := run_convert_bytes_back (P := Tryz.prog) W 145 9 5 ⟨w.heap.size, 0, none⟩ 9 (nineB r) Tryz.underlying145 Tryz.underlying5 Tryz.underlying9 (fun j hj => by
      have hj9 : j < 9 := by rw [nineB_len] at hj; exact hj
      have h1 := hW.cell (i := j) (by simp [arrK]; omega)
      rw [arrK_get r j hj9, ← nineB_get r j hj] at h1
      rw [show ({ block := w.heap.size, off := 0 } : Addr).add j = ⟨w.heap.size, j, none⟩ by unfold Addr.add; split <;> simp_all]
      exact h1)
    rw [nineB_len] at h
    exact h
  clear hw1
  go_enter Tryz.func122, Tryz.ntmps122
  go_wp2_with fail
  try rw [← HW1.out]
  go_loopg [0, 4] 9 (fun kx s0 s4 wr => ∃ k : Nat, k ≤ 9 ∧ s4 = .int .i64 (8 - (k : Int)) ∧ 9 - k ≤ kx ∧ s0 = .int .u32 (r / 10 ^ k : Nat) ∧ Hid (RowAt wr w.heap.size 161 (arrK r k)) ∧ Hid (Kept w wr))
  case atStart => exact ⟨0, Nat.zero_le _, rfl, by omega, by simp, HR1, HK1⟩
  case round =>
    obtain ⟨k, hk, rfl, hkx, rfl, HR, HK⟩ := hrel
    by_cases hlt : k < 9
    · have hkn : 0 ≤ (8 - (k : Int)) := by omega
      have HST := Lib.hid (arrK_step r k hlt)
      have hd : r / 10 ^ k < 4294967296 := Nat.lt_of_le_of_lt (Nat.div_le_self _ _) hr
      have HDD : Hid (r / 10 ^ (k + 1) = r / 10 ^ k / 10) := Lib.hid (by rw [Nat.pow_succ, Nat.div_div_eq_div_mul])
      obtain ⟨m, hm⟩ : ∃ m, m = r / 10 ^ k := ⟨_, rfl⟩
      rw [← hm] at hd HST HDD ⊢
      obtain ⟨d, hdd⟩ : ∃ d, d = m % 10 := ⟨_, rfl⟩
      have hd10 : d < 10 := by omega
      have f0 := HR.out.free (8 - k)
      have HLT : Hid (8 - k < (arrK r k).length) := Lib.hid (by simp [arrK]; omega)
      have hc := HR.out.cell (i := 8 - k) HLT.out
      have hix : (8 - (k : Int)).toNat = 8 - k := by omega
      have hi9 : (8 - (k : Int)) < 9 := by omega
      have p1 : Int.tmod (m : Int) 10 = (d : Int) := by rw [hdd]; exact Int.ofNat_tmod m 10
      have p2 : IntKind.u32.wrap (48 + (d : Int)) = ((48 + d : Nat) : Int) := by rw [IntKind.wrap_u32]; omega
      have p3 : IntKind.u8.wrap ((48 + d : Nat) : Int) = ((48 + d : Nat) : Int) := by rw [IntKind.wrap_u8]; omega
      clear hm
      go_wp2
      go_roundg (9 - (k + 1))
      case measure => omega
      case rel =>
        refine ⟨k + 1, by omega, by go_num, Nat.le_refl _, ?_, ?_, ?_⟩
        · rw [HDD.out]; simp
        · refine Lib.hid ?_
          have h := HR.out.store (8 - k) (.int .u8 ((48 + m % 10 : Nat) : Int))
          rw [HST.out] at h
          simpa using h
        · exact Lib.hid (HK.out.store (Nat.le_refl _) _ _)
    · have hke : k = 9 := by omega
      have hkn : ¬ 0 ≤ (8 - (k : Int)) := by omega
      rw [hke] at HR
      have hcv := HCV.out wr HR.out
      clear hke
      go_wp2
      go_ret
      exact ⟨rfl, HK.out⟩
end Go.Proofs.YtpaedhlacbpmpaaGreatDoor

/-
  Walk: natural.Text of a number of nine digits at most.
-/
namespace Go.Proofs.YtpaedhlacbpmpaaGreatDoor
open Go.RowKit

theorem info_str : (Tryz.prog.info? 9).map (fun i => (i.zero, i.size, i.bytes)) = some (some (.string .empty), 1, 16) := by kernel_rfl
theorem own_first {w : World} {B : Nat} {e : TypeId} {v y : Value} (h : w.ownsRow B e 1 v 1 [y]) : ∃ g cap, v = .slice (some ⟨g, 0, none⟩) 1 cap ∧ w.cell? ⟨g, 0, none⟩ = some y := by
  obtain ⟨_, h2⟩ := h
  rcases h2 with ⟨_, h⟩ | ⟨g, cap, cur, rfl, h5, h6, h7, h8, h9, h10⟩
  · cases h
  · refine ⟨g, cap, rfl, ?_⟩
    have e1 : (cur.toList.take 1)[0]? = some y := by
      have := congrArg (fun l => l[0]?) h10
      simpa using this
    simp only [World.cell?, h6]
    simpa using e1
theorem nw_one {n : Nat} (h0 : n ≠ 0) (h : n < 4294967296) : nw n = [n] := by
  rw [nw_pos h0, Nat.mod_eq_of_lt h, Nat.div_eq_of_lt h, nw_zero]
set_option maxRecDepth 100000 in
set_option maxHeartbeats 8000000 in
theorem ntext_any (v : Value) (xs : List Nat) (n : Nat) (l : List UInt8) (w : World) (hv : WdsAt w v xs) (hn : nv xs = n) (h0 : n ≠ 0) (h9 : n < 1000000000) (hl : Lib.trimLeftB (nineB n) 48 = l) (hne : l ≠ []) :
    Calls Tryz.prog 91 #[v] w fun e w' => e = .returned (.string ⟨l.toArray⟩) ∧ Kept w w' := by
  have HT : Hid (Calls Tryz.prog 106 #[v] w fun e w' => (∃ v', e = .returned v' ∧ WdsAt w' v' [n]) ∧ Kept w w') := Lib.hid (by have h := ntrim_any v xs w hv; rw [hn, nw_one h0 (by omega)] at h; exact h)
  have HSM : Hid (∀ W va, WdsAt W va [n] → Calls Tryz.prog 121 #[va, .int .u32 (1000000000 : Nat)] W fun e w' => (∃ v', e = .returned (.tuple #[v', .int .u32 n]) ∧ WdsAt w' v' []) ∧ Kept W w') := Lib.hid fun W va h => by
    have h := small_any va [n] 1000000000 W h (by omega) (by omega)
    have e1 : nv [n] = n := by simp [nv]
    rw [e1, Nat.mod_eq_of_lt h9, Nat.div_eq_of_lt h9, nw_zero] at h
    exact h
  have HNI := Lib.hid (fun W => nine_any n (by omega) W)
  obtain ⟨N9, hN9⟩ : ∃ N9, N9 = nineB n := ⟨_, rfl⟩
  have HLEN : Hid (N9.length = 9) := Lib.hid (by rw [hN9]; exact nineB_len n)
  have HN9 : Hid (N9 ≠ []) := Lib.hid fun h => by
    have h2 := HLEN.out
    rw [h] at h2
    simp at h2
  rw [← hN9] at HNI hl
  have HTR : Hid (∀ W, Calls Tryz.prog 124 #[.string ⟨N9.toArray⟩, .string ⟨#[48]⟩] W fun e w' => e = .returned (.string ⟨l.toArray⟩) ∧ w' = W) := Lib.hid fun W => by
    have h := Go.Proofs.Tryz.strings_TrimLeft_one ⟨N9.toArray⟩ 48 (by decide) W
    rw [show (⟨N9.toArray⟩ : ByteArray).data.toList = N9 from rfl, hl] at h
    exact h
  have HNE : Hid ((⟨l.toArray⟩ : ByteArray) ≠ ⟨#[]⟩) := Lib.hid fun h => hne (by
    have := congrArg (fun b => b.data.toList) h
    simpa using this)
  have hie : l.isEmpty = false := by cases l with
    | nil => exact absurd rfl hne
    | cons _ _ => rfl
  have HV := Lib.hid hv
  obtain ⟨av, cv, rfl⟩ := hv.shape
  clear hv hn h9 hl hne hN9
  go_enter Tryz.func91, Tryz.ntmps91
  go_wp2_with fail
  refine HT.out.mono ?_
  rintro e w2 ⟨⟨v2, rfl, hv2⟩, hk2⟩
  have HV2 := Lib.hid hv2
  have HK2 := Lib.hid hk2
  clear hv2 hk2
  go_wp2_with fail
  go_loopg [0, 3] 1 (fun kx s0 s3 wr => ((1 ≤ kx ∧ s3 = .slice none 0 0 ∧ Hid (WdsAt wr s0 [n])) ∨ (Hid (WdsAt wr s0 []) ∧ Hid (wr.ownsRow w2.heap.size 9 1 s3 1 [.string ⟨N9.toArray⟩]))) ∧ Hid (Kept w2 wr))
  case atStart => exact ⟨.inl ⟨Nat.le_refl _, rfl, HV2⟩, Lib.hid (Kept.refl _)⟩
  case round =>
    obtain ⟨hor, HK⟩ := hrel
    rcases hor with ⟨hkx, rfl, HA⟩ | ⟨HA, HO⟩
    · obtain ⟨a0, c0, rfl⟩ := HA.out.shape
      simp only [List.length_singleton] at HA ⊢
      go_wp2_with (first
        | (go_at_call 121; refine (HSM.out _ _ HA.out).mono ?_; rintro e w3 ⟨⟨v3, rfl, hv3⟩, hk3⟩; have HV3 := Lib.hid hv3; have HK3 := Lib.hid hk3; clear hv3 hk3)
        | (go_at_call 122; refine (HNI.out _).mono ?_; rintro e w4 ⟨rfl, hk4⟩; have HK4 := Lib.hid hk4; clear hk4)
        | (at_builtin; refine app_one 140 9 _ 16 info_str Tryz.underlying140 rfl rfl _ _ rfl w2.heap.size _ [] rfl (World.ownsRow_nil _ _ _ _) _ (.string ⟨N9.toArray⟩) rfl (by simp) rfl (by simp) (by simp [maxLen]) (by have := HK.out.size; have := HK3.out.size; have := HK4.out.size; simp; omega) ?_; intro v' w' h5 _ h6; have H5 := Lib.hid h5; have H6 := Lib.hid h6; clear h5 h6))
      go_roundg 0
      case measure => omega
      case rel =>
        have hk := ((HK.out.trans HK3.out).trans HK4.out).alloc (.cells #[.string ⟨N9.toArray⟩] 9)
        refine ⟨.inr ⟨Lib.hid ?_, Lib.hid (by simpa using H5.out)⟩, Lib.hid (hk.app H6.out)⟩
        obtain ⟨a9, c9, i1, i2, i3, i4, _⟩ := HV3.out
        exact ⟨a9, c9, i1, i2, i3, i4, fun i hi => by simp at hi⟩
    · obtain ⟨a0, c0, rfl⟩ := HA.out.shape
      simp only [List.length_nil] at HA ⊢
      obtain ⟨g3, cap3, rfl, hc3⟩ := own_first HO.out
      have HC3 := Lib.hid hc3
      clear hc3
      go_wp2_with fail
      obtain ⟨w4, hw4⟩ : ∃ w4, w4 = wr.alloc (.cells #[.pointer none, .slice none 0 0] 147) := ⟨_, rfl⟩
      have HBK4 : Hid (w4.heap[wr.heap.size]? = some (.cells #[.pointer none, .slice none 0 0] 147 (0, 0))) := Lib.hid (by rw [hw4]; exact heap_alloc_new wr _)
      have HKR4 : Hid (Kept wr w4) := Lib.hid (by rw [hw4]; exact (Kept.refl wr).alloc _)
      try rw [← hw4]
      clear hw4
      have HSG : Hid (∀ W, Lib.BuilderAt 147 5 wr.heap.size wr.heap.size (.pointer (some ⟨wr.heap.size, 0, none⟩)) (Lib.byteCells N9) W → Kept wr W → Calls Tryz.prog 125 #[.pointer (some ⟨wr.heap.size, 0, none⟩)] W fun e w' => e = .returned (.string ⟨N9.toArray⟩) ∧ Kept wr w') := Lib.hid fun W hb hk => (Go.Proofs.Tryz.Builder_String wr.heap.size wr.heap.size N9 W (.inr hb) HN9.out).mono fun e w' ⟨h1, h2⟩ => ⟨h1, hk.app h2⟩
      go_loopg [7] 1 (fun kx s7 W => ((1 ≤ kx ∧ s7 = .int .i64 0 ∧ Hid (W.heap[wr.heap.size]? = some (.cells #[.pointer none, .slice none 0 0] 147 (0, 0)))) ∨ (s7 = .int .i64 (-1) ∧ Hid (Lib.BuilderAt 147 5 wr.heap.size wr.heap.size (.pointer (some ⟨wr.heap.size, 0, none⟩)) (Lib.byteCells N9) W))) ∧ Hid (Kept wr W))
      case atStart => exact ⟨.inl ⟨Nat.le_refl _, rfl, HBK4⟩, HKR4⟩
      case round =>
        obtain ⟨hor, HKW⟩ := hrel
        rcases hor with ⟨hkx, rfl, HB⟩ | ⟨rfl, HB⟩
        · have hce := HKW.out.cell HC3.out
          go_wp2_with (go_at_call 123; refine (bwrite_new _ _ ⟨N9.toArray⟩ _ (Nat.le_refl _) HB.out (by show N9.toArray.size ≤ _; rw [List.size_toArray, HLEN.out]; omega) HKW.out.size).mono ?_; rintro e w5 ⟨rfl, hb5, hk5⟩; have HB5 := Lib.hid hb5; have HK5 := Lib.hid hk5; clear hb5 hk5)
          go_roundg 0
          case measure => omega
          case rel => exact ⟨.inr ⟨by go_num, Lib.hid HB5.out⟩, Lib.hid (HKW.out.app HK5.out)⟩
        · go_wp2_with (first
            | (go_at_call 125; refine (HSG.out _ HB.out HKW.out).mono ?_; rintro e w6 ⟨rfl, hk6⟩; have HK6 := Lib.hid hk6; clear hk6)
            | (go_at_call 124; refine (HTR.out _).mono ?_; rintro e w7 ⟨rfl, rfl⟩))
          go_ret
          exact ⟨rfl, HK2.out.trans (HK.out.trans HK6.out)⟩
end Go.Proofs.YtpaedhlacbpmpaaGreatDoor

/-
  Walk: rational.Text of a short positive fraction; rational.Make.
-/
namespace Go.Proofs.YtpaedhlacbpmpaaGreatDoor
open Go.RowKit

theorem parts_can {q : Rat} (h : q.num ≠ 0) : partsR (canR q) = (decide (q.num < 0), nw q.num.natAbs, nw q.den) := by
  have hv := canR_valid q
  have hc : canR q = ⟨decide (q.num < 0), nw q.num.natAbs, nw q.den⟩ := by unfold canR; rw [if_neg h]
  unfold partsR
  rw [if_pos]
  · rw [hc]
  · refine ⟨hv, ?_⟩
    rw [hc]
    exact fun e => absurd (nw_eq_nil.1 e) (by omega)
set_option maxRecDepth 100000 in
set_option maxHeartbeats 4000000 in
theorem rtext_frac (v : Value) (q : Rat) (a b : Nat) (la lb s : List UInt8) (w : World) (hv : RatAt w v (canR q)) (hq : q.num = (a : Int)) (hd : q.den = b) (ha0 : a ≠ 0) (ha9 : a < 1000000000) (hb1 : 1 < b) (hb9 : b < 1000000000)
    (hla : Lib.trimLeftB (nineB a) 48 = la) (hlb : Lib.trimLeftB (nineB b) 48 = lb) (hna : la ≠ []) (hnb : lb ≠ []) (hs : la ++ 47 :: lb = s) :
    Calls Tryz.prog 49 #[v] w fun e w' => e = .returned (.string ⟨s.toArray⟩) ∧ Kept w w' := by
  have hp : partsR (canR q) = (false, [a], [b]) := by
    rw [parts_can (by rw [hq]; omega), hq, hd, Int.natAbs_natCast, nw_one ha0 (by omega), nw_one (n := b) (by omega) (by omega)]
    simp
  have HPA : Hid (∀ W, Kept w W → Calls Tryz.prog 66 #[v] W fun e w' => (∃ u1 u2, e = .returned (.tuple #[.bool false, u1, u2]) ∧ WdsAt w' u1 [a] ∧ WdsAt w' u2 [b]) ∧ Kept W w') := Lib.hid fun W hk => by
    have hsh : (canR q).Short 1 := by
      have hc : canR q = ⟨decide (q.num < 0), nw q.num.natAbs, nw q.den⟩ := by unfold canR; rw [if_neg (by rw [hq]; omega)]
      rw [hc, hq, hd, Int.natAbs_natCast, nw_one ha0 (by omega), nw_one (n := b) (by omega) (by omega)]
      exact ⟨Nat.le_refl _, Nat.le_refl _⟩
    have h := rparts_any v (canR q) W (hv.kept hk) ⟨Nat.le_trans hsh.1 (by omega), Nat.le_trans hsh.2 (by omega)⟩
    rw [hp] at h
    exact h
  have HTA := Lib.hid (fun W u (h : WdsAt W u [a]) => ntext_any u [a] a la W h (by simp [nv]) ha0 ha9 hla hna)
  have HTB := Lib.hid (fun W u (h : WdsAt W u [b]) => ntext_any u [b] b lb W h (by simp [nv]) (by omega) hb9 hlb hnb)
  have HCM : Hid (∀ W u1 u2, WdsAt W u1 [b] → WdsAt W u2 [1] → Calls Tryz.prog 70 #[u1, u2] W fun e w' => e = .returned (.int .i64 1) ∧ Kept W w') := Lib.hid fun W u1 u2 h1 h2 => by
    have h := ncmp_any u1 u2 [b] [1] W h1 h2
    have e1 : nv [b] = b := by simp [nv]
    have e2 : nv [1] = 1 := rfl
    rw [e1, e2] at h
    have e3 : cmpN b 1 = 1 := by unfold cmpN; rw [if_neg (by omega), if_pos (by omega)]
    rwa [e3] at h
  have HS : Hid ((⟨la.toArray⟩ : ByteArray) ++ ((⟨#[47]⟩ : ByteArray) ++ ⟨lb.toArray⟩) = ⟨s.toArray⟩) := Lib.hid (by
    apply ByteArray.ext
    rw [ByteArray.data_append, ByteArray.data_append]
    apply Array.toList_inj.1
    simp [← hs])
  have hl9 : la.length ≤ 9 := by rw [← hla, ← nineB_len a]; exact (List.dropWhile_sublist _).length_le
  have hl8 : lb.length ≤ 9 := by rw [← hlb, ← nineB_len b]; exact (List.dropWhile_sublist _).length_le
  have hz1 : ¬ 9223372036854775807 < 1 + lb.length := by omega
  have hz2 : ¬ 9223372036854775807 < la.length + (1 + lb.length) := by omega
  obtain ⟨u1, u2, rfl, h1, h2⟩ := hv
  obtain ⟨a1, c1, rfl⟩ := h1.shape
  obtain ⟨a2, c2, rfl⟩ := h2.shape
  generalize (canR q).num.length = n1 at *
  generalize (canR q).den.length = n2 at *
  generalize (canR q).neg = b0 at *
  clear h1 h2 hp hq hd ha0 ha9 hb1 hb9 hla hlb hna hnb hs hl9 hl8
  go_enter Tryz.func49, Tryz.ntmps49
  go_wp2_with (first
    | (go_at_call 66; refine (HPA.out _ ((Kept.refl w).alloc _)).mono ?_; rintro e w2 ⟨⟨u1, u2, rfl, hu1, hu2⟩, hk2⟩; have HU1 := Lib.hid hu1; have HU2 := Lib.hid hu2; have HK2 := Lib.hid (((Kept.refl w).alloc _).trans hk2); clear hu1 hu2 hk2)
    | (go_at_call 91; (with_reducible refine (HTA.out _ _ HU1.out).mono ?_); rintro e w3 ⟨rfl, hk3⟩; have HU3 := Lib.hid (HU2.out.kept hk3); have HK3 := Lib.hid (HK2.out.trans hk3); clear hk3)
    | (go_at_call 90; refine (rone_any _).mono ?_; rintro e w4 ⟨⟨u4, rfl, hu4⟩, hk4⟩; have HU4 := Lib.hid hu4; have HU5 := Lib.hid (HU3.out.kept hk4); have HK4 := Lib.hid (HK3.out.trans hk4); clear hu4 hk4)
    | (go_at_call 70; refine (HCM.out _ _ _ HU5.out HU4.out).mono ?_; rintro e w5 ⟨rfl, hk5⟩; have HU6 := Lib.hid (HU5.out.kept hk5); have HK5 := Lib.hid (HK4.out.trans hk5); clear hk5)
    | (go_at_call 91; refine (HTB.out _ _ HU6.out).mono ?_; rintro e w6 ⟨rfl, hk6⟩; have HK6 := Lib.hid (HK5.out.trans hk6); clear hk6))
  go_ret
  exact ⟨by rw [HS.out]; rfl, HK6.out⟩
set_option maxRecDepth 100000 in
set_option maxHeartbeats 4000000 in
theorem rmake_any (n d : Nat) (w : World) (hn : n < 9223372036854775808) (hd : d < 9223372036854775808) (hd0 : d ≠ 0) : Calls Tryz.prog 48 #[.int .i64 n, .int .i64 d] w fun e w' => (∃ v', e = .returned (.tuple #[v', .nilIface]) ∧ RatAt w' v' (canR (mkRat n d))) ∧ Kept w w' := by
  have HS1 : Hid (∀ W, Calls Tryz.prog 89 #[.int .i64 n] W fun e w' => (∃ v', e = .returned v' ∧ WdsAt w' v' (nw n)) ∧ Kept W w') := Lib.hid fun W => by have h := rsz_any n W (by omega) (by omega); rw [Int.natAbs_natCast] at h; exact h
  have HS2 : Hid (∀ W, Calls Tryz.prog 89 #[.int .i64 d] W fun e w' => (∃ v', e = .returned v' ∧ WdsAt w' v' (nw d)) ∧ Kept W w') := Lib.hid fun W => by have h := rsz_any d W (by omega) (by omega); rw [Int.natAbs_natCast] at h; exact h
  obtain ⟨R, hR⟩ : ∃ R, R = canR (mkRat n d) := ⟨_, rfl⟩
  have HFO : Hid (∀ W u1 u2, WdsAt W u1 (nw n) → WdsAt W u2 (nw d) → Calls Tryz.prog 68 #[.bool false, u1, u2] W fun e w' => (∃ v, e = .returned v ∧ RatAt w' v R) ∧ Kept W w') := Lib.hid fun W u1 u2 k1 k2 => by
    have hl1 : (nw n).length ≤ 2 := nw_len_lt.2 (by rw [show (4294967296 : Nat) ^ 2 = 18446744073709551616 by rfl]; omega)
    have hl2 : (nw d).length ≤ 2 := nw_len_lt.2 (by rw [show (4294967296 : Nat) ^ 2 = 18446744073709551616 by rfl]; omega)
    have h := rform_any false u1 u2 _ _ W k1 k2 (by omega) (by omega) (by rw [nv_nw]; exact hd0)
    rw [nv_nw, nv_nw, form_can _ _ _ hd0, show sg false n = (n : Int) from rfl, ← hR] at h
    exact h
  rw [← hR]
  generalize nw n = X at *
  generalize nw d = Y at *
  obtain ⟨w2, hw2⟩ : ∃ w2, w2 = w.alloc (.cells #[.bool false, .slice none 0 0, .slice none 0 0] 38) := ⟨_, rfl⟩
  have HR : Hid (RowAt w2 w.heap.size 38 [.bool false, .slice none 0 0, .slice none 0 0]) := Lib.hid (by rw [hw2]; exact RowAt.made w #[.bool false, .slice none 0 0, .slice none 0 0] 38)
  have HFX : Hid (FixAt w2 w.heap.size [.bool false, .slice none 0 0, .slice none 0 0]) := Lib.hid (by rw [hw2]; exact FixAt.made w #[.bool false, .slice none 0 0, .slice none 0 0] 38)
  have HK0 : Hid (Kept w w2) := Lib.hid (by rw [hw2]; exact (Kept.refl w).alloc _)
  have HW2 := Lib.hid hw2
  have hn0 : ¬ (n : Int) < 0 := by omega
  have hdn : ¬ (d : Int) < 0 := by omega
  have hdz : ((d : Int) == 0) = false := by simp; omega
  have hdz2 : ¬ (d : Int) = 0 := by omega
  clear hw2 hR hn hd hd0
  go_enter Tryz.func48, Tryz.ntmps48
  go_wp2_with fail
  rw [← HW2.out]
  refine (HS1.out _).mono ?_
  rintro e w3 ⟨⟨v3, rfl, hv3⟩, hk3⟩
  have HV3 := Lib.hid hv3
  have HR3 := Lib.hid (HR.out.kept hk3)
  have HF3 := Lib.hid (HFX.out.kept hk3)
  have HK3 := Lib.hid (HK0.out.trans hk3)
  clear hv3 hk3
  go_wp2_with fail
  refine (HS2.out _).mono ?_
  rintro e w4 ⟨⟨v4, rfl, hv4⟩, hk4⟩
  have HV4 := Lib.hid hv4
  have HV3' := Lib.hid (HV3.out.kept hk4)
  have HR4 := Lib.hid (HR3.out.kept hk4)
  have HF4 := Lib.hid (HF3.out.kept hk4)
  have HK4 := Lib.hid (HK3.out.trans hk4)
  clear hv4 hk4
  go_wp2_with fail
  refine (HFO.out _ _ _ HV3'.out HV4.out).mono ?_
  rintro e w10 ⟨⟨v10, rfl, hv10⟩, hk10⟩
  have hr10 := HR4.out.kept hk10
  have HF10 := Lib.hid (HF4.out.kept hk10)
  have HK10 := Lib.hid (HK4.out.trans hk10)
  obtain ⟨u7, u8, rfl, k7, k8⟩ := hv10
  obtain ⟨a7, c7, rfl⟩ := k7.shape
  obtain ⟨a8, c8, rfl⟩ := k8.shape
  obtain ⟨y0, y1, y2, hra⟩ := rat_stored hr10 HF10.out k7 k8
  have g0 := hr10.cell (i := 0) (by simp)
  have g1 := hr10.cell (i := 1) (by simp)
  have g2 := hr10.cell (i := 2) (by simp)
  have f0 := hr10.free 0
  have f1 := hr10.free 1
  have f2 := hr10.free 2
  have HRA := Lib.hid hra
  have Y0 := Lib.hid y0
  have Y1 := Lib.hid y1
  have Y2 := Lib.hid y2
  clear hra y0 y1 y2 k7 k8 hr10 hk10
  generalize R.num.length = n7 at *
  generalize R.den.length = n8 at *
  go_wp2
  refine bodyPost_ret (v := .tuple #[.agg #[.bool R.neg, .slice a7 n7 c7, .slice a8 n8 c8], .nilIface]) ?_ rfl ⟨⟨_, rfl, HRA.out⟩, ?_⟩
  · simp [results, Tryz.results48, go_sem, Y0.out, Y1.out, Y2.out]
  · exact ((HK10.out.store (by omega) _ _).store (by omega) _ _).store (by omega) _ _
end Go.Proofs.YtpaedhlacbpmpaaGreatDoor

/-
  Plain: chances; the example of the chapters 38 to 40.
-/
namespace Go.Proofs.YtpaedhlacbpmpaaGreatDoor
open Go.RowKit

/-- What Prob answers: the error's number, the sum. -/
def prbT (L : List (Nat × Nat)) (ps : List Rw) : Nat × Rat :=
  if L.any (fun c => decide ((ps.length : Int) ≤ gtK (c.1 ||| c.2))) = true then (11, 0) else if badR ps = true then (3, 0) else (0, sumWs ps L L.length)
def prbD (L0 : List (Int × Int)) (ps : List Rw) : Nat × Rat := if chkD L0 ≠ 0 then (chkD L0, 0) else prbT (L0.map natC) ps
/-- The example's probabilities. -/
def exPs : List Rw := [canR (mkRat 1 10), canR (mkRat 1 5), canR (mkRat 1 4)]
end Go.Proofs.YtpaedhlacbpmpaaGreatDoor

/-
  Plain: what the laws of chapter 39 ask of the sums and bounds.
-/
namespace Go.Proofs.YtpaedhlacbpmpaaGreatDoor
open Go.RowKit

/-- An accepted family and fractions. -/
structure Rdy (xs : List Int) (ps : List Rw) : Prop where
  ok : chkI xs = 0
  len : xs.length ≤ 12
  gt : ∀ s ∈ natsI xs, s < 16777216 ∧ gtK s < (ps.length : Int)
  bad : badR ps = false
end Go.Proofs.YtpaedhlacbpmpaaGreatDoor

/-
  Walks: inclusion.Sum, Partial, Exact. Printed by gen_EA6.py.
-/
namespace Go.Proofs.YtpaedhlacbpmpaaGreatDoor
open Go.RowKit

/-- What Sum or Partial answers. -/
def sumV (xs : List Int) (ps : List Rw) (k : Int) : Rat := if incE xs ps k = 0 then incR ps (natsI xs) k.toNat else 0
/-- What Sum or Partial answers. -/
def partV (xs : List Int) (ps : List Rw) (k : Int) : Rat := if incE xs ps k = 0 then altR ps (natsI xs) k.toNat else 0
end Go.Proofs.YtpaedhlacbpmpaaGreatDoor

/-
  Walks: faultlineref39.Sum, Partial. Printed by gen_EA12.py.
-/
namespace Go.Proofs.YtpaedhlacbpmpaaGreatDoor
open Go.RowKit

theorem RatCell.apart {w w' : World} {p g : Nat} {r r' : Rw} (h : RatCell w p r) (hne : p ≠ g) (hg : RatCell w g r') (ho : OnlyAt g w w') : RatCell w' p r := by
  obtain ⟨b1, d1, b2, d2, _, hf, _, _⟩ := hg
  obtain ⟨a1, c1, a2, c2, h1, h2, h3, h4⟩ := h
  have hl := h2.lt
  obtain ⟨cur, e2, k1, k2⟩ := h2
  exact ⟨a1, c1, a2, c2, ho.row h1 hne, ⟨cur, e2, (ho.block p hl hne).trans k1, k2⟩, h3.apart hf (by simp) ho, h4.apart hf (by simp) ho⟩
end Go.Proofs.YtpaedhlacbpmpaaGreatDoor

/-
  Walk: Value of a polynomial.
-/
namespace Go.Proofs.YtpaedhlacbpmpaaGreatDoor
open Go.RowKit Go.Maps

theorem val_take {p : Pol} {s j : Nat} (h : j < p.length) : valP (p.take (j + 1)) s = valP (p.take j) s + if subN p[j].1 s = true then p[j].2 else 0 := by
  unfold valP
  rw [List.take_succ_eq_append_getElem h, sumP_app]
  have e : sumP (fun t => ind (subN t s)) [p[j]] = p[j].2 * ind (subN p[j].1 s) + 0 := rfl
  rw [e]
  unfold ind
  by_cases hb : subN p[j].1 s = true
  · rw [if_pos hb, if_pos hb, Rat.mul_one, Rat.add_zero]
  · rw [if_neg hb, if_neg hb, Rat.mul_zero, Rat.add_zero]
theorem val_short {p : Pol} {c s : Nat} (hc : 1 ≤ c) (hp : ShP c p) : ∀ j, j ≤ p.length → (canR (valP (p.take j) s)).Short ((c + 1) * j + 1) := by
  intro j
  induction j with
  | zero => intro _; exact ⟨Nat.zero_le _, Nat.zero_le _⟩
  | succ j ih =>
    intro hj
    have hl : j < p.length := by omega
    have ih := ih (by omega)
    rw [val_take hl, Nat.mul_succ]
    by_cases hb : subN p[j].1 s = true
    · rw [if_pos hb]
      have h := short_add (canR_ok (valP (p.take j) s)) (canR_ok p[j].2) ih (hp _ (List.getElem_mem _)) (by omega) hc
      rw [ratOf_can, ratOf_can] at h
      exact ⟨Nat.le_trans h.1 (by omega), Nat.le_trans h.2 (by omega)⟩
    · rw [if_neg hb, Rat.add_zero]
      exact ⟨Nat.le_trans ih.1 (by omega), Nat.le_trans ih.2 (by omega)⟩
set_option maxRecDepth 100000 in
set_option maxHeartbeats 16000000 in
theorem pvalue_any (v : Value) (p : Pol) (s : Nat) (w : World) (hp : TrmsAt w v (polT p)) (ha : Acc p) (hsp : ShP 100000 p) (hs : s < 16777216) : Calls Tryz.prog 22 #[v, .int .i64 s] w fun e w' => (∃ v', e = .returned (.tuple #[v', .nilIface]) ∧ RatAt w' v' (canR (valP p s))) ∧ Kept w w' := by
  have HCH : Hid (∀ W, Kept w W → Calls Tryz.prog 21 #[v] W fun e w' => e = .returned .nilIface ∧ Kept W w') := Lib.hid fun W hk => by
    have h := pcheck20_any v (polT p) W (hp.kept hk) (hsp.mono (by omega)).t
    rw [chkT_pol ha, errV_zero] at h
    exact h
  have HVA : Hid (∀ W, Calls Tryz.prog 62 #[.int .i64 s] W fun e w' => e = .returned (.bool true) ∧ W = w') := Lib.hid fun W => by
    have h := valid_any s W
    rw [decide_eq_true (by omega)] at h
    exact h
  have HSB : Hid (∀ (t : Nat) W, t < 16777216 → Calls Tryz.prog 65 #[.int .i64 t, .int .i64 s] W fun e w' => e = .returned (.bool (subN t s)) ∧ W = w') := Lib.hid fun t W ht => by
    have h := subset_any t s W
    rw [subB_subN (by unfold Mk; omega) (by unfold Mk; omega)] at h
    exact h
  have HTK : Hid (∀ j (h : j < p.length), valP (p.take (j + 1)) s = valP (p.take j) s + if subN p[j].1 s = true then p[j].2 else 0) := Lib.hid fun j h => val_take h
  have HSV : Hid (∀ j, j ≤ p.length → (canR (valP (p.take j) s)).Short 68719476736) := Lib.hid fun j hj => by
    have h := val_short (s := s) (c := 100000) (by omega) hsp j hj
    have := ha.len
    have h2 : 100001 * j ≤ 100001 * 4096 := Nat.mul_le_mul_left _ (by omega)
    exact ⟨Nat.le_trans h.1 (by omega), Nat.le_trans h.2 (by omega)⟩
  obtain ⟨a, ac, rfl⟩ := hp.shape
  obtain ⟨n, hn⟩ : ∃ n, n = p.length := ⟨_, rfl⟩
  rw [polT_len, ← hn] at hp HCH ⊢
  have hnl : n ≤ 4096 := by rw [hn]; exact ha.len
  have HP := Lib.hid hp
  have HN := Lib.hid hn
  have HSP := Lib.hid hsp
  have HBP := Lib.hid ha.bit
  obtain ⟨w0, hw0⟩ : ∃ w0, w0 = w.alloc (.cells #[.bool false, .slice none 0 0, .slice none 0 0] 38) := ⟨_, rfl⟩
  have HR0 : Hid (RatCell w0 w.heap.size ⟨false, [], []⟩) := Lib.hid (by rw [hw0]; exact RatCell.zero w)
  have HK0 : Hid (Kept w w0) := Lib.hid (by rw [hw0]; exact (Kept.refl _).alloc _)
  have HW0 := Lib.hid hw0
  have HZ0 : Hid (w0.heap.size = w.heap.size + 1) := Lib.hid (by rw [hw0]; simp)
  clear hp ha hsp hn hw0
  go_enter Tryz.func22, Tryz.ntmps22
  go_wp2_with fail
  rw [← HW0.out]
  refine (HCH.out _ HK0.out).mono ?_
  rintro e w1 ⟨rfl, hk1⟩
  have HR1 := Lib.hid (HR0.out.kept hk1)
  have HK1 := Lib.hid (HK0.out.trans hk1)
  have HZ1 : Hid (w.heap.size < w1.heap.size) := Lib.hid (by have := hk1.size; have := HZ0.out; omega)
  clear hk1
  go_wp2_with fail
  refine (HVA.out _).mono ?_
  rintro e w9 ⟨rfl, rfl⟩
  obtain ⟨w2, hw2⟩ : ∃ w2, w2 = w1.alloc (.cells #[.bool false, .slice none 0 0, .slice none 0 0] 38) := ⟨_, rfl⟩
  have HC2 : Hid (RatCell w2 w1.heap.size (canR (valP (p.take 0) s))) := Lib.hid (by rw [hw2]; exact RatCell.zero w1)
  have HR2 : Hid (RatCell w2 w.heap.size ⟨false, [], []⟩) := Lib.hid (HR1.out.kept (by rw [hw2]; exact (Kept.refl _).alloc _))
  have HK2 : Hid (Kept w w2) := Lib.hid (HK1.out.trans (by rw [hw2]; exact (Kept.refl _).alloc _))
  have HW2 := Lib.hid hw2
  clear hw2
  go_wp2_with fail
  rw [← HW2.out]
  go_loopg [23] n (fun kx sj wr => ∃ j : Nat, j ≤ n ∧ sj = .int .i64 j ∧ n - j ≤ kx ∧ Hid (RatCell wr w1.heap.size (canR (valP (p.take j) s))) ∧ Hid (RatCell wr w.heap.size ⟨false, [], []⟩) ∧ Hid (Kept w wr))
  case atStart => exact ⟨0, Nat.zero_le _, rfl, by omega, HC2, HR2, HK2⟩
  case round =>
    obtain ⟨j, hj, rfl, hjx, HC, HR, HKr⟩ := hrel
    obtain ⟨wi, rfl⟩ : ∃ wi : World, wi = wr := ⟨_, rfl⟩
    by_cases hlt : j < n
    · have hjn : (j : Int) < (n : Int) := by omega
      have hjl : j < p.length := by rw [← HN.out]; exact hlt
      obtain ⟨b, o, y1, y2, y3, a1, c1, a2, c2, rfl, z0, z1, z2, z3, HRT⟩ := (HP.out.kept HKr.out).term j hjl
      obtain ⟨t, ht⟩ : ∃ t, t = p[j].1 := ⟨_, rfl⟩
      obtain ⟨c, hc⟩ : ∃ c, c = p[j].2 := ⟨_, rfl⟩
      have hcs : (canR c).Short 100000 := by rw [hc]; exact HSP.out _ (List.getElem_mem _)
      have ht24 : t < 16777216 := by rw [ht]; exact HBP.out _ (List.getElem_mem _)
      have HST := Lib.hid (HTK.out j hjl)
      rw [← ht, ← hc] at HST
      have HSJ := Lib.hid (HSV.out j (Nat.le_of_lt hjl))
      rw [← ht] at z0
      rw [← hc] at HRT
      obtain ⟨bb, hbb⟩ : ∃ bb, bb = subN t s := ⟨_, rfl⟩
      have HSU : Hid (∀ W, Calls Tryz.prog 65 #[.int .i64 t, .int .i64 s] W fun e w' => e = .returned (.bool bb) ∧ W = w') := Lib.hid fun W => by rw [hbb]; exact HSB.out t W ht24
      rw [← hbb] at HST
      have HAD : Hid (∀ W u1 u2, RatAt W u1 (canR (valP (p.take j) s)) → RatAt W u2 (canR c) → Calls Tryz.prog 24 #[u1, u2] W fun e w' => (∃ v', e = .returned v' ∧ RatAt w' v' (canR (valP (p.take j) s + c))) ∧ Kept W w') := Lib.hid fun W u1 u2 k1 k2 => by
        have h := radd_any u1 u2 _ _ W k1 k2 HSJ.out ⟨Nat.le_trans hcs.1 (by omega), Nat.le_trans hcs.2 (by omega)⟩
        rw [ratOf_can, ratOf_can] at h
        exact h
      clear ht hc hcs hbb
      obtain ⟨w3, hw3⟩ : ∃ w3, w3 = wi.alloc (.cells #[.int .i64 t, .bool y1, .slice a1 y2 c1, .slice a2 y3 c2] 83) := ⟨_, rfl⟩
      have HX3 : Hid (RowAt w3 wi.heap.size 83 [.int .i64 t, .bool y1, .slice a1 y2 c1, .slice a2 y3 c2]) := Lib.hid (by rw [hw3]; exact RowAt.made wi #[.int .i64 t, .bool y1, .slice a1 y2 c1, .slice a2 y3 c2] 83)
      have HK3 : Hid (Kept wi w3) := Lib.hid (by rw [hw3]; exact (Kept.refl wi).alloc _)
      have HW3 := Lib.hid hw3
      have HR3 := Lib.hid (HRT.out.kept HK3.out)
      clear hw3
      go_wp2_with fail
      rw [← HW3.out]
      refine (HSU.out _).mono ?_
      rintro e w4 ⟨rfl, rfl⟩
      clear z0 z1 z2 z3
      cases bb with
      | false =>
        go_wp2_with fail
        go_roundg (n - (j + 1))
        case measure => omega
        case rel => exact ⟨j + 1, by omega, by go_num, Nat.le_refl _, Lib.hid (by rw [HST.out, if_neg (by simp), Rat.add_zero]; exact HC.out.kept HK3.out), Lib.hid (HR.out.kept HK3.out), Lib.hid (HKr.out.trans HK3.out)⟩
      | true =>
        obtain ⟨x0, x1, x2, x3⟩ := trm4_at HX3.out
        obtain ⟨p1, p2, p3, b1, d1, b2, d2, v0, v1, v2, hlv, HRO⟩ := (HC.out.kept HK3.out).read
        go_wp2_with fail
        refine (HAD.out _ _ _ HRO.out HR3.out).mono ?_
        rintro e w4 ⟨⟨v4, rfl, hv4⟩, hk4⟩
        have HK4 := Lib.hid (HK3.out.trans hk4)
        clear x0 x1 x2 x3 v0 v1 v2 hlv HRO
        obtain ⟨n5, l5, m5, g1, h1, g2, h2, w5, rfl, hw5, ⟨⟨t0, p0⟩, ⟨t1, q1⟩, ⟨t2, q2⟩⟩, ⟨f0, f1, f2⟩, hl6, _, _, HSN, HKP⟩ := (HC.out.kept HK4.out).save hv4
        have HKN := Lib.hid (HKP.out w (HKr.out.trans HK4.out) (Nat.le_of_lt HZ1.out))
        have HRN := Lib.hid ((HR.out.kept HK4.out).apart (w' := w5) (Nat.ne_of_lt HZ1.out) (HC.out.kept HK4.out) (by rw [hw5]; exact (((OnlyAt.refl _ _).store 0 _).store 1 _).store 2 _))
        rw [hw5] at HSN HKN HRN
        clear hv4 hk4 hw5 HKP
        go_wp2_with fail
        go_roundg (n - (j + 1))
        case measure => omega
        case rel => exact ⟨j + 1, by omega, by go_num, Nat.le_refl _, Lib.hid (by rw [HST.out]; simpa using HSN.out), HRN, HKN⟩
    · have hjn : ¬ (j : Int) < (n : Int) := by omega
      have hje : j = p.length := by have := HN.out; omega
      have HCE : Hid (RatCell wi w1.heap.size (canR (valP p s))) := Lib.hid (by have h := HC.out; rw [hje, List.take_length] at h; exact h)
      clear hje
      obtain ⟨p1, p2, p3, b1, d1, b2, d2, v0, v1, v2, hlv, HRO⟩ := HCE.out.read
      obtain ⟨n5, l5, m5, g1, h1, g2, h2, w5, he, hw5, ⟨⟨t0, p0⟩, ⟨t1, q1⟩, ⟨t2, q2⟩⟩, ⟨f0, f1, f2⟩, hl6, Y, HRA, _, HKP⟩ := HR.out.save HRO.out
      have HKN := Lib.hid (HKP.out w HKr.out (Nat.le_refl _))
      simp only [Value.agg.injEq, Array.mk.injEq, List.cons.injEq, Value.bool.injEq, Value.slice.injEq, and_true] at he
      obtain ⟨rfl, ⟨rfl, rfl, rfl⟩, rfl, rfl, rfl⟩ := he
      rw [hw5] at Y HRA HKN
      clear hw5 HKP
      go_wp2
      refine bodyPost_ret (v := .tuple #[.agg #[.bool p1, .slice b1 p2 d1, .slice b2 p3 d2], .nilIface]) ?_ rfl ⟨⟨_, rfl, HRA.out⟩, HKN.out⟩
      simp [results, Tryz.results22, go_sem, Y.out.1, Y.out.2.1, Y.out.2.2]
end Go.Proofs.YtpaedhlacbpmpaaGreatDoor

/-
  Walks: esary.bad, check; the reference's check. Printed by gen_EC1.py.
-/
namespace Go.Proofs.YtpaedhlacbpmpaaGreatDoor
open Go.RowKit

/-- The error of a family and probabilities. -/
def esE (xs : List Int) (ps : List Rw) : Nat :=
  if chkI xs ≠ 0 then chkI xs else if (natsI xs).any (fun s => decide ((ps.length : Int) ≤ gtK s)) = true then 11 else if badR ps = true then 3 else 0
end Go.Proofs.YtpaedhlacbpmpaaGreatDoor

/-
  Plain: means of numbers that rise with the events; bounds of Esary and Proschan; events apart.
-/
namespace Go.Proofs.YtpaedhlacbpmpaaGreatDoor
open Go.RowKit

/-- F does not fall if events fail. -/
def Rising (n : Nat) (F : Nat → Rat) : Prop := ∀ s t, s < 2 ^ n → t < 2 ^ n → subN s t = true → F s ≤ F t
/-- The product of numbers of a list. -/
def prodL {α : Type} (f : α → Rat) (l : List α) : Rat := l.foldl (fun a c => a * f c) 1
/-- F looks at the events of a set only. -/
def OnSet (n a : Nat) (F : Nat → Rat) : Prop := ∀ s t, s < 2 ^ n → t < 2 ^ n → (∀ i, a.testBit i = true → s.testBit i = t.testBit i) → F s = F t
end Go.Proofs.YtpaedhlacbpmpaaGreatDoor

/-
  Plain: the bounds of Esary and Proschan.
-/
namespace Go.Proofs.YtpaedhlacbpmpaaGreatDoor
open Go.RowKit

/-- The bounds: q the probabilities of the events, n their number. -/
def failQ (q : Nat → Rat) (n s : Nat) : Rat := wQ q (s, 0) n
def workQ (q : Nat → Rat) (n s : Nat) : Rat := wQ q (0, s) n
def noneQ (f : Nat → Rat) (l : List Nat) : Rat := prodL (fun s => 1 - f s) l
def mostQ (f : Nat → Rat) (l : List Nat) : Rat := l.foldl (fun a s => if a ≤ f s then f s else a) 0
/-- A state in which no path set works. -/
def hitB (l : List Nat) (s : Nat) : Bool := l.all fun t => !(t &&& s == 0)
section
variable {q : Nat → Rat} {n : Nat} (hq : ∀ i, i < n → 0 ≤ q i ∧ q i ≤ 1) {l : List Nat} (hl : ∀ t ∈ l, ∀ i, t.testBit i = true → i < n)
include hq hl
end
/-- Sets apart are independent. -/
def aparts : List Nat → Nat → Bool
  | [], _ => true
  | t :: l, a => (a &&& t == 0) && aparts l (a ||| t)
end Go.Proofs.YtpaedhlacbpmpaaGreatDoor

/-
  Plain: no bound falls if a probability rises.
-/
namespace Go.Proofs.YtpaedhlacbpmpaaGreatDoor
open Go.RowKit

def Rises (n : Nat) (q q' : Nat → Rat) : Prop := ∀ i, i < n → 0 ≤ q i ∧ q i ≤ q' i ∧ q' i ≤ 1
end Go.Proofs.YtpaedhlacbpmpaaGreatDoor

/-
  Plain: what the bounds of chapter 40 are, and how long their fractions become.
-/
namespace Go.Proofs.YtpaedhlacbpmpaaGreatDoor
open Go.RowKit

/-- The chances that events work. -/
def wpsR (ps : List Rw) : List Rw := ps.map fun r => canR (1 - ratOf r)
/-- The product of 1 less some numbers. -/
def noneA (f : Nat → Rat) (l : List Nat) : Rat := l.foldl (fun a s => a * (1 - f s)) 1
/-- The greatest of some numbers, 0 without any. -/
def greatA (f : Nat → Rat) (l : List Nat) : Rat := l.foldl (fun a s => maxQ a (f s)) 0
/-- The chance that a set fails, and that it works. -/
def fQ (ps : List Rw) (s : Nat) : Rat := prodQ s ps ps.length
def gQ (ps : List Rw) (s : Nat) : Rat := prodQ s (wpsR ps) (wpsR ps).length
end Go.Proofs.YtpaedhlacbpmpaaGreatDoor

/-
  Walks: 1 less a fraction (esary.not and the reference's); esary.fails, works.
-/
namespace Go.Proofs.YtpaedhlacbpmpaaGreatDoor
open Go.RowKit

/-- A fraction that is laid in a block, its cells in the same words. -/
theorem RatAt.boxc {w : World} {v : Value} {r : Rw} (h : RatAt w v r) : ∃ n l m a1 c1 a2 c2 w', v = .agg #[.bool n, .slice a1 l c1, .slice a2 m c2] ∧ w' = w.alloc (.cells #[.bool n, .slice a1 l c1, .slice a2 m c2] 38) ∧
    (w'.cell? ⟨w.heap.size, 0, none⟩ = some (.bool n) ∧ w'.cell? ⟨w.heap.size, 1, none⟩ = some (.slice a1 l c1) ∧ w'.cell? ⟨w.heap.size, 2, none⟩ = some (.slice a2 m c2)) ∧
    RatCell w' w.heap.size r ∧ Kept w w' ∧ RatAt w' (.agg #[.bool n, .slice a1 l c1, .slice a2 m c2]) r ∧ w'.heap.size = w.heap.size + 1 := by
  obtain ⟨n, l, m, a1, c1, a2, c2, w', rfl, rfl, h1, h2, h3, h4⟩ := h.box
  have hr := RowAt.made w #[.bool n, .slice a1 l c1, .slice a2 m c2] 38
  have q0 := hr.cell (i := 0) (by simp)
  have q1 := hr.cell (i := 1) (by simp)
  have q2 := hr.cell (i := 2) (by simp)
  exact ⟨n, l, m, a1, c1, a2, c2, _, rfl, rfl, ⟨q0, q1, q2⟩, h1, h2, h3, h4⟩
end Go.Proofs.YtpaedhlacbpmpaaGreatDoor

/-
  Walk: Eval of a polynomial.
-/
namespace Go.Proofs.YtpaedhlacbpmpaaGreatDoor
open Go.RowKit Go.Maps

/-- The value of a polynomial at fractions. -/
def evQ (xs : List Rw) (p : Pol) : Rat := evalP (qOf xs) (min xs.length 24) p
theorem ev_take {xs : List Rw} {p : Pol} {j : Nat} (h : j < p.length) : evQ xs (p.take (j + 1)) = evQ xs (p.take j) + p[j].2 * prodQ p[j].1 xs (min xs.length 24) := by
  unfold evQ evalP
  rw [List.take_succ_eq_append_getElem h, sumP_app, ← pQ_prod]
  show _ + (p[j].2 * _ + 0) = _
  rw [Rat.add_zero]
theorem cprod_short {s A : Nat} {c : Rat} {xs : List Rw} (hA : 1 ≤ A) (hc : (canR c).Short A) (hs : ∀ r ∈ xs, r.Short 4) (hok : ∀ r ∈ xs, r.Ok) : ∀ k, k ≤ xs.length → (canR (c * prodQ s xs k)).Short (A + 4 * k) := by
  intro k
  induction k with
  | zero => intro _; rw [show c * prodQ s xs 0 = c from Rat.mul_one c]; exact hc
  | succ k ih =>
    intro hk
    have ih := ih (by omega)
    have hx : xs.getD k default = xs[k] := by simp [List.getD_eq_getElem?_getD, show k < xs.length by omega]
    rw [prodQ_succ]
    split
    · have h := short_mul (canR_ok (c * prodQ s xs k)) (hok _ (List.getElem_mem (show k < xs.length by omega))) ih (hs _ (List.getElem_mem (show k < xs.length by omega))) (by omega) (by omega)
      rw [ratOf_can, ← hx, Rat.mul_assoc] at h
      exact ⟨Nat.le_trans h.1 (by omega), Nat.le_trans h.2 (by omega)⟩
    · exact ⟨Nat.le_trans ih.1 (by omega), Nat.le_trans ih.2 (by omega)⟩
theorem ev_short {p : Pol} {A : Nat} {xs : List Rw} (hA : 1 ≤ A) (hp : ShP A p) (hs : ∀ r ∈ xs, r.Short 4) (hok : ∀ r ∈ xs, r.Ok) : ∀ j, j ≤ p.length → (canR (evQ xs (p.take j))).Short ((A + 97) * j + 1) := by
  intro j
  induction j with
  | zero => intro _; exact ⟨Nat.zero_le _, Nat.zero_le _⟩
  | succ j ih =>
    intro hj
    have hl : j < p.length := by omega
    have ih := ih (by omega)
    have hc := cprod_short (s := p[j].1) hA (hp _ (List.getElem_mem hl)) hs hok (min xs.length 24) (Nat.min_le_left _ _)
    rw [ev_take hl, Nat.mul_succ]
    have h := short_add (canR_ok (evQ xs (p.take j))) (canR_ok (p[j].2 * prodQ p[j].1 xs (min xs.length 24))) ih hc (by omega) (by omega)
    rw [ratOf_can, ratOf_can] at h
    have h24 : min xs.length 24 ≤ 24 := Nat.min_le_right _ _
    exact ⟨Nat.le_trans h.1 (by omega), Nat.le_trans h.2 (by omega)⟩
set_option maxRecDepth 100000 in
set_option maxHeartbeats 16000000 in
theorem peval_any (v xv : Value) (p : Pol) (xs : List Rw) (w : World) (hp : TrmsAt w v (polT p)) (hx : RatsAt w xv xs) (ha : Acc p) (hsp : ShP 100000 p) (hx4 : ∀ r ∈ xs, r.Short 4) (hx30 : xs.length ≤ 30) (hg : ∀ t ∈ p, gtK t.1 < (xs.length : Int)) :
    Calls Tryz.prog 34 #[v, xv] w fun e w' => (∃ v', e = .returned (.tuple #[v', .nilIface]) ∧ RatAt w' v' (canR (evQ xs p))) ∧ Kept w w' := by
  have HCH : Hid (∀ W, Kept w W → Calls Tryz.prog 21 #[v] W fun e w' => e = .returned .nilIface ∧ Kept W w') := Lib.hid fun W hk => by
    have h := pcheck20_any v (polT p) W (hp.kept hk) (hsp.mono (by omega)).t
    rw [chkT_pol ha, errV_zero] at h
    exact h
  have HGT : Hid (∀ (t : Nat) W, t < 16777216 → Calls Tryz.prog 75 #[.int .i64 t] W fun e w' => e = .returned (.int .i64 (gtK t)) ∧ w' = W) := Lib.hid fun t W ht => great_any t ht W
  have HH := Lib.hid (fun (s i : Nat) (hs : s < 16777216) W => hasS_any s i hs W)
  have HTK : Hid (∀ j (h : j < p.length), evQ xs (p.take (j + 1)) = evQ xs (p.take j) + p[j].2 * prodQ p[j].1 xs (min xs.length 24)) := Lib.hid fun j h => ev_take h
  have HSV : Hid (∀ j, j ≤ p.length → (canR (evQ xs (p.take j))).Short 68719476736) := Lib.hid fun j hj => by
    have h := ev_short (A := 100000) (by omega) hsp hx4 hx.ok j hj
    have := ha.len
    have h2 : 100097 * j ≤ 100097 * 4096 := Nat.mul_le_mul_left _ (by omega)
    exact ⟨Nat.le_trans h.1 (by omega), Nat.le_trans h.2 (by omega)⟩
  have HCP : Hid (∀ s c k, (canR c).Short 100000 → k ≤ xs.length → (canR (c * prodQ s xs k)).Short 34359738368) := Lib.hid fun s c k hc hk => by
    have h := cprod_short (s := s) (by omega) hc hx4 hx.ok k hk
    exact ⟨Nat.le_trans h.1 (by omega), Nat.le_trans h.2 (by omega)⟩
  obtain ⟨a, ac, rfl⟩ := hp.shape
  obtain ⟨xa, xc, rfl⟩ := hx.shape
  obtain ⟨n, hn⟩ : ∃ n, n = p.length := ⟨_, rfl⟩
  obtain ⟨m, hm⟩ : ∃ m, m = xs.length := ⟨_, rfl⟩
  obtain ⟨q, hq⟩ : ∃ q, q = min m 24 := ⟨_, rfl⟩
  rw [polT_len, ← hn] at hp HCH ⊢
  rw [← hm] at hx hx30 hg HTK HCP ⊢
  rw [← hq] at HTK
  have hnl : n ≤ 4096 := by rw [hn]; exact ha.len
  have hmc : m ≤ xc ∧ (xa = none → xc = 0) := by
    obtain ⟨a1, c1, h1, h2, _⟩ := hx
    cases h1; rwa [← hm] at h2
  have hqm : q ≤ m := by omega
  have hq24 : q ≤ 24 := by omega
  have HP := Lib.hid hp
  have HXV := Lib.hid hx
  have HN := Lib.hid hn
  have HM := Lib.hid hm
  have HSP := Lib.hid hsp
  have HX4 := Lib.hid hx4
  have HBP := Lib.hid ha.bit
  have HG := Lib.hid hg
  obtain ⟨w0, hw0⟩ : ∃ w0, w0 = w.alloc (.cells #[.bool false, .slice none 0 0, .slice none 0 0] 38) := ⟨_, rfl⟩
  have HR0 : Hid (RatCell w0 w.heap.size ⟨false, [], []⟩) := Lib.hid (by rw [hw0]; exact RatCell.zero w)
  have HK0 : Hid (Kept w w0) := Lib.hid (by rw [hw0]; exact (Kept.refl _).alloc _)
  have HW0 := Lib.hid hw0
  have HZ0 : Hid (w0.heap.size = w.heap.size + 1) := Lib.hid (by rw [hw0]; simp)
  clear hp hx ha hsp hn hm hx4 hg hw0
  go_enter Tryz.func34, Tryz.ntmps34
  go_wp2_with fail
  rw [← HW0.out]
  refine (HCH.out _ HK0.out).mono ?_
  rintro e w1 ⟨rfl, hk1⟩
  have HK1 := Lib.hid (HK0.out.trans hk1)
  have HZ1 : Hid (w.heap.size < w1.heap.size) := Lib.hid (by have := hk1.size; have := HZ0.out; omega)
  obtain ⟨w2, hw2⟩ : ∃ w2, w2 = w1.alloc (.cells #[.bool false, .slice none 0 0, .slice none 0 0] 38) := ⟨_, rfl⟩
  have HC2 : Hid (RatCell w2 w1.heap.size (canR (evQ xs (p.take 0)))) := Lib.hid (by rw [hw2]; exact RatCell.zero w1)
  have HR2 : Hid (RatCell w2 w.heap.size ⟨false, [], []⟩) := Lib.hid ((HR0.out.kept hk1).kept (by rw [hw2]; exact (Kept.refl _).alloc _))
  have HK2 : Hid (Kept w w2) := Lib.hid (HK1.out.trans (by rw [hw2]; exact (Kept.refl _).alloc _))
  have HW2 := Lib.hid hw2
  clear hw2 hk1
  go_wp2_with fail
  rw [← HW2.out]
  go_loopg [21] n (fun kx sj wr => ∃ j : Nat, j ≤ n ∧ sj = .int .i64 j ∧ n - j ≤ kx ∧ Hid (RatCell wr w1.heap.size (canR (evQ xs (p.take j)))) ∧ Hid (RatCell wr w.heap.size ⟨false, [], []⟩) ∧ Hid (Kept w wr))
  case atStart => exact ⟨0, Nat.zero_le _, rfl, by omega, HC2, HR2, HK2⟩
  case round =>
    obtain ⟨j, hj, rfl, hjx, HC, HR, HKr⟩ := hrel
    obtain ⟨wi, rfl⟩ : ∃ wi : World, wi = wr := ⟨_, rfl⟩
    by_cases hlt : j < n
    · have hjn : (j : Int) < (n : Int) := by omega
      have hjl : j < p.length := by rw [← HN.out]; exact hlt
      obtain ⟨b, o, y1, y2, y3, a1, c1, a2, c2, rfl, z0, z1, z2, z3, HRT⟩ := (HP.out.kept HKr.out).term j hjl
      obtain ⟨t, ht⟩ : ∃ t, t = p[j].1 := ⟨_, rfl⟩
      obtain ⟨c, hc⟩ : ∃ c, c = p[j].2 := ⟨_, rfl⟩
      have hcs : (canR c).Short 100000 := by rw [hc]; exact HSP.out _ (List.getElem_mem _)
      have ht24 : t < 16777216 := by rw [ht]; exact HBP.out _ (List.getElem_mem _)
      have htg : gtK t < (m : Int) := by rw [ht]; exact HG.out _ (List.getElem_mem _)
      have HST := Lib.hid (HTK.out j hjl)
      rw [← ht, ← hc] at HST
      have HSJ := Lib.hid (HSV.out j (Nat.le_of_lt hjl))
      have HCK : Hid (∀ k, k ≤ m → (canR (c * prodQ t xs k)).Short 34359738368) := Lib.hid fun k hk => HCP.out t c k hcs hk
      rw [← ht] at z0
      rw [← hc] at HRT
      obtain ⟨gt, hgt⟩ : ∃ gt, gt = gtK t := ⟨_, rfl⟩
      have HGR : Hid (∀ W, Calls Tryz.prog 75 #[.int .i64 t] W fun e w' => e = .returned (.int .i64 gt) ∧ w' = W) := Lib.hid fun W => by rw [hgt]; exact HGT.out t W ht24
      have HHT : Hid (∀ (i : Nat) W, Calls Tryz.prog 73 #[.int .i64 t, .int .i64 i] W fun e w' => e = .returned (.bool (t.testBit i)) ∧ w' = W) := Lib.hid fun i W => HH.out t i ht24 W
      rw [← hgt] at htg
      have hge : ¬ (m : Int) ≤ gt := by omega
      clear ht hc hcs hgt
      obtain ⟨w3, hw3⟩ : ∃ w3, w3 = wi.alloc (.cells #[.int .i64 t, .bool y1, .slice a1 y2 c1, .slice a2 y3 c2] 83) := ⟨_, rfl⟩
      have HX3 : Hid (RowAt w3 wi.heap.size 83 [.int .i64 t, .bool y1, .slice a1 y2 c1, .slice a2 y3 c2]) := Lib.hid (by rw [hw3]; exact RowAt.made wi #[.int .i64 t, .bool y1, .slice a1 y2 c1, .slice a2 y3 c2] 83)
      have HK3 : Hid (Kept wi w3) := Lib.hid (by rw [hw3]; exact (Kept.refl wi).alloc _)
      have HW3 := Lib.hid hw3
      have HR3 := Lib.hid (HRT.out.kept HK3.out)
      clear hw3
      go_wp2_with fail
      rw [← HW3.out]
      obtain ⟨x0, x1, x2, x3⟩ := trm4_at HX3.out
      clear z0 z1 z2 z3
      go_wp2_with fail
      refine (HGR.out _).mono ?_
      rintro e w9 ⟨rfl, rfl⟩
      obtain ⟨n4, l4, m4, e1, f1, e2, f2, w5, he, hw5, _, hc5, hk5, _, _⟩ := HR3.out.boxc
      simp only [Value.agg.injEq, Array.mk.injEq, List.cons.injEq, Value.bool.injEq, Value.slice.injEq, and_true] at he
      obtain ⟨rfl, ⟨rfl, rfl, rfl⟩, rfl, rfl, rfl⟩ := he
      have HC5 : Hid (RatCell w5 w9.heap.size (canR (c * prodQ t xs 0))) := Lib.hid (by rw [show c * prodQ t xs 0 = c from Rat.mul_one c]; exact hc5)
      have HK5 := Lib.hid hk5
      have HW5 := Lib.hid hw5
      have hmn : min (m : Int) 24 = (q : Int) := by omega
      have hmx : max (q : Int) 0 = (q : Int) := by omega
      clear hc5 hk5 hw5 HR3 HRT
      go_wp2_with fail
      rw [← HW5.out]
      go_loopg [41] q (fun ky s41 wq => ∃ k : Nat, k ≤ q ∧ s41 = .int .i64 k ∧ q - k ≤ ky ∧ Hid (RatCell wq w9.heap.size (canR (c * prodQ t xs k))) ∧ Hid (Kept w9 wq))
      case atStart => exact ⟨0, Nat.zero_le _, rfl, by omega, HC5, HK5⟩
      case round =>
        obtain ⟨k, hk, rfl, hky, HX, HKq⟩ := hrel
        obtain ⟨wj, rfl⟩ : ∃ wj : World, wj = wr := ⟨_, rfl⟩
        have HKw := Lib.hid ((HKr.out.trans HK3.out).trans HKq.out)
        by_cases hlt2 : k < q
        · have hkq : (k : Int) < (q : Int) := by omega
          have hkl : k < xs.length := by have := HM.out; omega
          obtain ⟨b6, o6, u1, u2, rfl, hrg, hw1, hw2⟩ := HXV.out.get k hkl
          obtain ⟨a6, c6, rfl⟩ := hw1.shape
          obtain ⟨a7, c7, rfl⟩ := hw2.shape
          have hrg2 := range_same hrg HKw.out
          have hq1 : RatAt wj (.agg #[.bool (xs.getD k default).neg, .slice a6 (xs.getD k default).num.length c6, .slice a7 (xs.getD k default).den.length c7]) (xs.getD k default) := ⟨_, _, rfl, hw1.kept HKw.out, hw2.kept HKw.out⟩
          have hx4 : (xs.getD k default).Short 4 := by
            have e : xs.getD k default = xs[k] := by simp [List.getD_eq_getElem?_getD, hkl]
            rw [e]; exact HX4.out _ (List.getElem_mem _)
          have HSK := Lib.hid (HCK.out k (by omega))
          obtain ⟨x, hxx⟩ : ∃ x, x = xs.getD k default := ⟨_, rfl⟩
          have HXX := Lib.hid hxx
          rw [← hxx] at hrg2 hq1 hx4
          have HX3' := Lib.hid hx4
          obtain ⟨w6, hw6⟩ : ∃ w6, w6 = wj.alloc (.cells #[.bool x.neg, .slice a6 x.num.length c6, .slice a7 x.den.length c7] 38) := ⟨_, rfl⟩
          have hr6 := RowAt.made wj #[.bool x.neg, .slice a6 x.num.length c6, .slice a7 x.den.length c7] 38
          rw [← hw6] at hr6
          have hk6 : Kept wj w6 := by rw [hw6]; exact (Kept.refl _).alloc _
          have q0 := hr6.cell (i := 0) (by simp)
          have q1 := hr6.cell (i := 1) (by simp)
          have q2 := hr6.cell (i := 2) (by simp)
          simp only [List.getElem_cons_succ, List.getElem_cons_zero] at q0 q1 q2
          have HQ6 := Lib.hid (hq1.kept hk6)
          generalize x.neg = g0 at *
          generalize x.num.length = g1 at *
          generalize x.den.length = g2 at *
          have HRG : Hid (wj.rangeAt b6 (o6 + k * 3) [.bool g0, .slice a6 g1 c6, .slice a7 g2 c7]) := Lib.hid hrg2
          have HK6 := Lib.hid hk6
          have HW6 := Lib.hid hw6
          have y0 := (HKq.out.trans hk6).cell x0
          rw [hw6] at y0
          obtain ⟨tb, htb⟩ : ∃ tb, tb = t.testBit k := ⟨_, rfl⟩
          have HCH2 : Hid (∀ W, Calls Tryz.prog 73 #[.int .i64 t, .int .i64 k] W fun e w' => e = .returned (.bool tb) ∧ w' = W) := Lib.hid fun W => by rw [htb]; exact HHT.out k W
          clear hrg hrg2 hw1 hw2 hq1 hx4 hxx hw6 hr6 hk6 hkl
          cases tb with
          | false =>
            have HST2 : Hid (c * prodQ t xs (k + 1) = c * prodQ t xs k) := Lib.hid (by rw [prodQ_succ, if_neg (by rw [← htb]; simp)])
            clear htb
            go_wp2_with (with_reducible refine wpList_load_mid rfl 38 _ rfl b6 (o6 + k * 3) rfl _ _ HRG.out Tryz.underlying38 rfl (by kernel_rfl) ?_)
            rw [← HW6.out]
            refine (HCH2.out _).mono ?_
            rintro e w7 ⟨rfl, he7⟩
            rw [he7]
            clear he7
            go_wp2_with fail
            go_roundg (q - (k + 1))
            case measure => omega
            case rel => exact ⟨k + 1, by omega, by go_num, Nat.le_refl _, Lib.hid (by rw [HST2.out]; exact HX.out.kept HK6.out), Lib.hid (HKq.out.trans HK6.out)⟩
          | true =>
            have HML : Hid (∀ W u1 u2, RatAt W u1 (canR (c * prodQ t xs k)) → RatAt W u2 x → Calls Tryz.prog 26 #[u1, u2] W fun e w' => (∃ v', e = .returned v' ∧ RatAt w' v' (canR (c * prodQ t xs (k + 1)))) ∧ Kept W w') := Lib.hid fun W u1 u2 k1 k2 => by
              rw [prodQ_succ, if_pos htb.symm, ← HXX.out]
              have h := rmul_any _ _ _ _ W k1 k2 ⟨Nat.le_trans HSK.out.1 (by omega), Nat.le_trans HSK.out.2 (by omega)⟩ ⟨Nat.le_trans HX3'.out.1 (by omega), Nat.le_trans HX3'.out.2 (by omega)⟩
              rw [ratOf_can, Rat.mul_assoc] at h
              exact h
            clear htb
            obtain ⟨p1, p2, p3, e1, e2, e3, e4, v0, v1, v2, hlx, HXA⟩ := (HX.out.kept HK6.out).read
            go_wp2_with (with_reducible refine wpList_load_mid rfl 38 _ rfl b6 (o6 + k * 3) rfl _ _ HRG.out Tryz.underlying38 rfl (by kernel_rfl) ?_)
            rw [← HW6.out]
            refine (HCH2.out _).mono ?_
            rintro e w7 ⟨rfl, he7⟩
            rw [he7]
            clear he7
            go_wp2_with fail
            refine (HML.out _ _ _ HXA.out HQ6.out).mono ?_
            rintro e w7 ⟨⟨v7, rfl, hv7⟩, hk7⟩
            have hk67 := HK6.out.trans hk7
            obtain ⟨n8, l8, m8, a8, c8, b8, d8, w8, rfl, hw8, ⟨⟨r0, j0⟩, ⟨r1, j1⟩, ⟨r2, j2⟩⟩, ⟨f0, f1, f2⟩, hl8, _, _, HX8, HKP⟩ := (HX.out.kept hk67).save hv7
            have HKE := Lib.hid (HKP.out _ (HKq.out.trans hk67) (Nat.le_refl _))
            have HW8 := Lib.hid hw8
            clear hv7 hk7 hk67 hw8 HKP v0 v1 v2 hlx q0 q1 q2
            go_wp2_with fail
            rw [← HW8.out]
            go_roundg (q - (k + 1))
            case measure => omega
            case rel => exact ⟨k + 1, by omega, by go_num, Nat.le_refl _, HX8, HKE⟩
        · have hke : k = q := by omega
          have hkq : ¬ (k : Int) < (q : Int) := by omega
          have HX9 : Hid (RatCell wj w9.heap.size (canR (c * prodQ t xs q))) := Lib.hid (by rw [← hke]; exact HX.out)
          have HAD : Hid (∀ W u1 u2, RatAt W u1 (canR (evQ xs (p.take j))) → RatAt W u2 (canR (c * prodQ t xs q)) → Calls Tryz.prog 24 #[u1, u2] W fun e w' => (∃ v', e = .returned v' ∧ RatAt w' v' (canR (evQ xs (p.take (j + 1))))) ∧ Kept W w') := Lib.hid fun W u1 u2 k1 k2 => by
            have hs2 := HCK.out q hqm
            have h := radd_any u1 u2 _ _ W k1 k2 HSJ.out ⟨Nat.le_trans hs2.1 (by omega), Nat.le_trans hs2.2 (by omega)⟩
            rw [ratOf_can, ratOf_can, ← HST.out] at h
            exact h
          clear hke
          have HK39 := Lib.hid (HK3.out.trans HKq.out)
          obtain ⟨p1, p2, p3, e1, e2, e3, e4, v0, v1, v2, hlx, HXA⟩ := (HC.out.kept HK39.out).read
          obtain ⟨p4, p5, p6, e5, e6, e7, e8, v3, v4, v5, hly, HXB⟩ := HX9.out.read
          go_wp2_with fail
          refine (HAD.out _ _ _ HXA.out HXB.out).mono ?_
          rintro e wa ⟨⟨va, rfl, hva⟩, hka⟩
          have HK4 := Lib.hid (HK39.out.trans hka)
          clear v0 v1 v2 hlx v3 v4 v5 hly HXA HXB
          obtain ⟨n5, l5, m5, g1, h1, g2, h2, wb, rfl, hwb, ⟨⟨t0, p0⟩, ⟨t1, q1⟩, ⟨t2, q2⟩⟩, ⟨f0, f1, f2⟩, hl6, _, _, HSN, HKP⟩ := (HC.out.kept HK4.out).save hva
          have HKN := Lib.hid (HKP.out w (HKr.out.trans HK4.out) (Nat.le_of_lt HZ1.out))
          have HRN := Lib.hid ((HR.out.kept HK4.out).apart (w' := wb) (Nat.ne_of_lt HZ1.out) (HC.out.kept HK4.out) (by rw [hwb]; exact (((OnlyAt.refl _ _).store 0 _).store 1 _).store 2 _))
          rw [hwb] at HSN HKN HRN
          clear hva hka hwb HKP
          go_wp2_with fail
          go_roundg (n - (j + 1))
          case measure => omega
          case rel => exact ⟨j + 1, by omega, by go_num, Nat.le_refl _, HSN, HRN, HKN⟩
    · have hjn : ¬ (j : Int) < (n : Int) := by omega
      have hje : j = p.length := by have := HN.out; omega
      have HCE : Hid (RatCell wi w1.heap.size (canR (evQ xs p))) := Lib.hid (by have h := HC.out; rw [hje, List.take_length] at h; exact h)
      clear hje
      obtain ⟨p1, p2, p3, b1, d1, b2, d2, v0, v1, v2, hlv, HRO⟩ := HCE.out.read
      obtain ⟨n5, l5, m5, g1, h1, g2, h2, w5, he, hw5, ⟨⟨t0, p0⟩, ⟨t1, q1⟩, ⟨t2, q2⟩⟩, ⟨f0, f1, f2⟩, hl6, Y, HRA, _, HKP⟩ := HR.out.save HRO.out
      have HKN := Lib.hid (HKP.out w HKr.out (Nat.le_refl _))
      simp only [Value.agg.injEq, Array.mk.injEq, List.cons.injEq, Value.bool.injEq, Value.slice.injEq, and_true] at he
      obtain ⟨rfl, ⟨rfl, rfl, rfl⟩, rfl, rfl, rfl⟩ := he
      rw [hw5] at Y HRA HKN
      clear hw5 HKP
      go_wp2
      refine bodyPost_ret (v := .tuple #[.agg #[.bool p1, .slice b1 p2 d1, .slice b2 p3 d2], .nilIface]) ?_ rfl ⟨⟨_, rfl, HRA.out⟩, HKN.out⟩
      simp [results, Tryz.results34, go_sem, Y.out.1, Y.out.2.1, Y.out.2.2]
end Go.Proofs.YtpaedhlacbpmpaaGreatDoor

/-
  Walks: the errors of Add, Sub, Mul, Derive, Restrict, Eval, Value.
-/
namespace Go.Proofs.YtpaedhlacbpmpaaGreatDoor
open Go.RowKit Go.Maps

set_option maxRecDepth 100000 in
theorem padd_err (v u : Value) (ts us : List Trm) (w : World) (hv : TrmsAt w v ts) (hu : TrmsAt w u us) (h1 : ShT 34359738368 ts) (h2 : ShT 34359738368 us) (hE : bothE ts us ≠ 0) :
    Calls Tryz.prog 13 #[v, u] w fun e w' => e = .returned (.tuple #[.slice none 0 0, errV (bothE ts us)]) ∧ Kept w w' := by
  have HB : Hid (Calls Tryz.prog 54 #[v, u] w fun e w' => e = .returned (errV (bothE ts us)) ∧ Kept w w') := Lib.hid (both_any v u ts us w hv hu h1 h2)
  obtain ⟨q, hq⟩ : ∃ q, q = bothE ts us := ⟨_, rfl⟩
  rw [← hq] at HB hE ⊢
  rw [errV_pos hE] at HB ⊢
  clear hq hv hu h1 h2
  go_enter Tryz.func13, Tryz.ntmps13
  go_wp2_with fail
  refine HB.out.mono ?_
  rintro e w1 ⟨rfl, hk1⟩
  go_wp2
  go_ret2
  exact ⟨rfl, hk1⟩
set_option maxRecDepth 100000 in
theorem psub_err (v u : Value) (ts us : List Trm) (w : World) (hv : TrmsAt w v ts) (hu : TrmsAt w u us) (h1 : ShT 34359738368 ts) (h2 : ShT 34359738368 us) (hE : bothE ts us ≠ 0) :
    Calls Tryz.prog 14 #[v, u] w fun e w' => e = .returned (.tuple #[.slice none 0 0, errV (bothE ts us)]) ∧ Kept w w' := by
  have HB : Hid (Calls Tryz.prog 54 #[v, u] w fun e w' => e = .returned (errV (bothE ts us)) ∧ Kept w w') := Lib.hid (both_any v u ts us w hv hu h1 h2)
  obtain ⟨q, hq⟩ : ∃ q, q = bothE ts us := ⟨_, rfl⟩
  rw [← hq] at HB hE ⊢
  rw [errV_pos hE] at HB ⊢
  clear hq hv hu h1 h2
  go_enter Tryz.func14, Tryz.ntmps14
  go_wp2_with fail
  refine HB.out.mono ?_
  rintro e w1 ⟨rfl, hk1⟩
  go_wp2
  go_ret2
  exact ⟨rfl, hk1⟩
set_option maxRecDepth 100000 in
theorem pmul_err (v u : Value) (ts us : List Trm) (w : World) (hv : TrmsAt w v ts) (hu : TrmsAt w u us) (h1 : ShT 34359738368 ts) (h2 : ShT 34359738368 us) (hE : bothE ts us ≠ 0) :
    Calls Tryz.prog 15 #[v, u] w fun e w' => e = .returned (.tuple #[.slice none 0 0, errV (bothE ts us)]) ∧ Kept w w' := by
  have HB : Hid (Calls Tryz.prog 54 #[v, u] w fun e w' => e = .returned (errV (bothE ts us)) ∧ Kept w w') := Lib.hid (both_any v u ts us w hv hu h1 h2)
  obtain ⟨q, hq⟩ : ∃ q, q = bothE ts us := ⟨_, rfl⟩
  rw [← hq] at HB hE ⊢
  rw [errV_pos hE] at HB ⊢
  clear hq hv hu h1 h2
  go_enter Tryz.func15, Tryz.ntmps15
  go_wp2_with fail
  refine HB.out.mono ?_
  rintro e w1 ⟨rfl, hk1⟩
  go_wp2
  go_ret2
  exact ⟨rfl, hk1⟩
set_option maxRecDepth 100000 in
theorem pderive_err (v : Value) (ts : List Trm) (i : Int)  (w : World) (hv : TrmsAt w v ts) (h1 : ShT 34359738368 ts) (hE : givenE ts i ≠ 0) :
    Calls Tryz.prog 27 #[v, .int .i64 i] w fun e w' => e = .returned (.tuple #[.slice none 0 0, errV (givenE ts i)]) ∧ Kept w w' := by
  have HB : Hid (Calls Tryz.prog 72 #[v, .int .i64 i] w fun e w' => e = .returned (errV (givenE ts i)) ∧ Kept w w') := Lib.hid (given_any v ts i w hv h1)
  obtain ⟨q, hq⟩ : ∃ q, q = givenE ts i := ⟨_, rfl⟩
  rw [← hq] at HB hE ⊢
  rw [errV_pos hE] at HB ⊢
  clear hq hv h1
  go_enter Tryz.func27, Tryz.ntmps27
  go_wp2_with fail
  refine HB.out.mono ?_
  rintro e w1 ⟨rfl, hk1⟩
  go_wp2
  go_ret2
  exact ⟨rfl, hk1⟩
set_option maxRecDepth 100000 in
theorem prestrict_err (v : Value) (ts : List Trm) (i : Int) (b : Bool) (w : World) (hv : TrmsAt w v ts) (h1 : ShT 34359738368 ts) (hE : givenE ts i ≠ 0) :
    Calls Tryz.prog 28 #[v, .int .i64 i, .bool b] w fun e w' => e = .returned (.tuple #[.slice none 0 0, errV (givenE ts i)]) ∧ Kept w w' := by
  have HB : Hid (Calls Tryz.prog 72 #[v, .int .i64 i] w fun e w' => e = .returned (errV (givenE ts i)) ∧ Kept w w') := Lib.hid (given_any v ts i w hv h1)
  obtain ⟨q, hq⟩ : ∃ q, q = givenE ts i := ⟨_, rfl⟩
  rw [← hq] at HB hE ⊢
  rw [errV_pos hE] at HB ⊢
  clear hq hv h1
  go_enter Tryz.func28, Tryz.ntmps28
  go_wp2_with fail
  refine HB.out.mono ?_
  rintro e w1 ⟨rfl, hk1⟩
  go_wp2
  go_ret2
  exact ⟨rfl, hk1⟩
set_option maxRecDepth 100000 in
theorem peval_err (v : Value) (ts : List Trm) (xv : Value) (w : World) (hv : TrmsAt w v ts) (h1 : ShT 34359738368 ts) (hE : chkT ts ≠ 0) :
    Calls Tryz.prog 34 #[v, xv] w fun e w' => e = .returned (.tuple #[.agg #[.bool false, .slice none 0 0, .slice none 0 0], errV (chkT ts)]) ∧ Kept w w' := by
  obtain ⟨w0, hw0⟩ : ∃ w0, w0 = w.alloc (.cells #[.bool false, .slice none 0 0, .slice none 0 0] 38) := ⟨_, rfl⟩
  have hk0 : Kept w w0 := by rw [hw0]; exact (Kept.refl _).alloc _
  have HB : Hid (Calls Tryz.prog 21 #[v] w0 fun e w' => e = .returned (errV (chkT ts)) ∧ Kept w0 w') := Lib.hid (pcheck20_any v ts w0 (hv.kept hk0) h1)
  have HR0 : Hid (RatCell w0 w.heap.size ⟨false, [], []⟩) := Lib.hid (by rw [hw0]; exact RatCell.zero w)
  have HK0 := Lib.hid hk0
  have HW0 := Lib.hid hw0
  obtain ⟨q, hq⟩ : ∃ q, q = chkT ts := ⟨_, rfl⟩
  rw [← hq] at HB hE ⊢
  rw [errV_pos hE] at HB ⊢
  clear hq hv h1 hk0 hw0
  go_enter Tryz.func34, Tryz.ntmps34
  go_wp2_with fail
  rw [← HW0.out]
  refine HB.out.mono ?_
  rintro e w1 ⟨rfl, hk1⟩
  have HRO : RatAt w1 (.agg #[.bool false, .slice none 0 0, .slice none 0 0]) ⟨false, [], []⟩ := ⟨_, _, rfl, WdsAt.nil w1, WdsAt.nil w1⟩
  have HKN0 := Lib.hid (HK0.out.trans hk1)
  obtain ⟨n5, l5, m5, g1, h1, g2, h2, w5, he, hw5, ⟨⟨t0, p0⟩, ⟨t1, q1⟩, ⟨t2, q2⟩⟩, ⟨f0, f1, f2⟩, hl6, Y, HRA, _, HKP⟩ := (HR0.out.kept hk1).save HRO
  have HKN := Lib.hid (HKP.out w HKN0.out (Nat.le_refl _))
  simp only [Value.agg.injEq, Array.mk.injEq, List.cons.injEq, Value.bool.injEq, Value.slice.injEq, and_true] at he
  obtain ⟨rfl, ⟨rfl, rfl, rfl⟩, rfl, rfl, rfl⟩ := he
  rw [hw5] at Y HRA HKN
  clear hw5 HKP
  go_wp2
  refine bodyPost_ret (v := .tuple #[.agg #[.bool false, .slice none 0 0, .slice none 0 0], errV q]) ?_ rfl ⟨by rw [errV_pos hE], HKN.out⟩
  simp [results, Tryz.results34, go_sem, Y.out.1, Y.out.2.1, Y.out.2.2, errV_pos hE]
set_option maxRecDepth 100000 in
theorem pvalue_err (v : Value) (ts : List Trm) (s : Int) (w : World) (hv : TrmsAt w v ts) (h1 : ShT 34359738368 ts) (hE : chkT ts ≠ 0) :
    Calls Tryz.prog 22 #[v, .int .i64 s] w fun e w' => e = .returned (.tuple #[.agg #[.bool false, .slice none 0 0, .slice none 0 0], errV (chkT ts)]) ∧ Kept w w' := by
  obtain ⟨w0, hw0⟩ : ∃ w0, w0 = w.alloc (.cells #[.bool false, .slice none 0 0, .slice none 0 0] 38) := ⟨_, rfl⟩
  have hk0 : Kept w w0 := by rw [hw0]; exact (Kept.refl _).alloc _
  have HB : Hid (Calls Tryz.prog 21 #[v] w0 fun e w' => e = .returned (errV (chkT ts)) ∧ Kept w0 w') := Lib.hid (pcheck20_any v ts w0 (hv.kept hk0) h1)
  have HR0 : Hid (RatCell w0 w.heap.size ⟨false, [], []⟩) := Lib.hid (by rw [hw0]; exact RatCell.zero w)
  have HK0 := Lib.hid hk0
  have HW0 := Lib.hid hw0
  obtain ⟨q, hq⟩ : ∃ q, q = chkT ts := ⟨_, rfl⟩
  rw [← hq] at HB hE ⊢
  rw [errV_pos hE] at HB ⊢
  clear hq hv h1 hk0 hw0
  go_enter Tryz.func22, Tryz.ntmps22
  go_wp2_with fail
  rw [← HW0.out]
  refine HB.out.mono ?_
  rintro e w1 ⟨rfl, hk1⟩
  have HRO : RatAt w1 (.agg #[.bool false, .slice none 0 0, .slice none 0 0]) ⟨false, [], []⟩ := ⟨_, _, rfl, WdsAt.nil w1, WdsAt.nil w1⟩
  have HKN0 := Lib.hid (HK0.out.trans hk1)
  obtain ⟨n5, l5, m5, g1, h1, g2, h2, w5, he, hw5, ⟨⟨t0, p0⟩, ⟨t1, q1⟩, ⟨t2, q2⟩⟩, ⟨f0, f1, f2⟩, hl6, Y, HRA, _, HKP⟩ := (HR0.out.kept hk1).save HRO
  have HKN := Lib.hid (HKP.out w HKN0.out (Nat.le_refl _))
  simp only [Value.agg.injEq, Array.mk.injEq, List.cons.injEq, Value.bool.injEq, Value.slice.injEq, and_true] at he
  obtain ⟨rfl, ⟨rfl, rfl, rfl⟩, rfl, rfl, rfl⟩ := he
  rw [hw5] at Y HRA HKN
  clear hw5 HKP
  go_wp2
  refine bodyPost_ret (v := .tuple #[.agg #[.bool false, .slice none 0 0, .slice none 0 0], errV q]) ?_ rfl ⟨by rw [errV_pos hE], HKN.out⟩
  simp [results, Tryz.results22, go_sem, Y.out.1, Y.out.2.1, Y.out.2.2, errV_pos hE]
end Go.Proofs.YtpaedhlacbpmpaaGreatDoor

/-
  Walk: Sub of two polynomials. Printed by gen_PC1.py.
-/
namespace Go.Proofs.YtpaedhlacbpmpaaGreatDoor
open Go.RowKit Go.Maps

set_option maxRecDepth 100000 in
set_option maxHeartbeats 16000000 in
theorem psub_any (v u : Value) (p q : Pol) (w : World) (hp : TrmsAt w v (polT p)) (hq : TrmsAt w u (polT q)) (ha : Acc p) (hb : Acc q) (hsp : ShP 1000 p) (hsq : ShP 1000 q) : Calls Tryz.prog 14 #[v, u] w fun e w' => TRes w' e (subO p q) ∧ Kept w w' := by
  have HCH : Hid (Calls Tryz.prog 54 #[v, u] w fun e w' => e = .returned .nilIface ∧ Kept w w') := Lib.hid (by
    have h := both_any v u (polT p) (polT q) w hp hq (hsp.mono (by omega)).t (hsq.mono (by omega)).t
    unfold bothE at h
    rw [chkT_pol ha, if_pos rfl, chkT_pol hb, errV_zero] at h
    exact h)
  obtain ⟨R, hR⟩ : ∃ R, R = subO p q := ⟨_, rfl⟩
  have HRE := Lib.hid hR
  rw [← hR]
  obtain ⟨a, ac, rfl⟩ := hp.shape
  obtain ⟨b9, bc, rfl⟩ := hq.shape
  obtain ⟨n, hn⟩ : ∃ n, n = p.length := ⟨_, rfl⟩
  obtain ⟨m, hm⟩ : ∃ m, m = q.length := ⟨_, rfl⟩
  rw [polT_len, ← hn] at hp HCH ⊢
  rw [polT_len, ← hm] at hq HCH ⊢
  have hnl : n ≤ 4096 := by rw [hn]; exact ha.len
  have hml : m ≤ 4096 := by rw [hm]; exact hb.len
  have HP := Lib.hid hp
  have HQ := Lib.hid hq
  have HN := Lib.hid hn
  have HM := Lib.hid hm
  have HSP := Lib.hid hsp
  have HSQ := Lib.hid hsq
  have HBP := Lib.hid ha.bit
  have HBQ := Lib.hid hb.bit
  have HSTEP1 : Hid (∀ j (h : j < p.length), p.take (j + 1) = p.take j ++ [(p[j].1, p[j].2)]) := Lib.hid fun j h => by rw [List.take_succ_eq_append_getElem h]
  have HSH1 : Hid (∀ j, ShP 2000 (p.take j)) := Lib.hid fun j => (hsp.mono (by omega)).take j
  have HLN1 : Hid (∀ j, (p.take j).length ≤ 16777216) := Lib.hid fun j => by have := ha.len; rw [List.length_take]; omega
  have HSTEP2 : Hid (∀ j (h : j < q.length), p ++ negP (q.take (j + 1)) = (p ++ negP (q.take j)) ++ [(q[j].1, -q[j].2)]) := Lib.hid fun j h => by unfold negP; rw [List.take_succ_eq_append_getElem h, List.map_append, List.map_cons, List.map_nil, List.append_assoc]
  have HSH2 : Hid (∀ j, ShP 2000 (p ++ negP (q.take j))) := Lib.hid fun j => (hsp.mono (by omega)).app (((hsq.mono (by omega)).take j).neg (by omega))
  have HLN2 : Hid (∀ j, (p ++ negP (q.take j)).length ≤ 16777216) := Lib.hid fun j => by have := ha.len; have := hb.len; rw [List.length_append, show (negP (q.take j)).length = (q.take j).length from List.length_map .., List.length_take]; omega
  have HBT : Hid (∀ t ∈ p ++ negP q, t.1 < 16777216) := Lib.hid fun t ht => by
    rcases List.mem_append.1 ht with h | h
    · exact ha.bit t h
    · obtain ⟨u, hu, rfl⟩ := mem_negP h; exact hb.bit u hu
  have HSHT : Hid (ShP 2000 (p ++ negP q)) := Lib.hid ((hsp.mono (by omega)).app ((hsq.mono (by omega)).neg (by omega)))
  have HLNT : Hid ((p ++ negP q).length ≤ 16777216) := Lib.hid (by have := ha.len; have := hb.len; rw [List.length_append, show (negP q).length = q.length from List.length_map ..]; omega)
  clear hp hq ha hb hsp hsq hR hn hm
  go_enter Tryz.func14, Tryz.ntmps14
  have hmm := @run_makeMap Tryz.prog
  go_wp2_with fail
  refine (HCH.out).mono ?_
  rintro e w1 ⟨rfl, hk1⟩
  obtain ⟨w2, hw2⟩ : ∃ w2, w2 = w1.alloc (.map #[] 0) := ⟨_, rfl⟩
  have HS2 : Hid (SumAt w2 w1.heap.size []) := Lib.hid (by rw [hw2]; exact map_made w1)
  have HK2 : Hid (Kept w w2) := Lib.hid (by rw [hw2]; exact hk1.alloc _)
  have HB : Hid (w.heap.size ≤ w1.heap.size) := Lib.hid hk1.size
  have HW2 := Lib.hid hw2
  clear hk1 hw2
  go_wp2_with fail
  rw [← HW2.out]
  go_loopg [21] n (fun kx sj wr => ∃ j : Nat, j ≤ n ∧ sj = .int .i64 j ∧ n - j ≤ kx ∧ Hid (SumAt wr w1.heap.size (p.take j)) ∧ Hid (Kept w wr))
  case atStart => exact ⟨0, Nat.zero_le _, rfl, by omega, Lib.hid (by have h := HS2.out; simpa using h), HK2⟩
  case round =>
    obtain ⟨j, hj, rfl, hjx, HS, HKr⟩ := hrel
    obtain ⟨wi, rfl⟩ : ∃ wi : World, wi = wr := ⟨_, rfl⟩
    by_cases hlt : j < n
    · have hjn : (j : Int) < (n : Int) := by omega
      have hjl : j < p.length := by rw [← HN.out]; exact hlt
      obtain ⟨b, o, y1, y2, y3, a1, c1, a2, c2, rfl, z0, z1, z2, z3, HRT⟩ := (HP.out.kept HKr.out).term j hjl
      obtain ⟨s, hs⟩ : ∃ s, s = p[j].1 := ⟨_, rfl⟩
      obtain ⟨c, hc⟩ : ∃ c, c = p[j].2 := ⟨_, rfl⟩
      have hcs : (canR c).Short 1000 := by rw [hc]; exact HSP.out _ (List.getElem_mem _)
      have hs24 : s < 16777216 := by rw [hs]; exact HBP.out _ (List.getElem_mem _)
      have HST := Lib.hid (HSTEP1.out j hjl)
      rw [← hs, ← hc] at HST
      have HS24 := Lib.hid hs24
      have HCS := Lib.hid hcs
      have HSJ := Lib.hid hs
      rw [← hs] at z0
      rw [← hc] at HRT
      clear hs hc hcs
      obtain ⟨w3, hw3⟩ : ∃ w3, w3 = wi.alloc (.cells #[.int .i64 s, .bool y1, .slice a1 y2 c1, .slice a2 y3 c2] 83) := ⟨_, rfl⟩
      have HX3 : Hid (RowAt w3 wi.heap.size 83 [.int .i64 s, .bool y1, .slice a1 y2 c1, .slice a2 y3 c2]) := Lib.hid (by rw [hw3]; exact RowAt.made wi #[.int .i64 s, .bool y1, .slice a1 y2 c1, .slice a2 y3 c2] 83)
      have HK3 : Hid (Kept wi w3) := Lib.hid (by rw [hw3]; exact (Kept.refl wi).alloc _)
      have HW3 := Lib.hid hw3
      have HS3 := Lib.hid (HS.out.kept HK3.out)
      have HR3 := Lib.hid (HRT.out.kept HK3.out)
      clear hw3
      have HAD : Hid (∀ W u, SumAt W w1.heap.size (p.take j) → RatAt W u (canR c) → Calls Tryz.prog 55 #[.map (some w1.heap.size), .int .i64 s, u] W fun e w' => e = .returned (.tuple #[]) ∧ SumAt w' w1.heap.size (p.take (j + 1)) ∧ OnlyAt w1.heap.size W w') := Lib.hid fun W u h1 h2 => by
        rw [HST.out]
        exact sadd_step h1 h2 (HSH1.out j) (HLN1.out j) (by have h := HCS.out; exact ⟨Nat.le_trans h.1 (by omega), Nat.le_trans h.2 (by omega)⟩)
      go_wp2_with fail
      rw [← HW3.out]
      refine (HAD.out _ _ HS3.out HR3.out).mono ?_
      rintro e w4 ⟨rfl, hs4, ho4⟩
      have HS4 := Lib.hid hs4
      have HK4 := Lib.hid (ho4.toKept (HKr.out.trans HK3.out) HB.out)
      clear hs4 ho4 z0 z1 z2 z3
      go_wp2_with fail
      go_roundg (n - (j + 1))
      case measure => omega
      case rel => exact ⟨j + 1, by omega, by go_num, Nat.le_refl _, HS4, HK4⟩
    · have hjn : ¬ (j : Int) < (n : Int) := by omega
      have hje : j = p.length := by have := HN.out; omega
      have HSP1 : Hid (SumAt wi w1.heap.size p) := Lib.hid (by have h := HS.out; rw [hje, List.take_length] at h; exact h)
      obtain ⟨wo, rfl⟩ : ∃ wo : World, wo = wi := ⟨_, rfl⟩
      have HKo := HKr
      clear hje hj hjx hlt HS HKr
      go_wp2_with fail
      go_loopg [34] m (fun kx sj wr => ∃ j : Nat, j ≤ m ∧ sj = .int .i64 j ∧ m - j ≤ kx ∧ Hid (SumAt wr w1.heap.size (p ++ negP (q.take j))) ∧ Hid (Kept w wr))
      case atStart => exact ⟨0, Nat.zero_le _, rfl, by omega, Lib.hid (by have h := HSP1.out; simpa [negP] using h), HKo⟩
      case round =>
        obtain ⟨j, hj, rfl, hjx, HS, HKr⟩ := hrel
        obtain ⟨wi, rfl⟩ : ∃ wi : World, wi = wr := ⟨_, rfl⟩
        by_cases hlt : j < m
        · have hjn : (j : Int) < (m : Int) := by omega
          have hjl : j < q.length := by rw [← HM.out]; exact hlt
          obtain ⟨b, o, y1, y2, y3, a1, c1, a2, c2, rfl, z0, z1, z2, z3, HRT⟩ := (HQ.out.kept HKr.out).term j hjl
          obtain ⟨s, hs⟩ : ∃ s, s = q[j].1 := ⟨_, rfl⟩
          obtain ⟨c, hc⟩ : ∃ c, c = q[j].2 := ⟨_, rfl⟩
          have hcs : (canR c).Short 1000 := by rw [hc]; exact HSQ.out _ (List.getElem_mem _)
          have hs24 : s < 16777216 := by rw [hs]; exact HBQ.out _ (List.getElem_mem _)
          have HST := Lib.hid (HSTEP2.out j hjl)
          rw [← hs, ← hc] at HST
          have HS24 := Lib.hid hs24
          have HCS := Lib.hid hcs
          have HSJ := Lib.hid hs
          rw [← hs] at z0
          rw [← hc] at HRT
          clear hs hc hcs
          obtain ⟨w3, hw3⟩ : ∃ w3, w3 = wi.alloc (.cells #[.int .i64 s, .bool y1, .slice a1 y2 c1, .slice a2 y3 c2] 83) := ⟨_, rfl⟩
          have HX3 : Hid (RowAt w3 wi.heap.size 83 [.int .i64 s, .bool y1, .slice a1 y2 c1, .slice a2 y3 c2]) := Lib.hid (by rw [hw3]; exact RowAt.made wi #[.int .i64 s, .bool y1, .slice a1 y2 c1, .slice a2 y3 c2] 83)
          have HK3 : Hid (Kept wi w3) := Lib.hid (by rw [hw3]; exact (Kept.refl wi).alloc _)
          have HW3 := Lib.hid hw3
          have HS3 := Lib.hid (HS.out.kept HK3.out)
          have HR3 := Lib.hid (HRT.out.kept HK3.out)
          clear hw3
          have HAD : Hid (∀ W u, SumAt W w1.heap.size (p ++ negP (q.take j)) → RatAt W u (canR (-c)) → Calls Tryz.prog 55 #[.map (some w1.heap.size), .int .i64 s, u] W fun e w' => e = .returned (.tuple #[]) ∧ SumAt w' w1.heap.size (p ++ negP (q.take (j + 1))) ∧ OnlyAt w1.heap.size W w') := Lib.hid fun W u h1 h2 => by
            rw [HST.out]
            exact sadd_step h1 h2 (HSH2.out j) (HLN2.out j) (by have h := short_neg (canR_ok c) HCS.out (by omega); rw [ratOf_can] at h; exact ⟨Nat.le_trans h.1 (by omega), Nat.le_trans h.2 (by omega)⟩)
          have HNG : Hid (∀ W u, RatAt W u (canR c) → Calls Tryz.prog 57 #[u] W fun e w' => (∃ v', e = .returned v' ∧ RatAt w' v' (canR (-c))) ∧ Kept W w') := Lib.hid fun W u hu => by
            have h := rneg_any u _ W hu ⟨Nat.le_trans HCS.out.1 (by omega), Nat.le_trans HCS.out.2 (by omega)⟩
            rw [ratOf_can] at h
            exact h
          go_upto_region 13 with fail
          rw [← HW3.out]
          clear z0 z1 z2 z3
          obtain ⟨x0, x1, x2, x3⟩ := trm4_at HX3.out
          have HNE : Hid (wi.heap.size ≠ w1.heap.size) := Lib.hid (by have := HS.out.lt; omega)
          have HCL0 : Hid ((fun W : World => W.cell? ⟨wi.heap.size, 0, none⟩ = some (.int .i64 s) ∧ W.cell? ⟨wi.heap.size, 1, none⟩ = some (.bool y1) ∧ W.cell? ⟨wi.heap.size, 2, none⟩ = some (.slice a1 y2 c1) ∧ W.cell? ⟨wi.heap.size, 3, none⟩ = some (.slice a2 y3 c2)) w3.drew) := Lib.hid ⟨(Kept.refl w3).drew.cell x0, (Kept.refl w3).drew.cell x1, (Kept.refl w3).drew.cell x2, (Kept.refl w3).drew.cell x3⟩
          go_region_held3 (fun W => W.cell? ⟨wi.heap.size, 0, none⟩ = some (.int .i64 s) ∧ W.cell? ⟨wi.heap.size, 1, none⟩ = some (.bool y1) ∧ W.cell? ⟨wi.heap.size, 2, none⟩ = some (.slice a1 y2 c1) ∧ W.cell? ⟨wi.heap.size, 3, none⟩ = some (.slice a2 y3 c2))
            (with_reducible first | exact HCL5.out | exact HCL4.out | exact HCL0.out)
            (first
            | (go_at_call 57; (with_reducible refine (HNG.out _ _ (HR3.out.kept (Kept.refl _).drew)).mono ?_); rintro e w4 ⟨⟨v4, rfl, hv4⟩, hk4⟩; have hkd := (Kept.refl w3).drew.trans hk4; have HV4 := Lib.hid hv4; have HKD := Lib.hid hkd; have HS4 := Lib.hid (HS3.out.kept hkd); have HCL4 : Hid ((fun W : World => W.cell? ⟨wi.heap.size, 0, none⟩ = some (.int .i64 s) ∧ W.cell? ⟨wi.heap.size, 1, none⟩ = some (.bool y1) ∧ W.cell? ⟨wi.heap.size, 2, none⟩ = some (.slice a1 y2 c1) ∧ W.cell? ⟨wi.heap.size, 3, none⟩ = some (.slice a2 y3 c2)) w4) := Lib.hid ⟨hkd.cell x0, hkd.cell x1, hkd.cell x2, hkd.cell x3⟩; obtain ⟨_, _, _, _, _, _, _, rfl⟩ := hv4.parts; clear hk4 hv4 hkd)
            | (go_at_call 55; (with_reducible refine (HAD.out _ _ HS4.out HV4.out).mono ?_); rintro e w5 ⟨rfl, hs5, ho5⟩; have HS5 := Lib.hid hs5; have HK5 := Lib.hid (ho5.toKept (HKr.out.trans (HK3.out.trans HKD.out)) HB.out); have HCL5 : Hid ((fun W : World => W.cell? ⟨wi.heap.size, 0, none⟩ = some (.int .i64 s) ∧ W.cell? ⟨wi.heap.size, 1, none⟩ = some (.bool y1) ∧ W.cell? ⟨wi.heap.size, 2, none⟩ = some (.slice a1 y2 c1) ∧ W.cell? ⟨wi.heap.size, 3, none⟩ = some (.slice a2 y3 c2)) w5) := Lib.hid ⟨ho5.cell HNE.out (HKD.out.cell x0), ho5.cell HNE.out (HKD.out.cell x1), ho5.cell HNE.out (HKD.out.cell x2), ho5.cell HNE.out (HKD.out.cell x3)⟩; clear hs5 ho5))
          all_goals go_wp2_with fail
          all_goals go_roundg (m - (j + 1))
          all_goals first
            | (show _ < _; omega)
            | exact ⟨j + 1, by omega, by go_num, Nat.le_refl _, HS5, HK5⟩
        · have hjn : ¬ (j : Int) < (m : Int) := by omega
          have hje : j = q.length := by have := HM.out; omega
          have HSE : Hid (SumAt wi w1.heap.size (p ++ negP q)) := Lib.hid (by have h := HS.out; rw [hje, List.take_length] at h; exact h)
          clear hje
          have HTE : Hid (∀ W, SumAt W w1.heap.size (p ++ negP q) → Calls Tryz.prog 56 #[.map (some w1.heap.size)] W fun e w' => TRes w' e R ∧ Kept W w') := Lib.hid fun W h => by
            rw [HRE.out]
            exact sterms_step h HBT.out HSHT.out HLNT.out
          cases R with
          | none =>
            go_wp2_with fail
            refine (HTE.out _ HSE.out).mono ?_
            rintro e w9 ⟨he, hk9⟩
            have he : e = .returned (.tuple #[.slice none 0 0, .iface 50 (.int .i64 4)]) := he
            subst he
            go_wp2
            go_ret2
            exact ⟨rfl, HKr.out.trans hk9⟩
          | some r =>
            go_wp2_with fail
            refine (HTE.out _ HSE.out).mono ?_
            rintro e w9 ⟨⟨v9, rfl, hv9⟩, hk9⟩
            go_wp2
            go_ret2
            exact ⟨⟨_, rfl, hv9⟩, HKr.out.trans hk9⟩
end Go.Proofs.YtpaedhlacbpmpaaGreatDoor

/-
  Walks: Derive and Restrict of a polynomial. Printed by gen_PC1.py.
-/
namespace Go.Proofs.YtpaedhlacbpmpaaGreatDoor
open Go.RowKit Go.Maps

theorem sdiff_le (a b : Nat) : sdiff a b ≤ a := Nat.le_of_testBit fun i h => by
  rw [sdiff_bit] at h
  simp at h
  exact h.1
set_option maxRecDepth 100000 in
set_option maxHeartbeats 16000000 in
theorem pderive_any (v : Value) (p : Pol) (i : Nat) (w : World) (hp : TrmsAt w v (polT p)) (ha : Acc p) (hsp : ShP 1000 p) (hi : i < 24) : Calls Tryz.prog 27 #[v, .int .i64 i] w fun e w' => TRes w' e (fitP (normP (derT i p))) ∧ Kept w w' := by
  have HCH : Hid (Calls Tryz.prog 72 #[v, .int .i64 i] w fun e w' => e = .returned .nilIface ∧ Kept w w') := Lib.hid (by
    have h := given_any v (polT p) i w hp (hsp.mono (by omega)).t
    unfold givenE at h
    rw [chkT_pol ha, if_pos rfl, if_neg (by omega), errV_zero] at h
    exact h)
  obtain ⟨R, hR⟩ : ∃ R, R = fitP (normP (derT i p)) := ⟨_, rfl⟩
  have HRE := Lib.hid hR
  rw [← hR]
  have hshl := (shl_mk i hi).1
  have hshl2 : IntKind.i64.wrap ((2 : Int) ^ i) = ((2 ^ i : Nat) : Int) := by
    have hq : ((2 : Int) ^ i) = ((2 ^ i : Nat) : Int) := by simp
    have hb : 2 ^ i < 2 ^ 24 := Nat.pow_lt_pow_right (by omega) hi
    rw [hq]
    generalize (2 : Nat) ^ i = z at hb ⊢
    rw [IntKind.wrap_i64]; omega
  have hp24 : 2 ^ i < 16777216 := Nat.lt_of_lt_of_le (Nat.pow_lt_pow_right (by omega) hi) (by decide)
  have HHA := Lib.hid (fun (s : Nat) (hs : s < 16777216) W => hasS_any s i hs W)
  obtain ⟨a, ac, rfl⟩ := hp.shape
  obtain ⟨n, hn⟩ : ∃ n, n = p.length := ⟨_, rfl⟩
  rw [polT_len, ← hn] at hp HCH ⊢
  have hnl : n ≤ 4096 := by rw [hn]; exact ha.len
  have HP := Lib.hid hp
  have HN := Lib.hid hn
  have HSP := Lib.hid hsp
  have HBP := Lib.hid ha.bit
  have HSUB : Hid (∀ q : Pol, (∀ t ∈ q, t.1 < 16777216 ∧ (canR t.2).Short 1000) → ∀ u ∈ derT i q, u.1 < 16777216 ∧ (canR u.2).Short 1000) := Lib.hid fun q => by
    induction q with
    | nil => intro _ u hu; cases hu
    | cons t q ih =>
      intro h u hu
      unfold derT at hu
      split at hu
      · rcases List.mem_cons.1 hu with rfl | hu
        · exact ⟨Nat.lt_of_le_of_lt (sdiff_le _ _) (h t List.mem_cons_self).1, (h t List.mem_cons_self).2⟩
        · exact ih (fun x hx => h x (List.mem_cons_of_mem _ hx)) u hu
      · exact ih (fun x hx => h x (List.mem_cons_of_mem _ hx)) u hu
  have HBT : Hid (∀ t ∈ derT i p, t.1 < 16777216) := Lib.hid fun t ht => (HSUB.out p (fun x hx => ⟨ha.bit x hx, hsp x hx⟩) t ht).1
  have HSHT : Hid (ShP 2000 (derT i p)) := Lib.hid fun t ht => by have h := (HSUB.out p (fun x hx => ⟨ha.bit x hx, hsp x hx⟩) t ht).2; exact ⟨Nat.le_trans h.1 (by omega), Nat.le_trans h.2 (by omega)⟩
  have HLNT : Hid ((derT i p).length ≤ 16777216) := Lib.hid (by have := ha.len; have := derT_len i p; omega)
  have HSH1 : Hid (∀ j, ShP 2000 (derT i (p.take j))) := Lib.hid fun j t ht => by have h := (HSUB.out (p.take j) (fun x hx => ⟨ha.bit x (List.mem_of_mem_take hx), hsp x (List.mem_of_mem_take hx)⟩) t ht).2; exact ⟨Nat.le_trans h.1 (by omega), Nat.le_trans h.2 (by omega)⟩
  have HLN1 : Hid (∀ j, (derT i (p.take j)).length ≤ 16777216) := Lib.hid fun j => by have := ha.len; have := derT_len i (p.take j); rw [List.length_take] at this; omega
  have HSTEP1 : Hid (∀ j (h : j < p.length), derT i (p.take (j + 1)) = derT i (p.take j) ++ if p[j].1.testBit i = true then [(sdiff p[j].1 (2 ^ i), p[j].2)] else []) := Lib.hid fun j h => by
    rw [List.take_succ_eq_append_getElem h, derT_app]
    rfl
  obtain ⟨pw, hpw⟩ : ∃ pw, pw = 2 ^ i := ⟨_, rfl⟩
  rw [← hpw] at hshl hshl2 hp24 HSTEP1
  have hi0 : (0 : Int) ≤ (i : Int) := by omega
  have hi24 : (i : Int) < 24 := by omega
  clear hp ha hsp hR hn hpw
  go_enter Tryz.func27, Tryz.ntmps27
  have hmm := @run_makeMap Tryz.prog
  go_wp2_with fail
  refine (HCH.out).mono ?_
  rintro e w1 ⟨rfl, hk1⟩
  obtain ⟨w2, hw2⟩ : ∃ w2, w2 = w1.alloc (.map #[] 0) := ⟨_, rfl⟩
  have HS2 : Hid (SumAt w2 w1.heap.size []) := Lib.hid (by rw [hw2]; exact map_made w1)
  have HK2 : Hid (Kept w w2) := Lib.hid (by rw [hw2]; exact hk1.alloc _)
  have HB : Hid (w.heap.size ≤ w1.heap.size) := Lib.hid hk1.size
  have HW2 := Lib.hid hw2
  clear hk1 hw2
  go_wp2_with fail
  rw [← HW2.out]
  go_loopg [19] n (fun kx sj wr => ∃ j : Nat, j ≤ n ∧ sj = .int .i64 j ∧ n - j ≤ kx ∧ Hid (SumAt wr w1.heap.size (derT i (p.take j))) ∧ Hid (Kept w wr))
  case atStart => exact ⟨0, Nat.zero_le _, rfl, by omega, Lib.hid (by have h := HS2.out; simpa [derT] using h), HK2⟩
  case round =>
    obtain ⟨j, hj, rfl, hjx, HS, HKr⟩ := hrel
    obtain ⟨wi, rfl⟩ : ∃ wi : World, wi = wr := ⟨_, rfl⟩
    by_cases hlt : j < n
    · have hjn : (j : Int) < (n : Int) := by omega
      have hjl : j < p.length := by rw [← HN.out]; exact hlt
      obtain ⟨b, o, y1, y2, y3, a1, c1, a2, c2, rfl, z0, z1, z2, z3, HRT⟩ := (HP.out.kept HKr.out).term j hjl
      obtain ⟨s, hs⟩ : ∃ s, s = p[j].1 := ⟨_, rfl⟩
      obtain ⟨c, hc⟩ : ∃ c, c = p[j].2 := ⟨_, rfl⟩
      have hcs : (canR c).Short 1000 := by rw [hc]; exact HSP.out _ (List.getElem_mem _)
      have hs24 : s < 16777216 := by rw [hs]; exact HBP.out _ (List.getElem_mem _)
      have HST := Lib.hid (HSTEP1.out j hjl)
      rw [← hs, ← hc] at HST
      have HS24 := Lib.hid hs24
      have HCS := Lib.hid hcs
      have HSJ := Lib.hid hs
      rw [← hs] at z0
      rw [← hc] at HRT
      clear hs hc hcs
      obtain ⟨w3, hw3⟩ : ∃ w3, w3 = wi.alloc (.cells #[.int .i64 s, .bool y1, .slice a1 y2 c1, .slice a2 y3 c2] 83) := ⟨_, rfl⟩
      have HX3 : Hid (RowAt w3 wi.heap.size 83 [.int .i64 s, .bool y1, .slice a1 y2 c1, .slice a2 y3 c2]) := Lib.hid (by rw [hw3]; exact RowAt.made wi #[.int .i64 s, .bool y1, .slice a1 y2 c1, .slice a2 y3 c2] 83)
      have HK3 : Hid (Kept wi w3) := Lib.hid (by rw [hw3]; exact (Kept.refl wi).alloc _)
      have HW3 := Lib.hid hw3
      have HS3 := Lib.hid (HS.out.kept HK3.out)
      have HR3 := Lib.hid (HRT.out.kept HK3.out)
      clear hw3
      obtain ⟨hb, hhb⟩ : ∃ hb, hb = s.testBit i := ⟨_, rfl⟩
      have HHS : Hid (∀ W, Calls Tryz.prog 73 #[.int .i64 s, .int .i64 i] W fun e w' => e = .returned (.bool hb) ∧ w' = W) := Lib.hid fun W => by rw [hhb]; exact HHA.out s hs24 W
      rw [← hhb] at HST
      clear hhb
      cases hb with
      | false =>
        rw [if_neg (by simp), List.append_nil] at HST
        go_wp2_with fail
        rw [← HW3.out]
        refine (HHS.out _).mono ?_
        rintro e w30 ⟨rfl, h30⟩
        rw [h30]
        clear h30
        go_wp2_with fail
        go_roundg (n - (j + 1))
        case measure => omega
        case rel => exact ⟨j + 1, by omega, by go_num, Nat.le_refl _, Lib.hid (by rw [HST.out]; exact HS3.out), Lib.hid (HKr.out.trans HK3.out)⟩
      | true =>
        rw [if_pos rfl] at HST
        have hand : bits .andNot .i64 (s : Int) (pw : Int) = ((sdiff s pw : Nat) : Int) := andNot_i64 s pw (by omega) (by omega)
        have HAD : Hid (∀ W u, SumAt W w1.heap.size (derT i (p.take j)) → RatAt W u (canR c) → Calls Tryz.prog 55 #[.map (some w1.heap.size), .int .i64 (sdiff s pw : Nat), u] W fun e w' => e = .returned (.tuple #[]) ∧ SumAt w' w1.heap.size (derT i (p.take (j + 1))) ∧ OnlyAt w1.heap.size W w') := Lib.hid fun W u h1 h2 => by
          rw [HST.out]
          exact sadd_step h1 h2 (HSH1.out j) (HLN1.out j) (by have h := HCS.out; exact ⟨Nat.le_trans h.1 (by omega), Nat.le_trans h.2 (by omega)⟩)
        go_wp2_with fail
        rw [← HW3.out]
        refine (HHS.out _).mono ?_
        rintro e w30 ⟨rfl, h30⟩
        rw [h30]
        clear h30
        go_upto_region 9 with fail
        clear z0 z1 z2 z3
        obtain ⟨x0, x1, x2, x3⟩ := trm4_at HX3.out
        have HNE : Hid (wi.heap.size ≠ w1.heap.size) := Lib.hid (by have := HS.out.lt; omega)
        have HCL0 : Hid ((fun W : World => W.cell? ⟨wi.heap.size, 0, none⟩ = some (.int .i64 s) ∧ W.cell? ⟨wi.heap.size, 1, none⟩ = some (.bool y1) ∧ W.cell? ⟨wi.heap.size, 2, none⟩ = some (.slice a1 y2 c1) ∧ W.cell? ⟨wi.heap.size, 3, none⟩ = some (.slice a2 y3 c2)) w3.drew) := Lib.hid ⟨(Kept.refl w3).drew.cell x0, (Kept.refl w3).drew.cell x1, (Kept.refl w3).drew.cell x2, (Kept.refl w3).drew.cell x3⟩
        go_region_held3 (fun W => W.cell? ⟨wi.heap.size, 0, none⟩ = some (.int .i64 s) ∧ W.cell? ⟨wi.heap.size, 1, none⟩ = some (.bool y1) ∧ W.cell? ⟨wi.heap.size, 2, none⟩ = some (.slice a1 y2 c1) ∧ W.cell? ⟨wi.heap.size, 3, none⟩ = some (.slice a2 y3 c2))
          (with_reducible first | exact HCL5.out | exact HCL0.out)
          (first
          | (go_at_call 55; (with_reducible refine (HAD.out _ _ (HS3.out.kept (Kept.refl _).drew) (HR3.out.kept (Kept.refl _).drew)).mono ?_); rintro e w5 ⟨rfl, hs5, ho5⟩; have HS5 := Lib.hid hs5; have HK5 := Lib.hid (ho5.toKept (HKr.out.trans (HK3.out.trans (Kept.refl _).drew)) HB.out); have HCL5 : Hid ((fun W : World => W.cell? ⟨wi.heap.size, 0, none⟩ = some (.int .i64 s) ∧ W.cell? ⟨wi.heap.size, 1, none⟩ = some (.bool y1) ∧ W.cell? ⟨wi.heap.size, 2, none⟩ = some (.slice a1 y2 c1) ∧ W.cell? ⟨wi.heap.size, 3, none⟩ = some (.slice a2 y3 c2)) w5) := Lib.hid ⟨ho5.cell HNE.out ((Kept.refl w3).drew.cell x0), ho5.cell HNE.out ((Kept.refl w3).drew.cell x1), ho5.cell HNE.out ((Kept.refl w3).drew.cell x2), ho5.cell HNE.out ((Kept.refl w3).drew.cell x3)⟩; clear hs5 ho5))
        all_goals go_wp2_with fail
        all_goals go_roundg (n - (j + 1))
        all_goals first
          | (show _ < _; omega)
          | exact ⟨j + 1, by omega, by go_num, Nat.le_refl _, HS5, HK5⟩
    · have hjn : ¬ (j : Int) < (n : Int) := by omega
      have hje : j = p.length := by have := HN.out; omega
      have HSE : Hid (SumAt wi w1.heap.size (derT i p)) := Lib.hid (by have h := HS.out; rw [hje, List.take_length] at h; exact h)
      clear hje
      have HTE : Hid (∀ W, SumAt W w1.heap.size (derT i p) → Calls Tryz.prog 56 #[.map (some w1.heap.size)] W fun e w' => TRes w' e R ∧ Kept W w') := Lib.hid fun W h => by
        rw [HRE.out]
        exact sterms_step h HBT.out HSHT.out HLNT.out
      cases R with
      | none =>
        go_wp2_with fail
        refine (HTE.out _ HSE.out).mono ?_
        rintro e w9 ⟨he, hk9⟩
        have he : e = .returned (.tuple #[.slice none 0 0, .iface 50 (.int .i64 4)]) := he
        subst he
        go_wp2
        go_ret2
        exact ⟨rfl, HKr.out.trans hk9⟩
      | some r =>
        go_wp2_with fail
        refine (HTE.out _ HSE.out).mono ?_
        rintro e w9 ⟨⟨v9, rfl, hv9⟩, hk9⟩
        go_wp2
        go_ret2
        exact ⟨⟨_, rfl, hv9⟩, HKr.out.trans hk9⟩
set_option maxRecDepth 100000 in
set_option maxHeartbeats 16000000 in
theorem prestrict_any (v : Value) (p : Pol) (i : Nat) (bf : Bool) (w : World) (hp : TrmsAt w v (polT p)) (ha : Acc p) (hsp : ShP 1000 p) (hi : i < 24) : Calls Tryz.prog 28 #[v, .int .i64 i, .bool bf] w fun e w' => TRes w' e (fitP (normP (resT i bf p))) ∧ Kept w w' := by
  have HCH : Hid (Calls Tryz.prog 72 #[v, .int .i64 i] w fun e w' => e = .returned .nilIface ∧ Kept w w') := Lib.hid (by
    have h := given_any v (polT p) i w hp (hsp.mono (by omega)).t
    unfold givenE at h
    rw [chkT_pol ha, if_pos rfl, if_neg (by omega), errV_zero] at h
    exact h)
  obtain ⟨R, hR⟩ : ∃ R, R = fitP (normP (resT i bf p)) := ⟨_, rfl⟩
  have HRE := Lib.hid hR
  rw [← hR]
  have hshl := (shl_mk i hi).1
  have hshl2 : IntKind.i64.wrap ((2 : Int) ^ i) = ((2 ^ i : Nat) : Int) := by
    have hq : ((2 : Int) ^ i) = ((2 ^ i : Nat) : Int) := by simp
    have hb : 2 ^ i < 2 ^ 24 := Nat.pow_lt_pow_right (by omega) hi
    rw [hq]
    generalize (2 : Nat) ^ i = z at hb ⊢
    rw [IntKind.wrap_i64]; omega
  have hp24 : 2 ^ i < 16777216 := Nat.lt_of_lt_of_le (Nat.pow_lt_pow_right (by omega) hi) (by decide)
  have HHA := Lib.hid (fun (s : Nat) (hs : s < 16777216) W => hasS_any s i hs W)
  obtain ⟨a, ac, rfl⟩ := hp.shape
  obtain ⟨n, hn⟩ : ∃ n, n = p.length := ⟨_, rfl⟩
  rw [polT_len, ← hn] at hp HCH ⊢
  have hnl : n ≤ 4096 := by rw [hn]; exact ha.len
  have HP := Lib.hid hp
  have HN := Lib.hid hn
  have HSP := Lib.hid hsp
  have HBP := Lib.hid ha.bit
  have HSUB : Hid (∀ q : Pol, (∀ t ∈ q, t.1 < 16777216 ∧ (canR t.2).Short 1000) → ∀ u ∈ resT i bf q, u.1 < 16777216 ∧ (canR u.2).Short 1000) := Lib.hid fun q => by
    induction q with
    | nil => intro _ u hu; cases hu
    | cons t q ih =>
      intro h u hu
      unfold resT at hu
      split at hu
      · rcases List.mem_cons.1 hu with rfl | hu
        · exact ⟨Nat.lt_of_le_of_lt (sdiff_le _ _) (h t List.mem_cons_self).1, (h t List.mem_cons_self).2⟩
        · exact ih (fun x hx => h x (List.mem_cons_of_mem _ hx)) u hu
      · exact ih (fun x hx => h x (List.mem_cons_of_mem _ hx)) u hu
  have HBT : Hid (∀ t ∈ resT i bf p, t.1 < 16777216) := Lib.hid fun t ht => (HSUB.out p (fun x hx => ⟨ha.bit x hx, hsp x hx⟩) t ht).1
  have HSHT : Hid (ShP 2000 (resT i bf p)) := Lib.hid fun t ht => by have h := (HSUB.out p (fun x hx => ⟨ha.bit x hx, hsp x hx⟩) t ht).2; exact ⟨Nat.le_trans h.1 (by omega), Nat.le_trans h.2 (by omega)⟩
  have HLNT : Hid ((resT i bf p).length ≤ 16777216) := Lib.hid (by have := ha.len; have := resT_len i bf p; omega)
  have HSH1 : Hid (∀ j, ShP 2000 (resT i bf (p.take j))) := Lib.hid fun j t ht => by have h := (HSUB.out (p.take j) (fun x hx => ⟨ha.bit x (List.mem_of_mem_take hx), hsp x (List.mem_of_mem_take hx)⟩) t ht).2; exact ⟨Nat.le_trans h.1 (by omega), Nat.le_trans h.2 (by omega)⟩
  have HLN1 : Hid (∀ j, (resT i bf (p.take j)).length ≤ 16777216) := Lib.hid fun j => by have := ha.len; have := resT_len i bf (p.take j); rw [List.length_take] at this; omega
  have HSTEP1 : Hid (∀ j (h : j < p.length), resT i bf (p.take (j + 1)) = resT i bf (p.take j) ++ if bf = true ∨ p[j].1.testBit i = false then [(sdiff p[j].1 (2 ^ i), p[j].2)] else []) := Lib.hid fun j h => by
    rw [List.take_succ_eq_append_getElem h, resT_app]
    rfl
  obtain ⟨pw, hpw⟩ : ∃ pw, pw = 2 ^ i := ⟨_, rfl⟩
  rw [← hpw] at hshl hshl2 hp24 HSTEP1
  have hi0 : (0 : Int) ≤ (i : Int) := by omega
  have hi24 : (i : Int) < 24 := by omega
  clear hp ha hsp hR hn hpw
  go_enter Tryz.func28, Tryz.ntmps28
  have hmm := @run_makeMap Tryz.prog
  go_wp2_with fail
  refine (HCH.out).mono ?_
  rintro e w1 ⟨rfl, hk1⟩
  obtain ⟨w2, hw2⟩ : ∃ w2, w2 = w1.alloc (.map #[] 0) := ⟨_, rfl⟩
  have HS2 : Hid (SumAt w2 w1.heap.size []) := Lib.hid (by rw [hw2]; exact map_made w1)
  have HK2 : Hid (Kept w w2) := Lib.hid (by rw [hw2]; exact hk1.alloc _)
  have HB : Hid (w.heap.size ≤ w1.heap.size) := Lib.hid hk1.size
  have HW2 := Lib.hid hw2
  clear hk1 hw2
  go_wp2_with fail
  rw [← HW2.out]
  go_loopg [21] n (fun kx sj wr => ∃ j : Nat, j ≤ n ∧ sj = .int .i64 j ∧ n - j ≤ kx ∧ Hid (SumAt wr w1.heap.size (resT i bf (p.take j))) ∧ Hid (Kept w wr))
  case atStart => exact ⟨0, Nat.zero_le _, rfl, by omega, Lib.hid (by have h := HS2.out; simpa [resT] using h), HK2⟩
  case round =>
    obtain ⟨j, hj, rfl, hjx, HS, HKr⟩ := hrel
    obtain ⟨wi, rfl⟩ : ∃ wi : World, wi = wr := ⟨_, rfl⟩
    by_cases hlt : j < n
    · have hjn : (j : Int) < (n : Int) := by omega
      have hjl : j < p.length := by rw [← HN.out]; exact hlt
      obtain ⟨b, o, y1, y2, y3, a1, c1, a2, c2, rfl, z0, z1, z2, z3, HRT⟩ := (HP.out.kept HKr.out).term j hjl
      obtain ⟨s, hs⟩ : ∃ s, s = p[j].1 := ⟨_, rfl⟩
      obtain ⟨c, hc⟩ : ∃ c, c = p[j].2 := ⟨_, rfl⟩
      have hcs : (canR c).Short 1000 := by rw [hc]; exact HSP.out _ (List.getElem_mem _)
      have hs24 : s < 16777216 := by rw [hs]; exact HBP.out _ (List.getElem_mem _)
      have HST := Lib.hid (HSTEP1.out j hjl)
      rw [← hs, ← hc] at HST
      have HS24 := Lib.hid hs24
      have HCS := Lib.hid hcs
      have HSJ := Lib.hid hs
      rw [← hs] at z0
      rw [← hc] at HRT
      clear hs hc hcs
      obtain ⟨w3, hw3⟩ : ∃ w3, w3 = wi.alloc (.cells #[.int .i64 s, .bool y1, .slice a1 y2 c1, .slice a2 y3 c2] 83) := ⟨_, rfl⟩
      have HX3 : Hid (RowAt w3 wi.heap.size 83 [.int .i64 s, .bool y1, .slice a1 y2 c1, .slice a2 y3 c2]) := Lib.hid (by rw [hw3]; exact RowAt.made wi #[.int .i64 s, .bool y1, .slice a1 y2 c1, .slice a2 y3 c2] 83)
      have HK3 : Hid (Kept wi w3) := Lib.hid (by rw [hw3]; exact (Kept.refl wi).alloc _)
      have HW3 := Lib.hid hw3
      have HS3 := Lib.hid (HS.out.kept HK3.out)
      have HR3 := Lib.hid (HRT.out.kept HK3.out)
      clear hw3
      obtain ⟨hb, hhb⟩ : ∃ hb, hb = s.testBit i := ⟨_, rfl⟩
      have HHS : Hid (∀ W, Calls Tryz.prog 73 #[.int .i64 s, .int .i64 i] W fun e w' => e = .returned (.bool hb) ∧ w' = W) := Lib.hid fun W => by rw [hhb]; exact HHA.out s hs24 W
      rw [← hhb] at HST
      clear hhb
      cases bf with
      | true =>
        rw [if_pos (.inl rfl)] at HST
        have hand : bits .andNot .i64 (s : Int) (pw : Int) = ((sdiff s pw : Nat) : Int) := andNot_i64 s pw (by omega) (by omega)
        have HAD : Hid (∀ W u, SumAt W w1.heap.size (resT i true (p.take j)) → RatAt W u (canR c) → Calls Tryz.prog 55 #[.map (some w1.heap.size), .int .i64 (sdiff s pw : Nat), u] W fun e w' => e = .returned (.tuple #[]) ∧ SumAt w' w1.heap.size (resT i true (p.take (j + 1))) ∧ OnlyAt w1.heap.size W w') := Lib.hid fun W u h1 h2 => by
          rw [HST.out]
          exact sadd_step h1 h2 (HSH1.out j) (HLN1.out j) (by have h := HCS.out; exact ⟨Nat.le_trans h.1 (by omega), Nat.le_trans h.2 (by omega)⟩)
        go_upto_region 9 with fail
        rw [← HW3.out]
        clear z0 z1 z2 z3
        obtain ⟨x0, x1, x2, x3⟩ := trm4_at HX3.out
        have HNE : Hid (wi.heap.size ≠ w1.heap.size) := Lib.hid (by have := HS.out.lt; omega)
        have HCL0 : Hid ((fun W : World => W.cell? ⟨wi.heap.size, 0, none⟩ = some (.int .i64 s) ∧ W.cell? ⟨wi.heap.size, 1, none⟩ = some (.bool y1) ∧ W.cell? ⟨wi.heap.size, 2, none⟩ = some (.slice a1 y2 c1) ∧ W.cell? ⟨wi.heap.size, 3, none⟩ = some (.slice a2 y3 c2)) w3.drew) := Lib.hid ⟨(Kept.refl w3).drew.cell x0, (Kept.refl w3).drew.cell x1, (Kept.refl w3).drew.cell x2, (Kept.refl w3).drew.cell x3⟩
        go_region_held3 (fun W => W.cell? ⟨wi.heap.size, 0, none⟩ = some (.int .i64 s) ∧ W.cell? ⟨wi.heap.size, 1, none⟩ = some (.bool y1) ∧ W.cell? ⟨wi.heap.size, 2, none⟩ = some (.slice a1 y2 c1) ∧ W.cell? ⟨wi.heap.size, 3, none⟩ = some (.slice a2 y3 c2))
          (with_reducible first | exact HCL5.out | exact HCL0.out)
          (first
          | (go_at_call 55; (with_reducible refine (HAD.out _ _ (HS3.out.kept (Kept.refl _).drew) (HR3.out.kept (Kept.refl _).drew)).mono ?_); rintro e w5 ⟨rfl, hs5, ho5⟩; have HS5 := Lib.hid hs5; have HK5 := Lib.hid (ho5.toKept (HKr.out.trans (HK3.out.trans (Kept.refl _).drew)) HB.out); have HCL5 : Hid ((fun W : World => W.cell? ⟨wi.heap.size, 0, none⟩ = some (.int .i64 s) ∧ W.cell? ⟨wi.heap.size, 1, none⟩ = some (.bool y1) ∧ W.cell? ⟨wi.heap.size, 2, none⟩ = some (.slice a1 y2 c1) ∧ W.cell? ⟨wi.heap.size, 3, none⟩ = some (.slice a2 y3 c2)) w5) := Lib.hid ⟨ho5.cell HNE.out ((Kept.refl w3).drew.cell x0), ho5.cell HNE.out ((Kept.refl w3).drew.cell x1), ho5.cell HNE.out ((Kept.refl w3).drew.cell x2), ho5.cell HNE.out ((Kept.refl w3).drew.cell x3)⟩; clear hs5 ho5))
        all_goals go_wp2_with fail
        all_goals go_roundg (n - (j + 1))
        all_goals first
          | (show _ < _; omega)
          | exact ⟨j + 1, by omega, by go_num, Nat.le_refl _, HS5, HK5⟩
      | false =>
        cases hb with
        | true =>
          rw [if_neg (by simp), List.append_nil] at HST
          go_wp2_with fail
          rw [← HW3.out]
          refine (HHS.out _).mono ?_
          rintro e w30 ⟨rfl, h30⟩
          rw [h30]
          clear h30
          go_wp2_with fail
          go_roundg (n - (j + 1))
          case measure => omega
          case rel => exact ⟨j + 1, by omega, by go_num, Nat.le_refl _, Lib.hid (by rw [HST.out]; exact HS3.out), Lib.hid (HKr.out.trans HK3.out)⟩
        | false =>
          rw [if_pos (.inr rfl)] at HST
          have hand : bits .andNot .i64 (s : Int) (pw : Int) = ((sdiff s pw : Nat) : Int) := andNot_i64 s pw (by omega) (by omega)
          have HAD : Hid (∀ W u, SumAt W w1.heap.size (resT i false (p.take j)) → RatAt W u (canR c) → Calls Tryz.prog 55 #[.map (some w1.heap.size), .int .i64 (sdiff s pw : Nat), u] W fun e w' => e = .returned (.tuple #[]) ∧ SumAt w' w1.heap.size (resT i false (p.take (j + 1))) ∧ OnlyAt w1.heap.size W w') := Lib.hid fun W u h1 h2 => by
            rw [HST.out]
            exact sadd_step h1 h2 (HSH1.out j) (HLN1.out j) (by have h := HCS.out; exact ⟨Nat.le_trans h.1 (by omega), Nat.le_trans h.2 (by omega)⟩)
          go_wp2_with fail
          rw [← HW3.out]
          refine (HHS.out _).mono ?_
          rintro e w30 ⟨rfl, h30⟩
          rw [h30]
          clear h30
          go_upto_region 9 with fail
          clear z0 z1 z2 z3
          obtain ⟨x0, x1, x2, x3⟩ := trm4_at HX3.out
          have HNE : Hid (wi.heap.size ≠ w1.heap.size) := Lib.hid (by have := HS.out.lt; omega)
          have HCL0 : Hid ((fun W : World => W.cell? ⟨wi.heap.size, 0, none⟩ = some (.int .i64 s) ∧ W.cell? ⟨wi.heap.size, 1, none⟩ = some (.bool y1) ∧ W.cell? ⟨wi.heap.size, 2, none⟩ = some (.slice a1 y2 c1) ∧ W.cell? ⟨wi.heap.size, 3, none⟩ = some (.slice a2 y3 c2)) w3.drew) := Lib.hid ⟨(Kept.refl w3).drew.cell x0, (Kept.refl w3).drew.cell x1, (Kept.refl w3).drew.cell x2, (Kept.refl w3).drew.cell x3⟩
          go_region_held3 (fun W => W.cell? ⟨wi.heap.size, 0, none⟩ = some (.int .i64 s) ∧ W.cell? ⟨wi.heap.size, 1, none⟩ = some (.bool y1) ∧ W.cell? ⟨wi.heap.size, 2, none⟩ = some (.slice a1 y2 c1) ∧ W.cell? ⟨wi.heap.size, 3, none⟩ = some (.slice a2 y3 c2))
            (with_reducible first | exact HCL5.out | exact HCL0.out)
            (first
            | (go_at_call 55; (with_reducible refine (HAD.out _ _ (HS3.out.kept (Kept.refl _).drew) (HR3.out.kept (Kept.refl _).drew)).mono ?_); rintro e w5 ⟨rfl, hs5, ho5⟩; have HS5 := Lib.hid hs5; have HK5 := Lib.hid (ho5.toKept (HKr.out.trans (HK3.out.trans (Kept.refl _).drew)) HB.out); have HCL5 : Hid ((fun W : World => W.cell? ⟨wi.heap.size, 0, none⟩ = some (.int .i64 s) ∧ W.cell? ⟨wi.heap.size, 1, none⟩ = some (.bool y1) ∧ W.cell? ⟨wi.heap.size, 2, none⟩ = some (.slice a1 y2 c1) ∧ W.cell? ⟨wi.heap.size, 3, none⟩ = some (.slice a2 y3 c2)) w5) := Lib.hid ⟨ho5.cell HNE.out ((Kept.refl w3).drew.cell x0), ho5.cell HNE.out ((Kept.refl w3).drew.cell x1), ho5.cell HNE.out ((Kept.refl w3).drew.cell x2), ho5.cell HNE.out ((Kept.refl w3).drew.cell x3)⟩; clear hs5 ho5))
          all_goals go_wp2_with fail
          all_goals go_roundg (n - (j + 1))
          all_goals first
            | (show _ < _; omega)
            | exact ⟨j + 1, by omega, by go_num, Nat.le_refl _, HS5, HK5⟩
    · have hjn : ¬ (j : Int) < (n : Int) := by omega
      have hje : j = p.length := by have := HN.out; omega
      have HSE : Hid (SumAt wi w1.heap.size (resT i bf p)) := Lib.hid (by have h := HS.out; rw [hje, List.take_length] at h; exact h)
      clear hje
      have HTE : Hid (∀ W, SumAt W w1.heap.size (resT i bf p) → Calls Tryz.prog 56 #[.map (some w1.heap.size)] W fun e w' => TRes w' e R ∧ Kept W w') := Lib.hid fun W h => by
        rw [HRE.out]
        exact sterms_step h HBT.out HSHT.out HLNT.out
      cases R with
      | none =>
        go_wp2_with fail
        refine (HTE.out _ HSE.out).mono ?_
        rintro e w9 ⟨he, hk9⟩
        have he : e = .returned (.tuple #[.slice none 0 0, .iface 50 (.int .i64 4)]) := he
        subst he
        go_wp2
        go_ret2
        exact ⟨rfl, HKr.out.trans hk9⟩
      | some r =>
        go_wp2_with fail
        refine (HTE.out _ HSE.out).mono ?_
        rintro e w9 ⟨⟨v9, rfl, hv9⟩, hk9⟩
        go_wp2
        go_ret2
        exact ⟨⟨_, rfl, hv9⟩, HKr.out.trans hk9⟩
end Go.Proofs.YtpaedhlacbpmpaaGreatDoor
