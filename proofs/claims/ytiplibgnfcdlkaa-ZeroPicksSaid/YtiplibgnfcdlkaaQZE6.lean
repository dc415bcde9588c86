import Derived.Test.YtiplibgnfcdlkaaQZE5
import Derived.Test.YtiplibgnfcdlkaaQ27
/-
  Walk: the reference's Sort.
-/
namespace Go.Proofs.Ytiplibgnfcdlkaa
open Go.RowKit

theorem own_setI {w : World} {B g n cp : Nat} {l : List Nat} (h : OwnInts w B (.slice (some ⟨g, 0, none⟩) n cp) (natI l)) (i y : Nat) : OwnInts (w.setCell ⟨g, i, none⟩ (.int .i64 (y : Int))) B (.slice (some ⟨g, 0, none⟩) n cp) (natI (l.set i y)) := by
  obtain ⟨⟨h1, h2⟩, h3⟩ := h
  rw [natI_len] at h3
  have e : (natI (l.set i y)).map (Value.int .i64) = ((natI l).map (Value.int .i64)).set i (.int .i64 (y : Int)) := by
    unfold natI; rw [List.map_set, List.map_set]
  refine ⟨⟨by simp, ?_⟩, by rw [natI_len, List.length_set]; exact h3⟩
  rcases h2 with ⟨e1, _⟩ | ⟨g', cap, cur, e1, h4, h5, h6, h7, h8, h9⟩
  · cases e1
  · cases e1
    refine .inr ⟨g, cp, cur.setIfInBounds i (.int .i64 (y : Int)), by rw [natI_len, natI_len, List.length_set], h4, by simp [World.setCell, Array.getElem?_modify, h5], by rw [natI_len, List.length_set]; rw [natI_len] at h6; exact h6, h7, by simpa using h8, ?_⟩
    rw [e, Array.toList_setIfInBounds, List.take_set, natI_len, List.length_set, ← h9, natI_len]
theorem own_free {w : World} {B g n cp : Nat} {xs : List Int} (h : OwnInts w B (.slice (some ⟨g, 0, none⟩) n cp) xs) (i : Nat) : w.frozen? ⟨g, i, none⟩ = false := by
  rcases h.1.2 with ⟨e1, _⟩ | ⟨g', cap, cur, e1, _, h5, _⟩
  · cases e1
  · cases e1; simp [World.frozen?, h5]
theorem own_some {w : World} {B n : Nat} {v : Value} {xs : List Int} (h : OwnInts w B v xs) (hn : xs.length = n) (h0 : n ≠ 0) : ∃ g cp, v = .slice (some ⟨g, 0, none⟩) n cp ∧ n ≤ cp ∧ B ≤ g := by
  rcases h.1.2 with ⟨_, e⟩ | ⟨g, cap, cur, e1, h4, _, h6, _⟩
  · omega
  · exact ⟨g, cap, by rw [e1, hn], by omega, h4⟩
theorem natI_app (a b : List Nat) : natI (a ++ b) = natI a ++ natI b := by unfold natI; rw [List.map_append]
/-- One step of the shift. -/
theorem shift_step {L : List Nat} {k : Nat} (h : k < L.length) (y : Nat) : (L.take (k + 1) ++ y :: L.drop (k + 1)).set (k + 1) L[k] = L.take k ++ L[k] :: L.drop k := by
  have h1 : (L.take (k + 1)).length = k + 1 := by rw [List.length_take]; omega
  rw [List.set_append, h1, if_neg (Nat.lt_irrefl _), Nat.sub_self, List.set_cons_zero, List.take_succ_eq_append_getElem h, List.drop_eq_getElem_cons h, List.append_assoc]
  rfl
theorem shift_read {L : List Nat} {k : Nat} (h : k < L.length) (y : Nat) (h2 : k < (L.take (k + 1) ++ y :: L.drop (k + 1)).length) : (L.take (k + 1) ++ y :: L.drop (k + 1))[k] = L[k] := by
  rw [List.getElem_append_left (by rw [List.length_take]; omega), List.getElem_take]
theorem shift_last {L : List Nat} {k : Nat} (h : k ≤ L.length) (y x : Nat) : (L.take k ++ y :: L.drop k).set k x = L.take k ++ x :: L.drop k := by
  have h1 : (L.take k).length = k := by rw [List.length_take]; omega
  rw [List.set_append, h1, if_neg (Nat.lt_irrefl _), Nat.sub_self, List.set_cons_zero]
/-- A sorted list with one set more. -/
theorem zsorted_ins {F : Nat → Bool} {L : List Nat} (h : ZSorted F L) {k x : Nat} (hk : k ≤ L.length) (hb : ∀ j (hj : j < L.length), j < k → zlt L[j] x) (ha : ∀ (hj : k < L.length), zlt x L[k]) :
    ZSorted (fun s => or (F s) (s == x)) (L.take k ++ x :: L.drop k) := by
  have hp : (L.take k ++ L.drop k).Pairwise zlt := by rw [List.take_append_drop]; exact h.ord
  obtain ⟨p1, p2, p3⟩ := List.pairwise_append.1 hp
  have hl : ∀ a ∈ L.take k, zlt a x := fun a ha' => by
    obtain ⟨j, hj, e⟩ := List.mem_take_iff_getElem.1 ha'
    rw [← e]
    exact hb j (by omega) (by omega)
  have hr : ∀ b ∈ L.drop k, zlt x b := fun b hb' => by
    by_cases hkl : k < L.length
    · rw [List.drop_eq_getElem_cons hkl] at hb' p2
      rcases List.mem_cons.1 hb' with e | e
      · rw [e]; exact ha hkl
      · exact zlt_tr (ha hkl) ((List.pairwise_cons.1 p2).1 b e)
    · rw [List.drop_eq_nil_of_le (by omega)] at hb'
      cases hb'
  refine ⟨List.pairwise_append.2 ⟨p1, List.pairwise_cons.2 ⟨hr, p2⟩, fun a ha' b hb' => ?_⟩, fun s => ?_⟩
  · rcases List.mem_cons.1 hb' with e | e
    · rw [e]; exact hl a ha'
    · exact p3 a ha' b e
  · rw [Bool.or_eq_true_iff, ← h.mem, beq_iff_eq, List.mem_append, List.mem_cons]
    conv => rhs; rw [← List.take_append_drop k L, List.mem_append]
    constructor
    · rintro (h | h | h)
      · exact .inl (.inl h)
      · exact .inr h
      · exact .inl (.inr h)
    · rintro ((h | h) | h)
      · exact .inl h
      · exact .inr (.inr h)
      · exact .inr (.inl h)
theorem zsorted_same {F G : Nat → Bool} {L : List Nat} (h : ZSorted F L) (e : ∀ s, F s = G s) : ZSorted G L := ⟨h.ord, fun s => by rw [h.mem, e]⟩
def zin (l : List Nat) (s : Nat) : Bool := decide (s ∈ l)
theorem zin_step {l : List Nat} {i x : Nat} (h : i < l.length) (e : l[i] = x) (s : Nat) : zin (l.take (i + 1)) s = or (zin (l.take i) s) (s == x) := by
  unfold zin
  rw [List.take_succ_eq_append_getElem h, e, Bool.eq_iff_iff]
  simp
set_option maxRecDepth 100000 in
set_option maxHeartbeats 8000000 in
theorem rsort_any (v : Value) (ns : List Nat) (W : World) (h : IntsAt W v (natI ns)) (hm : ∀ n ∈ ns, n < 16777216) (hl : ns.length ≤ 100000) :
    Calls Try.prog 28 #[v] W fun e w' => (∃ v' L, e = .returned v' ∧ IntsAt w' v' (natI L) ∧ ZSorted (zin ns) L) ∧ Kept W w' := by
  obtain ⟨a, cp, rfl, ⟨hc, hcn⟩, _, hx⟩ := h
  obtain ⟨n, hn⟩ : ∃ n, n = (natI ns).length := ⟨_, rfl⟩
  have HN : Hid (n = ns.length) := Lib.hid (by rw [hn, natI_len])
  have HX : Hid (∀ i (h : i < ns.length), ∃ b o, a = some ⟨b, o, none⟩ ∧ W.cell? ⟨b, o + i, none⟩ = some (.int .i64 ((ns[i] : Nat) : Int))) := Lib.hid fun i hi => by
    obtain ⟨b, o, e, hc⟩ := hx i (by rw [natI_len]; exact hi)
    exact ⟨b, o, e, by simpa [natI] using hc⟩
  have HMM := Lib.hid hm
  rw [← hn] at hc ⊢
  have hnb : n ≤ 100000 := by rw [HN.out]; exact hl
  obtain ⟨P, hP⟩ : ∃ P : Ending → World → Prop, P = fun e w' => (∃ v' L, e = .returned v' ∧ IntsAt w' v' (natI L) ∧ ZSorted (zin ns) L) ∧ Kept W w' := ⟨_, rfl⟩
  rw [← hP]
  have HP := Lib.hid hP
  clear hx hm hl hn hP
  go_enter Try.func28, Try.ntmps28
  go_wp2_with fail
  go_loopg [3, 4] n (fun kx s3 s4 wr => ∃ (i m c : Nat) (b : Option Addr) (L : List Nat), s3 = .slice b m c ∧ s4 = .int .i64 i ∧ i ≤ n ∧ n - i ≤ kx ∧ m ≤ i ∧ m ≤ c ∧ Hid (m = L.length) ∧ Hid (OwnInts wr W.heap.size (.slice b m c) (natI L)) ∧ Hid (ZSorted (zin (ns.take i)) L) ∧ Hid (Kept W wr))
  case atStart => exact ⟨0, 0, 0, none, [], rfl, by first | rfl | go_num, Nat.zero_le _, by omega, Nat.le_refl _, Nat.le_refl _, Lib.hid rfl, Lib.hid (OwnInts.nil _ _), Lib.hid ⟨List.Pairwise.nil, fun s => by simp [zin]⟩, Lib.hid (Kept.refl _)⟩
  case round =>
    obtain ⟨i, m, c, b, L, rfl, rfl, hi, hix, hmi, hmc, HML, HO, HS, HKr⟩ := hrel
    obtain ⟨wo, rfl⟩ : ∃ wo : World, wo = wr := ⟨_, rfl⟩
    by_cases hlt : i < n
    · have hlti : (i : Int) < (n : Int) := by omega
      have hi0 : (0 : Int) ≤ (i : Int) := by omega
      have hil : i < ns.length := by rw [← HN.out]; exact hlt
      obtain ⟨bx, ox, rfl, px⟩ := HX.out i hil
      obtain ⟨x, hx⟩ : ∃ x, x = ns[i] := ⟨_, rfl⟩
      rw [← hx] at px
      have hx24 : x < 16777216 := by rw [hx]; exact HMM.out _ (List.getElem_mem _)
      have HZI := Lib.hid (fun s => zin_step hil hx.symm s)
      have hxm : x ∈ ns.take (i + 1) := by rw [hx]; exact List.mem_take_iff_getElem.2 ⟨i, by omega, rfl⟩
      have HXM := Lib.hid hxm
      have hmb : m ≤ 100000 := by omega
      clear hx hxm hil
      go_wp2_with fail
      go_loopg [5] m (fun kx s5 wr => ∃ k : Nat, s5 = .int .i64 k ∧ k ≤ m ∧ m - k ≤ kx ∧ Hid (∀ j (hj : j < L.length), j < k → zlt L[j] x) ∧ Hid (Kept wo wr))
      case atStart => exact ⟨0, by first | rfl | go_num, Nat.zero_le _, by omega, Lib.hid (fun j _ h => by omega), Lib.hid (Kept.refl _)⟩
      case round =>
        obtain ⟨k, rfl, hk, hkx, HB, HKq⟩ := hrel
        obtain ⟨wi, rfl⟩ : ∃ wi : World, wi = wr := ⟨_, rfl⟩
        have q1 := (HKr.out.trans HKq.out).cell px
        by_cases hkm : k < m
        · have hkmi : (k : Int) < (m : Int) := by omega
          have hk0 : (0 : Int) ≤ (k : Int) := by omega
          have hkL : k < L.length := by rw [← HML.out]; exact hkm
          obtain ⟨g, rfl⟩ : ∃ g, b = some ⟨g, 0, none⟩ := by
            rcases HO.out.1.2 with ⟨e, _⟩ | ⟨g, _, _, e, _⟩
            · cases e; omega
            · cases e; exact ⟨g, rfl⟩
          have q2 := HKq.out.cell (own_at (HO.out.mono (Nat.zero_le _)) hkL)
          obtain ⟨y, hy⟩ : ∃ y, y = L[k] := ⟨_, rfl⟩
          rw [← hy] at q2
          have hyn : y ∈ ns := by
            have h1 : y ∈ L := by rw [hy]; exact List.getElem_mem _
            have h2 := of_decide_eq_true ((HS.out.mem y).1 h1)
            exact List.mem_of_mem_take h2
          have hy24 : y < 16777216 := HMM.out y hyn
          obtain ⟨bo, hbo⟩ : ∃ b, b = decide (zlt y x) := ⟨_, rfl⟩
          have HC : Hid (∀ W, Calls Try.prog 67 #[.int .i64 (y : Nat), .int .i64 (x : Nat)] W fun e w' => e = .returned (.bool bo) ∧ w' = W) := Lib.hid fun W => by
            rw [hbo]
            exact (rbefore_any hy24 hx24 W).mono fun _ _ ⟨h1, h2⟩ => ⟨h1, h2.symm⟩
          have g1 : decide ((k : Int) < (m : Int)) = true := decide_eq_true hkmi
          cases bo with
          | true =>
            have hz : zlt y x := of_decide_eq_true hbo.symm
            have HB2 : Hid (∀ j (hj : j < L.length), j < k + 1 → zlt L[j] x) := Lib.hid fun j hj hjk => by
              by_cases e : j = k
              · subst e; rw [← hy]; exact hz
              · exact HB.out j hj (by omega)
            clear hy hyn hbo hz hkL
            go_upto_region 6 with fail
            go_quiet ((go_at_call 67; exact Calls.quiet_of_same (HC.out _)))
            go_wp2_with fail
            go_roundg (m - (k + 1))
            case measure => omega
            case rel => exact ⟨k + 1, by go_num, by omega, Nat.le_refl _, HB2, Lib.hid (HKq.out.drewN _)⟩
          | false =>
            have hz : ¬ zlt y x := of_decide_eq_false hbo.symm
            by_cases hxy : y = x
            · obtain rfl := hxy
              have HS2 : Hid (ZSorted (zin (ns.take (i + 1))) L) := Lib.hid (zsorted_same HS.out fun s => by
                rw [HZI.out s]
                by_cases e : s = y
                · have : zin (ns.take i) y = true := (HS.out.mem y).1 (by rw [hy]; exact List.getElem_mem _)
                  rw [e, this]; rfl
                · rw [beq_eq_false_iff_ne.2 e, Bool.or_false])
              have g2 : decide ((y : Int) = (y : Int)) = true := decide_eq_true rfl
              have g3 : ((y : Int) == (y : Int)) = true := beq_self_eq_true _
              clear hy hyn hbo hz hkL
              go_upto_region 6 with fail
              go_quiet ((go_at_call 67; exact Calls.quiet_of_same (HC.out _)))
              go_upto_region 8 with fail
              go_quiet (fail)
              go_wp2_with fail
              go_roundg (n - (i + 1))
              case measure => omega
              case rel => exact ⟨i + 1, m, c, some ⟨g, 0, none⟩, L, rfl, by go_num, by omega, Nat.le_refl _, by omega, hmc, HML, Lib.hid ((HO.out.kept HKq.out).kept ((Kept.refl _).drewN _)), HS2, Lib.hid ((HKr.out.trans HKq.out).drewN _)⟩
            · have hxl : zlt x y := ((zlt_total x y).resolve_right (fun h => h.elim (fun e => hxy e.symm) hz))
              have HAF : Hid (∀ (hj : k < L.length), zlt x L[k]) := Lib.hid fun _ => by rw [← hy]; exact hxl
              have g2 : decide ((y : Int) = (x : Int)) = false := decide_eq_false (by omega)
              have g3 : ((y : Int) == (x : Int)) = false := beq_eq_false_iff_ne.2 (by omega)
              clear hy hyn hbo hz hkL hxl hxy
              go_upto_region 6 with fail
              go_quiet ((go_at_call 67; exact Calls.quiet_of_same (HC.out _)))
              generalize HWQ2 : World.drewN wi _ = w2
              have HK2 : Hid (Kept wi w2) := Lib.hid (by rw [← HWQ2]; exact (Kept.refl _).drewN _)
              have q1 := HK2.out.cell q1
              have q2 := HK2.out.cell q2
              clear HWQ2
              go_upto_region 8 with fail
              go_quiet (fail)
              generalize HWQ : World.drewN w2 _ = w3
              have HK3 : Hid (Kept w2 w3) := Lib.hid (by rw [← HWQ]; exact (Kept.refl _).drewN _)
              have HKW3 := Lib.hid (((HKr.out.trans HKq.out).trans HK2.out).trans HK3.out)
              have r1 := HK3.out.cell q1
              have HO3 : Hid (OwnInts w3 W.heap.size (.slice (some ⟨g, 0, none⟩) m c) (natI L)) := Lib.hid (((HO.out.kept HKq.out).kept HK2.out).kept HK3.out)
              have HLN : Hid ((natI L).length < 17592186044416) := Lib.hid (by rw [natI_len, ← HML.out]; omega)
              have HCA : Hid ((w3.alloc (.cells #[.int .i64 (x : Nat)] 3)).cell? ⟨w3.heap.size, 0, none⟩ = some (.int .i64 (x : Nat))) := Lib.hid (by simp)
              have HSZ : Hid (W.heap.size ≤ (w3.alloc (.cells #[.int .i64 (x : Nat)] 3)).heap.size) := Lib.hid (HKW3.out.alloc _).size
              have HL1 : Hid ((natI L ++ [(x : Int)]).length = m + 1) := Lib.hid (by rw [List.length_append, natI_len, ← HML.out]; rfl)
              clear HWQ q1 q2
              go_wp2_with (at_builtin; (refine app_int rfl _ _ rfl W.heap.size _ (natI L) rfl (HO3.out.kept ((Kept.refl _).alloc _)) ⟨w3.heap.size, 0, none⟩ (x : Int) rfl HCA.out HLN.out HSZ.out ?_); intro v7 w7 hown7 _ hb7; obtain ⟨g7, c7, rfl, hc7, hg7⟩ := own_some hown7 HL1.out (by omega); have HO7 := Lib.hid hown7; have HK7 := Lib.hid ((HKW3.out.trans ((Kept.refl w3).alloc _)).app hb7); have HG7 := Lib.hid hg7; clear hown7 hb7 hg7 r1)
              go_loopg [6] m (fun kx s6 wr => ∃ p y : Nat, s6 = .int .i64 p ∧ k ≤ p ∧ p ≤ m ∧ p - k ≤ kx ∧ Hid (OwnInts wr W.heap.size (.slice (some ⟨g7, 0, none⟩) (m + 1) c7) (natI (L.take p ++ y :: L.drop p))) ∧ Hid (Kept W wr))
              case atStart => exact ⟨m, x, by first | rfl | go_num, hk, Nat.le_refl _, by omega, Lib.hid (by have e1 : L.take m ++ x :: L.drop m = L ++ [x] := (by rw [HML.out, List.take_length, List.drop_length]); rw [e1, natI_app]; exact HO7.out), HK7⟩
              case round =>
                obtain ⟨p, y9, rfl, hkp, hpm, hpx, HOp, HKp⟩ := hrel
                obtain ⟨w8, rfl⟩ : ∃ w8 : World, w8 = wr := ⟨_, rfl⟩
                by_cases hpk : k < p
                · have hpki : (k : Int) < (p : Int) := by omega
                  obtain ⟨p', hp'⟩ : ∃ p', p = p' + 1 := ⟨p - 1, by omega⟩
                  subst hp'
                  have ep : ((p' + 1 : Nat) : Int) - 1 = (p' : Int) := by omega
                  have ep2 : (p' : Int) + 1 - 1 = (p' : Int) := by omega
                  have hpL : p' < L.length := by rw [← HML.out]; omega
                  have hln : (L.take (p' + 1) ++ y9 :: L.drop (p' + 1)).length = m + 1 := by rw [List.length_append, List.length_take, List.length_cons, List.length_drop]; have := HML.out; omega
                  have z1 := own_at (HOp.out.mono (Nat.zero_le _)) (i := p') (by rw [hln]; omega)
                  rw [shift_read hpL] at z1
                  have z2 := own_at (HOp.out.mono (Nat.zero_le _)) (i := p' + 1) (by rw [hln]; omega)
                  have z3 := own_free HOp.out (p' + 1)
                  have hst := own_setI HOp.out (p' + 1) L[p']
                  rw [shift_step hpL] at hst
                  obtain ⟨yn, hyn⟩ : ∃ y, y = L[p'] := ⟨_, rfl⟩
                  rw [← hyn] at z1 hst
                  obtain ⟨yo, hyo⟩ : ∃ y, y = (L.take (p' + 1) ++ y9 :: L.drop (p' + 1))[p' + 1]'(by rw [hln]; omega) := ⟨_, rfl⟩
                  rw [← hyo] at z2
                  have hp0 : (0 : Int) ≤ (p' : Int) := by omega
                  have hpn : (p' : Int) < ((m + 1 : Nat) : Int) := by omega
                  have hpn1 : ((p' + 1 : Nat) : Int) < ((m + 1 : Nat) : Int) := by omega
                  have hpb : p' ≤ 100000 := by omega
                  have HST := Lib.hid hst
                  clear hyn hyo hst hln hpL
                  go_wp2_with fail
                  go_roundg (p' - k)
                  case measure => omega
                  case rel => exact ⟨p', yn, by first | rfl | go_num, by omega, by omega, Nat.le_refl _, HST, Lib.hid (HKp.out.store HG7.out _ _)⟩
                · obtain rfl : p = k := by omega
                  have hpki : ¬ (p : Int) < (p : Int) := by omega
                  have hln : (L.take p ++ y9 :: L.drop p).length = m + 1 := by rw [List.length_append, List.length_take, List.length_cons, List.length_drop]; have := HML.out; omega
                  have z2 := own_at (HOp.out.mono (Nat.zero_le _)) (i := p) (by rw [hln]; omega)
                  have z3 := own_free HOp.out p
                  have hst := own_setI HOp.out p x
                  rw [shift_last (by have := HML.out; omega)] at hst
                  obtain ⟨yo, hyo⟩ : ∃ y, y = (L.take p ++ y9 :: L.drop p)[p]'(by rw [hln]; omega) := ⟨_, rfl⟩
                  rw [← hyo] at z2
                  have r2 := HKp.out.cell px
                  have hp0 : (0 : Int) ≤ (p : Int) := by omega
                  have hpn : (p : Int) < ((m + 1 : Nat) : Int) := by omega
                  have HST := Lib.hid hst
                  have HSO : Hid (ZSorted (zin (ns.take (i + 1))) (L.take p ++ x :: L.drop p)) := Lib.hid (zsorted_same (zsorted_ins HS.out (by have := HML.out; omega) HB.out HAF.out) fun s => (HZI.out s).symm)
                  have HLN2 : Hid (m + 1 = (L.take p ++ x :: L.drop p).length) := Lib.hid (by rw [List.length_append, List.length_take, List.length_cons, List.length_drop]; have := HML.out; omega)
                  clear hyo hst hln
                  go_wp2_with fail
                  go_roundg (n - (i + 1))
                  case measure => omega
                  case rel => exact ⟨i + 1, m + 1, c7, some ⟨g7, 0, none⟩, _, rfl, by go_num, by omega, Nat.le_refl _, by omega, hc7, HLN2, HST, HSO, Lib.hid (HKp.out.store HG7.out _ _)⟩
        · have hkmi : ¬ (k : Int) < (m : Int) := by omega
          have g1 : decide ((k : Int) < (m : Int)) = false := decide_eq_false hkmi
          have HAF : Hid (∀ (hj : k < L.length), zlt x L[k]) := Lib.hid fun hj => by have := HML.out; omega
          go_upto_region 6 with fail
          go_quiet (fail)
          generalize HWQ2 : World.drewN wi _ = w2
          have HK2 : Hid (Kept wi w2) := Lib.hid (by rw [← HWQ2]; exact (Kept.refl _).drewN _)
          have q1 := HK2.out.cell q1
          clear HWQ2
          go_upto_region 8 with fail
          go_quiet (fail)
          generalize HWQ : World.drewN w2 _ = w3
          have HK3 : Hid (Kept w2 w3) := Lib.hid (by rw [← HWQ]; exact (Kept.refl _).drewN _)
          have HKW3 := Lib.hid (((HKr.out.trans HKq.out).trans HK2.out).trans HK3.out)
          have r1 := HK3.out.cell q1
          have HO3 : Hid (OwnInts w3 W.heap.size (.slice b m c) (natI L)) := Lib.hid (((HO.out.kept HKq.out).kept HK2.out).kept HK3.out)
          have HLN : Hid ((natI L).length < 17592186044416) := Lib.hid (by rw [natI_len, ← HML.out]; omega)
          have HCA : Hid ((w3.alloc (.cells #[.int .i64 (x : Nat)] 3)).cell? ⟨w3.heap.size, 0, none⟩ = some (.int .i64 (x : Nat))) := Lib.hid (by simp)
          have HSZ : Hid (W.heap.size ≤ (w3.alloc (.cells #[.int .i64 (x : Nat)] 3)).heap.size) := Lib.hid (HKW3.out.alloc _).size
          have HL1 : Hid ((natI L ++ [(x : Int)]).length = m + 1) := Lib.hid (by rw [List.length_append, natI_len, ← HML.out]; rfl)
          clear HWQ q1
          go_wp2_with (at_builtin; (refine app_int rfl _ _ rfl W.heap.size _ (natI L) rfl (HO3.out.kept ((Kept.refl _).alloc _)) ⟨w3.heap.size, 0, none⟩ (x : Int) rfl HCA.out HLN.out HSZ.out ?_); intro v7 w7 hown7 _ hb7; obtain ⟨g7, c7, rfl, hc7, hg7⟩ := own_some hown7 HL1.out (by omega); have HO7 := Lib.hid hown7; have HK7 := Lib.hid ((HKW3.out.trans ((Kept.refl w3).alloc _)).app hb7); have HG7 := Lib.hid hg7; clear hown7 hb7 hg7 r1)
          go_loopg [6] m (fun kx s6 wr => ∃ p y : Nat, s6 = .int .i64 p ∧ k ≤ p ∧ p ≤ m ∧ p - k ≤ kx ∧ Hid (OwnInts wr W.heap.size (.slice (some ⟨g7, 0, none⟩) (m + 1) c7) (natI (L.take p ++ y :: L.drop p))) ∧ Hid (Kept W wr))
          case atStart => exact ⟨m, x, by first | rfl | go_num, hk, Nat.le_refl _, by omega, Lib.hid (by have e1 : L.take m ++ x :: L.drop m = L ++ [x] := (by rw [HML.out, List.take_length, List.drop_length]); rw [e1, natI_app]; exact HO7.out), HK7⟩
          case round =>
            obtain ⟨p, y9, rfl, hkp, hpm, hpx, HOp, HKp⟩ := hrel
            obtain ⟨w8, rfl⟩ : ∃ w8 : World, w8 = wr := ⟨_, rfl⟩
            by_cases hpk : k < p
            · omega
            · obtain rfl : p = k := by omega
              have hpki : ¬ (p : Int) < (p : Int) := by omega
              have hln : (L.take p ++ y9 :: L.drop p).length = m + 1 := by rw [List.length_append, List.length_take, List.length_cons, List.length_drop]; have := HML.out; omega
              have z2 := own_at (HOp.out.mono (Nat.zero_le _)) (i := p) (by rw [hln]; omega)
              have z3 := own_free HOp.out p
              have hst := own_setI HOp.out p x
              rw [shift_last (by have := HML.out; omega)] at hst
              obtain ⟨yo, hyo⟩ : ∃ y, y = (L.take p ++ y9 :: L.drop p)[p]'(by rw [hln]; omega) := ⟨_, rfl⟩
              rw [← hyo] at z2
              have r2 := HKp.out.cell px
              have hp0 : (0 : Int) ≤ (p : Int) := by omega
              have hpn : (p : Int) < ((m + 1 : Nat) : Int) := by omega
              have HST := Lib.hid hst
              have HSO : Hid (ZSorted (zin (ns.take (i + 1))) (L.take p ++ x :: L.drop p)) := Lib.hid (zsorted_same (zsorted_ins HS.out (by have := HML.out; omega) HB.out HAF.out) fun s => (HZI.out s).symm)
              have HLN2 : Hid (m + 1 = (L.take p ++ x :: L.drop p).length) := Lib.hid (by rw [List.length_append, List.length_take, List.length_cons, List.length_drop]; have := HML.out; omega)
              clear hyo hst hln
              go_wp2_with fail
              go_roundg (n - (i + 1))
              case measure => omega
              case rel => exact ⟨i + 1, m + 1, c7, some ⟨g7, 0, none⟩, _, rfl, by go_num, by omega, Nat.le_refl _, by omega, hc7, HLN2, HST, HSO, Lib.hid (HKp.out.store HG7.out _ _)⟩
    · have hlti : ¬ (i : Int) < (n : Int) := by omega
      have HFIN : Hid (P (.returned (.slice b m c)) wo) := Lib.hid (by
        rw [HP.out]
        have e : ns.take i = ns := by rw [show i = ns.length by rw [← HN.out]; omega, List.take_length]
        exact ⟨⟨_, L, rfl, HO.out.ints, by have := HS.out; rwa [e] at this⟩, HKr.out⟩)
      go_wp2_with fail
      exact HFIN.out
end Go.Proofs.Ytiplibgnfcdlkaa
