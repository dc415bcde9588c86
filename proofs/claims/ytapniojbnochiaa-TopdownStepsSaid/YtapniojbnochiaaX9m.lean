import Derived.Test.YtapniojbnochiaaX8m
import Derived.Test.YtapniojbnochiaaK5
/-
  Walks: faultlineref31.Cuts, Steps.
-/
namespace Go.Proofs.Ytapniojbnochiaa
open Go.RowKit

set_option maxRecDepth 100000 in
theorem rrun_typed (v : Value) (f : Fm) (V T : Nat) (w : World) (hv : NodesAt w v f.nodes) (hok : Ok f V T) (hs : synK V T f = false) :
    Calls Try.prog 70 #[.agg #[.int .i64 V, v, .int .i64 T]] w fun e w' => e = .returned (.tuple #[.slice none 0 0, .slice none 0 0, .int .i64 7]) ∧ Kept w w' := by
  have HTY : Hid (∀ W, Kept w W → Calls Try.prog 59 #[.agg #[.int .i64 V, v, .int .i64 T]] W fun e w' => e = .returned (.int .i64 7) ∧ Kept W w') := Lib.hid fun W hk => by
    have := typed_any v f V T W (hv.kept hk) hok
    rw [if_neg (by rw [hs]; decide)] at this; exact this
  obtain ⟨a, c, rfl, hv2⟩ := hv
  clear hs hok hv2
  go_enter Try.func70, Try.ntmps70
  go_wp2_with (go_at_call 59; refine (HTY.out _ ((Kept.refl _).alloc _)).mono ?_; rintro e w1 ⟨rfl, hk1⟩)
  go_ret3
  exact ⟨rfl, ((Kept.refl _).alloc _).trans hk1⟩
set_option maxRecDepth 100000 in
theorem t31cuts_err (v : Value) (V T q : Nat) (hq : q ≠ 0) (w : World) (hs : ∃ a n c, v = .slice a n c) (hr : ∀ W, Kept w W → Calls Try.prog 70 #[.agg #[.int .i64 V, v, .int .i64 T]] W fun e w' => e = .returned (.tuple #[.slice none 0 0, .slice none 0 0, .int .i64 q]) ∧ Kept W w') :
    Calls Try.prog 33 #[.agg #[.int .i64 V, v, .int .i64 T]] w fun e w' => e = .returned (.tuple #[.slice none 0 0, .int .i64 q]) ∧ Kept w w' := by
  obtain ⟨a, n, c, rfl⟩ := hs
  have H := Lib.hid hr
  have b1 : ((q : Int) != 0) = true := by simp; omega
  clear hr hq
  go_enter Try.func33, Try.ntmps33
  go_wp2_with (go_at_call 70; refine (H.out _ ((Kept.refl _).alloc _)).mono ?_; rintro e w1 ⟨rfl, hk1⟩)
  go_ret2
  exact ⟨rfl, ((Kept.refl _).alloc _).trans hk1⟩
set_option maxRecDepth 100000 in
theorem t31steps_err (v : Value) (V T q : Nat) (hq : q ≠ 0) (w : World) (hs : ∃ a n c, v = .slice a n c) (hr : ∀ W, Kept w W → Calls Try.prog 70 #[.agg #[.int .i64 V, v, .int .i64 T]] W fun e w' => e = .returned (.tuple #[.slice none 0 0, .slice none 0 0, .int .i64 q]) ∧ Kept W w') :
    Calls Try.prog 35 #[.agg #[.int .i64 V, v, .int .i64 T]] w fun e w' => e = .returned (.tuple #[.slice none 0 0, .int .i64 q]) ∧ Kept w w' := by
  obtain ⟨a, n, c, rfl⟩ := hs
  have H := Lib.hid hr
  have b1 : ((q : Int) != 0) = true := by simp; omega
  clear hr hq
  go_enter Try.func35, Try.ntmps35
  go_wp2_with (go_at_call 70; refine (H.out _ ((Kept.refl _).alloc _)).mono ?_; rintro e w1 ⟨rfl, hk1⟩)
  go_ret2
  exact ⟨rfl, ((Kept.refl _).alloc _).trans hk1⟩
def RefGood (w' : World) (e : Ending) (p : List Nat × List Nat) : Prop := ∃ Z v1 v2 L, e = .returned (.tuple #[v1, v2, .int .i64 0]) ∧ OwnRfs Z w' 0 v1 L ∧ L.Perm p.1 ∧ OwnInts w' 0 v2 (ofN p.2)
set_option maxRecDepth 100000 in
theorem t31steps_ok (v : Value) (V T : Nat) (p : List Nat × List Nat) (w : World) (hs : ∃ a n c, v = .slice a n c) (hr : ∀ W, Kept w W → Calls Try.prog 70 #[.agg #[.int .i64 V, v, .int .i64 T]] W fun e w' => RefGood w' e p ∧ Kept W w') :
    Calls Try.prog 35 #[.agg #[.int .i64 V, v, .int .i64 T]] w fun e w' => (∃ v', e = .returned (.tuple #[v', .int .i64 0]) ∧ IntsAt w' v' (ofN p.2)) ∧ Kept w w' := by
  obtain ⟨a, n, c, rfl⟩ := hs
  have H := Lib.hid hr
  clear hr
  go_enter Try.func35, Try.ntmps35
  go_wp2_with (go_at_call 70; refine (H.out _ ((Kept.refl _).alloc _)).mono ?_; rintro e w1 ⟨⟨Z1, v1, v2, L, rfl, ho1, hp1, ho2⟩, hk1⟩; obtain ⟨a2, n2, c2, rfl⟩ := ho2.ints.shape; obtain ⟨a1, c1, rfl, _⟩ := ho1.slice; have O2 := Lib.hid ho2; clear ho1 hp1 ho2)
  go_ret2
  exact ⟨⟨_, rfl, O2.out.ints⟩, ((Kept.refl _).alloc _).trans hk1⟩
set_option maxRecDepth 100000 in
set_option maxHeartbeats 1000000 in
theorem t31cuts_ok (v : Value) (V T : Nat) (p : List Nat × List Nat) (w : World) (hg : Good p.1) (hm : ∀ r ∈ p.1, Mk r) (hs : ∃ a n c, v = .slice a n c) (hr : ∀ W, Kept w W → Calls Try.prog 70 #[.agg #[.int .i64 V, v, .int .i64 T]] W fun e w' => RefGood w' e p ∧ Kept W w') :
    Calls Try.prog 33 #[.agg #[.int .i64 V, v, .int .i64 T]] w fun e w' => (∃ v', e = .returned (.tuple #[v', .int .i64 0]) ∧ IntsAt w' v' (ofN p.1)) ∧ Kept w w' := by
  obtain ⟨a, n, c, rfl⟩ := hs
  have H := Lib.hid hr
  have HG := Lib.hid hg
  have HM := Lib.hid hm
  clear hr hg hm
  go_enter Try.func33, Try.ntmps33
  go_wp2_with (go_at_call 70; refine (H.out _ ((Kept.refl _).alloc _)).mono ?_; rintro e w1 ⟨⟨Z1, v1, v2, L, rfl, ho1, hp1, ho2⟩, hk1⟩; obtain ⟨ln, hln⟩ : ∃ ln, ln = L.length := ⟨_, rfl⟩; obtain ⟨a1, c1, rfl, _⟩ := ho1.slice; obtain ⟨a2, n2, c2, rfl⟩ := ho2.ints.shape; rw [← hln] at ho1; rw [← hln]; have O1 := Lib.hid ho1; have HLN := Lib.hid hln; have HP1 := Lib.hid hp1; have hlb : ln ≤ 20000 := (by rw [hln]; exact ho1.len); clear hln hp1 ho1 ho2)
  have hk1w := ((Kept.refl _).alloc _).trans hk1
  have HK1 := Lib.hid hk1w
  clear hk1w hk1
  go_loopg [7, 21] ln (fun kx s7 s21 wr => ∃ (k : Nat) (vo : Value), s7 = vo ∧ s21 = .int .i64 k ∧ k ≤ ln ∧ ln - k ≤ kx ∧ Hid (OwnInts wr w1.heap.size vo (ofN (L.take k))) ∧ Hid (Kept w1 wr))
  case atStart => exact ⟨0, _, rfl, rfl, Nat.zero_le _, by omega, Lib.hid (OwnInts.nil _ _), Lib.hid (Kept.refl _)⟩
  case round =>
    obtain ⟨k, vo, rfl, rfl, hk, hkx, HO, HK⟩ := hrel
    have hsz := HK.out.size
    obtain ⟨ao, no, co, hvo⟩ := HO.out.ints.shape
    subst hvo
    by_cases hlt : k < ln
    · have hkl : k < L.length := by have := HLN.out; omega
      obtain ⟨b, ua, um, uc, rfl, _, _, hrg⟩ := (O1.out.kept HK.out).get k hkl
      have hmk : Mk L[k] := HM.out _ (HP1.out.mem_iff.1 (List.getElem_mem _))
      have hev : evW L[k] = L[k] := by unfold evW; unfold Mk at hmk; omega
      have hnext : ofN (L.take (k + 1)) = ofN (L.take k) ++ [((evW L[k] : Nat) : Int)] := by unfold ofN; rw [hev, List.take_succ_eq_append_getElem hkl, List.map_append]; rfl
      have hlen : (ofN (L.take k)).length = k := by simp [ofN]; omega
      have hkn : (k : Int) < (ln : Int) := by omega
      have HRG : Hid (wr.rangeAt b (k * 2) [.int .i64 (evW L[k]), .slice ua um uc]) := Lib.hid hrg
      generalize evW L[k] = z0 at *
      have HNX := Lib.hid hnext
      clear hrg hmk hev hnext
      go_wp2_with (first | (with_reducible refine wpList_load_mid rfl 102 _ rfl b (k * 2) rfl _ _ HRG.out Try.underlying102 rfl (by kernel_rfl) ?_) | (at_builtin; refine app_int rfl _ _ rfl w1.heap.size _ (ofN (L.take k)) rfl (HO.out.kept (((Kept.refl _).alloc _).alloc _)) _ (z0 : Int) rfl (by simp) (by rw [hlen]; omega) (by simp; omega) ?_; intro v7 w7 hown7 _ hb7; have O7 := Lib.hid hown7; have HB7 := Lib.hid hb7; clear hown7 hb7))
      go_roundg (ln - (k + 1))
      case measure => omega
      case rel => exact ⟨k + 1, v7, rfl, by go_num, by omega, Nat.le_refl _, Lib.hid (by rw [HNX.out]; exact O7.out), Lib.hid (((HK.out.alloc _).alloc _).app HB7.out)⟩
    · have hke : k = ln := by omega
      have HF : Hid (SetsAt wr (.slice ao no co) L) := Lib.hid (by have h := HO.out; rw [hke, HLN.out, List.take_length] at h; exact ⟨h.ints, fun x hx => HM.out x (HP1.out.mem_iff.1 hx)⟩)
      have HLB : Hid (L.length ≤ 8796093022208) := Lib.hid (by rw [← HLN.out]; omega)
      have hkn : ¬ (k : Int) < (ln : Int) := by omega
      clear hke
      go_wp2_with (go_at_call 71; refine (rsort_any L.length L _ wr (Nat.le_refl _) HF.out HLB.out).mono ?_; rintro e w3 ⟨⟨v3, rfl, ho3⟩, hk3⟩; obtain ⟨a3, n3, c3, rfl⟩ := ho3.1.ints.shape; have O3 := Lib.hid ho3; clear ho3)
      go_ret2
      have he : sortK L = p.1 := by
        have hp : p.1.Pairwise ltK := by rw [← HG.out.1]; exact pair_minK _
        exact pair_unique ltK ltK_irr ltK_tr _ _ (pair_sortK L) hp fun x => (mem_sortK L x).trans HP1.out.mem_iff
      exact ⟨⟨_, rfl, by rw [← he]; exact O3.out.1.ints⟩, HK1.out.trans (HK.out.trans hk3)⟩
/-- What both ways of Cuts and of Steps answer. -/
def TBoth (v : Value) (f : Fm) (V T : Nat) : Prop :=
  ∃ (q : Nat) (X1 X2 : List Int), q ≤ 100 ∧ ∀ W, NodesAt W v f.nodes →
    (Calls Try.prog 32 #[.agg #[.int .i64 V, v, .int .i64 T]] W fun e w' => (∃ v', e = .returned (.tuple #[v', errV q]) ∧ IntsAt w' v' X1) ∧ Kept W w') ∧
    (Calls Try.prog 33 #[.agg #[.int .i64 V, v, .int .i64 T]] W fun e w' => (∃ v', e = .returned (.tuple #[v', .int .i64 q]) ∧ IntsAt w' v' X1) ∧ Kept W w') ∧
    (Calls Try.prog 34 #[.agg #[.int .i64 V, v, .int .i64 T]] W fun e w' => (∃ v', e = .returned (.tuple #[v', errV q]) ∧ IntsAt w' v' X2) ∧ Kept W w') ∧
    (Calls Try.prog 35 #[.agg #[.int .i64 V, v, .int .i64 T]] W fun e w' => (∃ v', e = .returned (.tuple #[v', .int .i64 q]) ∧ IntsAt w' v' X2) ∧ Kept W w')
theorem tboth_all (v : Value) (f : Fm) (V T : Nat) (hok : Ok f V T) (hck : chkF f = 0) (hs : ∃ a n c, v = .slice a n c) : TBoth v f V T := by
  have bad : ∀ q, q ≠ 0 → q ≤ 100 → (∀ W, NodesAt W v f.nodes → (Calls Try.prog 32 #[.agg #[.int .i64 V, v, .int .i64 T]] W fun e w' => e = .returned (.tuple #[.slice none 0 0, errV q]) ∧ Kept W w') ∧
      (Calls Try.prog 34 #[.agg #[.int .i64 V, v, .int .i64 T]] W fun e w' => e = .returned (.tuple #[.slice none 0 0, errV q]) ∧ Kept W w')) →
      (∀ W, NodesAt W v f.nodes → Calls Try.prog 70 #[.agg #[.int .i64 V, v, .int .i64 T]] W fun e w' => e = .returned (.tuple #[.slice none 0 0, .slice none 0 0, .int .i64 q]) ∧ Kept W w') → TBoth v f V T := by
    intro q hq0 hq hA hB
    refine ⟨q, [], [], hq, fun W hW => ⟨(hA W hW).1.mono fun _ w' ⟨h1, h2⟩ => ⟨⟨_, h1, IntsAt.nil w'⟩, h2⟩, (t31cuts_err v V T q hq0 W hs fun W' hk => hB W' (hW.kept hk)).mono fun _ w' ⟨h1, h2⟩ => ⟨⟨_, h1, IntsAt.nil w'⟩, h2⟩,
      (hA W hW).2.mono fun _ w' ⟨h1, h2⟩ => ⟨⟨_, h1, IntsAt.nil w'⟩, h2⟩, (t31steps_err v V T q hq0 W hs fun W' hk => hB W' (hW.kept hk)).mono fun _ w' ⟨h1, h2⟩ => ⟨⟨_, h1, IntsAt.nil w'⟩, h2⟩⟩⟩
  rcases top_cases v f V T hok hck hs with ⟨q, hq, hfc⟩ | ⟨p, hl, hsy, hfc⟩
  · rcases hq with ⟨rfl, hsy, hl⟩ | ⟨rfl, hsy⟩
    · refine bad 4 (by omega) (by omega) hfc fun W hW => ?_
      have := rrun_ok v f V T W hW hok hsy
      rw [hl] at this
      exact this
    · exact bad 7 (by omega) (by omega) hfc fun W hW => rrun_typed v f V T W hW hok hsy
  · obtain ⟨hg, hm, _⟩ := topK_says hok hsy hl
    have h0 : ∀ W, NodesAt W v f.nodes → Calls Try.prog 70 #[.agg #[.int .i64 V, v, .int .i64 T]] W fun e w' => RefGood w' e p ∧ Kept W w' := fun W hW => by
      have := rrun_ok v f V T W hW hok hsy
      rw [hl] at this
      exact this
    exact ⟨0, ofN p.1, ofN p.2, by omega, fun W hW => ⟨(hfc W hW).1.mono fun _ _ ⟨⟨v', h1, h2⟩, h3⟩ => ⟨⟨v', h1, h2.1.ints⟩, h3⟩, t31cuts_ok v V T p W hg hm hs fun W' hk => h0 W' (hW.kept hk),
      (hfc W hW).2.mono fun _ _ ⟨⟨v', h1, h2⟩, h3⟩ => ⟨⟨v', h1, h2.ints⟩, h3⟩, t31steps_ok v V T p W hs fun W' hk => h0 W' (hW.kept hk)⟩⟩
end Go.Proofs.Ytapniojbnochiaa
