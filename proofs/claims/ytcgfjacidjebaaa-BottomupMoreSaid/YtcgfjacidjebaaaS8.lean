/-
  The law BottomupMore returns true, whatever the formula and the event: no condition.
-/
import Derived.Test.YtcgfjacidjebaaaT1
import Derived.Test.YtcgfjacidjebaaaS3
import Derived.Deep.RegionHeld3
import Derived.Deep.AppendLies
import Derived.Deep.RegionLaw
import Derived.Deep.DeepCutAuto
import Derived.Deep.DrawnRows
namespace Go.Proofs.Ytcgfjacidjebaaa
attribute [local go_sem ↓] Go.wp_at_zero Go.wp_at_succ
open Go.RowKit Go.ChangeShapes Go.WideShapes Go.ChangeAt Go.Joins Go.Deep

set_option maxRecDepth 100000 in
theorem moved_ex (V e : Nat) (v : Value) (T : Nat) (a : Nat) (w : World) (ha : a ≤ 1000) (hs : ∃ a n c, v = .slice a n c) :
    Calls Try.prog 28 #[.agg #[.int .i64 V, v, .int .i64 T], .int .i64 e, .int .i64 a] w fun e' w' => e' = .returned (.int .i64 (mvA V e a)) ∧ ∃ C, w' = w.alloc C := by
  obtain ⟨sa, n, c, rfl⟩ := hs
  unfold mvA
  by_cases h1 : a = e
  · rw [if_pos (by omega)]
    have b1 : ((a : Int) == (e : Int)) = true := by simp; omega
    clear h1
    go_enter Try.func28, Try.ntmps28
    go_wp2
    go_ret
    exact ⟨rfl, _, rfl⟩
  · rw [if_neg (by omega)]
    have b1 : ((a : Int) == (e : Int)) = false := by simp; omega
    clear h1
    by_cases h2 : a < V
    · rw [if_pos (by omega)]
      have h2' : (a : Int) < (V : Int) := by omega
      clear h2
      go_enter Try.func28, Try.ntmps28
      go_wp2
      go_ret
      exact ⟨rfl, _, rfl⟩
    · rw [if_neg (by omega)]
      have h2' : ¬ (a : Int) < (V : Int) := by omega
      clear h2
      go_enter Try.func28, Try.ntmps28
      go_wp2
      go_ret
      exact ⟨rfl, _, rfl⟩
theorem OwnNodes.one {w : World} {g B : Nat} {kd k : Int} (h : w.heap[g]? = some (.cells #[.int .i64 kd, .int .i64 k, .slice none 0 0] 47 (0, 0))) (hB : B ≤ g) : OwnNodes w B (.slice (some ⟨g, 0, none⟩) 1 1) [⟨kd, k, []⟩] :=
  ⟨[.int .i64 kd, .int .i64 k, .slice none 0 0], ⟨rfl, .inr ⟨g, 1, #[.int .i64 kd, .int .i64 k, .slice none 0 0], rfl, hB, h, Nat.le_refl _, by unfold maxLen; omega, rfl, rfl⟩⟩, by simp, fun i hi => by
    have : i = 0 := by simpa using hi
    subst this
    exact ⟨.slice none 0 0, rfl, rfl, rfl, OwnInts.nil _ _⟩⟩
/-- What stands behind the making of the moved formula. -/
def Made (wq wx : World) (V : Nat) (k t : Int) (gx gn : Nat) : Prop :=
  RowAt wx gx 24 [.int .i64 V, .slice (some ⟨gn, 0, none⟩) 1 1, .int .i64 t] ∧ OwnNodes wx wq.heap.size (.slice (some ⟨gn, 0, none⟩) 1 1) [⟨0, k, []⟩] ∧ Kept wq wx ∧ wq.heap.size ≤ gx ∧ gx ≠ gn
theorem made1 (wq : World) (V : Nat) (k t : Int) (C : Obj) : Made wq (((wq.alloc (.cells #[.int .i64 0, .int .i64 k, .slice none 0 0] 47)).alloc C).alloc (.cells #[.int .i64 V, .slice (some ⟨wq.heap.size, 0, none⟩) 1 1, .int .i64 t] 24)).drew V k t (wq.heap.size + 1 + 1) wq.heap.size :=
  ⟨by have := (RowAt.made ((wq.alloc (.cells #[.int .i64 0, .int .i64 k, .slice none 0 0] 47)).alloc C) #[.int .i64 V, .slice (some ⟨wq.heap.size, 0, none⟩) 1 1, .int .i64 t] 24).kept (Kept.refl _).drew; simpa using this,
   OwnNodes.one (Eq.trans (Below.block (((Kept.refl (wq.alloc (.cells #[.int .i64 0, .int .i64 k, .slice none 0 0] 47))).alloc _).alloc _).drew _ (by simp)) (heap_alloc_new wq _)) (Nat.le_refl _), ((((Kept.refl _).alloc _).alloc _).alloc _).drew, by omega, by omega⟩
theorem made2 (wq : World) (V : Nat) (k t : Int) (C : Obj) : Made wq (((wq.alloc (.cells #[.int .i64 0, .int .i64 k, .slice none 0 0] 47)).alloc (.cells #[.int .i64 V, .slice (some ⟨wq.heap.size, 0, none⟩) 1 1, .int .i64 t] 24)).alloc C).drew V k t (wq.heap.size + 1) wq.heap.size :=
  ⟨by have := (RowAt.made (wq.alloc (.cells #[.int .i64 0, .int .i64 k, .slice none 0 0] 47)) #[.int .i64 V, .slice (some ⟨wq.heap.size, 0, none⟩) 1 1, .int .i64 t] 24).kept ((Kept.refl _).alloc C).drew; simpa using this,
   OwnNodes.one (Eq.trans (Below.block (((Kept.refl (wq.alloc (.cells #[.int .i64 0, .int .i64 k, .slice none 0 0] 47))).alloc _).alloc _).drew _ (by simp)) (heap_alloc_new wq _)) (Nat.le_refl _), ((((Kept.refl _).alloc _).alloc _).alloc _).drew, by omega, by omega⟩
theorem made3 (wq : World) (V : Nat) (k t : Int) (C : Obj) : Made wq (((wq.alloc (.cells #[.int .i64 V, .slice (some ⟨wq.heap.size + 1, 0, none⟩) 1 1, .int .i64 t] 24)).alloc (.cells #[.int .i64 0, .int .i64 k, .slice none 0 0] 47)).alloc C).drew V k t wq.heap.size (wq.heap.size + 1) :=
  ⟨(RowAt.made wq #[.int .i64 V, .slice (some ⟨wq.heap.size + 1, 0, none⟩) 1 1, .int .i64 t] _).kept (((Kept.refl _).alloc _).alloc _).drew,
   OwnNodes.one (by have := Below.block (((Kept.refl ((wq.alloc (.cells #[.int .i64 V, .slice (some ⟨wq.heap.size + 1, 0, none⟩) 1 1, .int .i64 t] 24)).alloc (.cells #[.int .i64 0, .int .i64 k, .slice none 0 0] 47))).alloc C)).drew (wq.heap.size + 1) (by simp); rw [this]; simpa using heap_alloc_new (wq.alloc (.cells #[.int .i64 V, .slice (some ⟨wq.heap.size + 1, 0, none⟩) 1 1, .int .i64 t] 24)) (.cells #[.int .i64 0, .int .i64 k, .slice none 0 0] 47)) (by omega), ((((Kept.refl _).alloc _).alloc _).alloc _).drew, by omega, by omega⟩
theorem made4 (wq : World) (V : Nat) (k t : Int) (C : Obj) : Made wq (((wq.alloc (.cells #[.int .i64 V, .slice (some ⟨wq.heap.size + 1 + 1, 0, none⟩) 1 1, .int .i64 t] 24)).alloc C).alloc (.cells #[.int .i64 0, .int .i64 k, .slice none 0 0] 47)).drew V k t wq.heap.size (wq.heap.size + 1 + 1) :=
  ⟨(RowAt.made wq #[.int .i64 V, .slice (some ⟨wq.heap.size + 1 + 1, 0, none⟩) 1 1, .int .i64 t] _).kept (((Kept.refl _).alloc _).alloc _).drew,
   OwnNodes.one (by refine (Below.block (Kept.refl (((wq.alloc (.cells #[.int .i64 V, .slice (some ⟨wq.heap.size + 1 + 1, 0, none⟩) 1 1, .int .i64 t] 24)).alloc C).alloc (.cells #[.int .i64 0, .int .i64 k, .slice none 0 0] 47))).drew (wq.heap.size + 1 + 1) (by simp)).trans ?_; simpa using heap_alloc_new ((wq.alloc (.cells #[.int .i64 V, .slice (some ⟨wq.heap.size + 1 + 1, 0, none⟩) 1 1, .int .i64 t] 24)).alloc C) (.cells #[.int .i64 0, .int .i64 k, .slice none 0 0] 47)) (by omega), ((((Kept.refl _).alloc _).alloc _).alloc _).drew, by omega, by omega⟩
theorem made5 (wq : World) (V : Nat) (k t : Int) (C : Obj) : Made wq (((wq.alloc C).alloc (.cells #[.int .i64 V, .slice (some ⟨wq.heap.size + 1 + 1, 0, none⟩) 1 1, .int .i64 t] 24)).alloc (.cells #[.int .i64 0, .int .i64 k, .slice none 0 0] 47)).drew V k t (wq.heap.size + 1) (wq.heap.size + 1 + 1) :=
  ⟨by have := (RowAt.made (wq.alloc C) #[.int .i64 V, .slice (some ⟨wq.heap.size + 1 + 1, 0, none⟩) 1 1, .int .i64 t] 24).kept ((Kept.refl _).alloc (.cells #[.int .i64 0, .int .i64 k, .slice none 0 0] 47)).drew; simpa using this,
   OwnNodes.one (by refine (Below.block (Kept.refl (((wq.alloc C).alloc (.cells #[.int .i64 V, .slice (some ⟨wq.heap.size + 1 + 1, 0, none⟩) 1 1, .int .i64 t] 24)).alloc (.cells #[.int .i64 0, .int .i64 k, .slice none 0 0] 47))).drew (wq.heap.size + 1 + 1) (by simp)).trans ?_; simpa using heap_alloc_new ((wq.alloc C).alloc (.cells #[.int .i64 V, .slice (some ⟨wq.heap.size + 1 + 1, 0, none⟩) 1 1, .int .i64 t] 24)) (.cells #[.int .i64 0, .int .i64 k, .slice none 0 0] 47)) (by omega), ((((Kept.refl _).alloc _).alloc _).alloc _).drew, by omega, by omega⟩
theorem made6 (wq : World) (V : Nat) (k t : Int) (C : Obj) : Made wq (((wq.alloc C).alloc (.cells #[.int .i64 0, .int .i64 k, .slice none 0 0] 47)).alloc (.cells #[.int .i64 V, .slice (some ⟨wq.heap.size + 1, 0, none⟩) 1 1, .int .i64 t] 24)).drew V k t (wq.heap.size + 1 + 1) (wq.heap.size + 1) :=
  ⟨by have := (RowAt.made ((wq.alloc C).alloc (.cells #[.int .i64 0, .int .i64 k, .slice none 0 0] 47)) #[.int .i64 V, .slice (some ⟨wq.heap.size + 1, 0, none⟩) 1 1, .int .i64 t] 24).kept (Kept.refl _).drew; simpa using this,
   OwnNodes.one (by have := Below.block (((Kept.refl ((wq.alloc C).alloc (.cells #[.int .i64 0, .int .i64 k, .slice none 0 0] 47))).alloc (.cells #[.int .i64 V, .slice (some ⟨wq.heap.size + 1, 0, none⟩) 1 1, .int .i64 t] 24))).drew (wq.heap.size + 1) (by simp); rw [this]; simpa using heap_alloc_new (wq.alloc C) (.cells #[.int .i64 0, .int .i64 k, .slice none 0 0] 47)) (by omega), ((((Kept.refl _).alloc _).alloc _).alloc _).drew, by omega, by omega⟩
theorem OwnInts.zero {w : World} {B : Nat} {v : Value} {xs : List Int} (h : OwnInts w B v xs) : OwnInts w 0 v xs := by
  obtain ⟨⟨h1, h2⟩, h3⟩ := h
  refine ⟨⟨h1, ?_⟩, h3⟩
  rcases h2 with h2 | ⟨g, cap, cur, a, _, c⟩
  · exact .inl h2
  · exact .inr ⟨g, cap, cur, a, Nat.zero_le _, c⟩
theorem heap_new2 (w : World) (C O : Obj) : ((w.alloc C).alloc O).drew.heap[w.heap.size + 1]? = some O := by
  refine (Below.block (Kept.refl ((w.alloc C).alloc O)).drew (w.heap.size + 1) (by simp)).trans ?_
  simpa using heap_alloc_new (w.alloc C) O
/-- What the loop over the nodes keeps. -/
structure NInv (wq wr : World) (V ev k : Nat) (t : Int) (nodes : List Nd) (gx j : Nat) (ov : Value) : Prop where
  row : RowAt wr gx 24 [.int .i64 V, ov, .int .i64 t]
  own : OwnNodes wr wq.heap.size ov (⟨0, k, []⟩ :: (nodes.take j).map (mvN V ev))
  kept : Kept wq wr
  ge : wq.heap.size ≤ gx
theorem own_apart {w : World} {gx B : Nat} {v : Value} {xs : List Nd} {cs : List Value} (h : OwnNodes w B v xs) (hx : RowAt w gx 24 cs) : some gx ≠ v.ownBlock := by
  obtain ⟨cells, ⟨_, h2⟩, _⟩ := h
  obtain ⟨cur, hx1, _⟩ := hx
  intro e
  rcases h2 with ⟨rfl, _⟩ | ⟨g, cap, cur2, rfl, _, h7, _⟩
  · cases e
  · have : gx = g := by simpa [Value.ownBlock] using e
    subst this
    rw [hx1] at h7
    injection h7 with h7
    injection h7 with _ h8 _
    exact absurd h8 (by decide)
set_option maxRecDepth 100000 in
set_option maxHeartbeats 16000000 in
theorem more_true (w : World) (v : Value) (f : Fm) (x : Int) (hv : NodesAt w v f.nodes) (hfo : FmOk f) (hx : (Lit.int .u8 x).wf = true) :
    Calls Try.prog 6 #[fmV v f, .int .u8 x] w fun e w' => e = .returned (.bool true) ∧ Kept w w' := by
  obtain ⟨x0, x9⟩ := bounds_u8 hx
  obtain ⟨X, rfl⟩ := Int.eq_ofNat_of_zero_le x0
  have hX9 : X ≤ 255 := by omega
  clear hx x0 x9
  have ht : f.top ≤ 9223372036854775807 := hfo.2.1.2
  have hh : ∀ W, Kept w W → Calls Try.prog 17 #[fmV v f] W fun e w' => (∃ b, e = .returned (.bool b)) ∧ Kept W w' := fun W hk => heavy_any v f W (hv.kept hk)
  have hc : ∀ W, Kept w W → Calls Try.prog 26 #[fmV v f] W fun e w' => e = .returned (errV (chkF f)) ∧ Kept W w' := fun W hk => check_any v f W (hv.kept hk) ht
  obtain ⟨q, hq⟩ : ∃ q, q = chkF f := ⟨_, rfl⟩
  rw [← hq] at hc
  have hsh : ∃ a n c, v = .slice a n c ∧ n = f.nodes.length := by obtain ⟨a, c, h, _⟩ := hv; exact ⟨a, _, c, h, rfl⟩
  have HQ := Lib.hid hq
  have HV := Lib.hid hv
  obtain ⟨a, n, c, rfl, hnn⟩ := hsh
  have HNN := Lib.hid hnn
  clear hnn
  obtain ⟨vars, nodes, top⟩ := f
  have HH : Hid (∀ W, Kept w W → Calls Try.prog 17 #[.agg #[.int .i64 vars, .slice a n c, .int .i64 top]] W fun e w' => (∃ b, e = .returned (.bool b)) ∧ Kept W w') := Lib.hid hh
  have HC : Hid (∀ W, Kept w W → Calls Try.prog 26 #[.agg #[.int .i64 vars, .slice a n c, .int .i64 top]] W fun e w' => e = .returned (errV q) ∧ Kept W w') := Lib.hid hc
  have HA : Hid (∀ W, Calls Try.prog 16 #[] W fun e w' => e = .returned (.bool true) ∧ Kept W w') := Lib.hid fun W => awake_ok W
  show Calls _ _ #[.agg #[.int .i64 vars, .slice a n c, .int .i64 top], _] _ _
  clear hv hh hc hq ht hfo
  go_enter Try.func6, Try.ntmps6
  go_wp2_with (go_at_call 16; refine (HA.out _).mono ?_; rintro e w1 ⟨rfl, hk1⟩; obtain ⟨c0, c1, c2⟩ := fm_cells hk1)
  refine (HH.out _ (((Kept.refl _).alloc _).trans hk1)).mono ?_
  rintro e w2 ⟨⟨b, rfl⟩, hk2⟩
  have K2 := Lib.hid (hk1.trans hk2)
  clear hk1 hk2 c0 c1 c2
  obtain ⟨c0, c1, c2⟩ := fm_cells K2.out
  cases b with
  | true =>
    go_wp2_with (go_at_call 16; refine (HA.out _).mono ?_; rintro e w3 ⟨rfl, hk3⟩)
    go_ret
    exact ⟨rfl, (((Kept.refl _).alloc _).trans K2.out).trans hk3⟩
  | false =>
    go_wp2_with fail
    refine (HC.out _ (((Kept.refl _).alloc _).trans K2.out)).mono ?_
    rintro e w3 ⟨rfl, hk3⟩
    have K3 := Lib.hid (K2.out.trans hk3)
    clear hk3 c0 c1 c2
    obtain ⟨c0, c1, c2⟩ := fm_cells K3.out
    by_cases hq0 : q = 0
    · have hck := HQ.out.symm.trans hq0
      subst hq0
      rw [errV_zero]
      obtain ⟨V, T, hok⟩ := ok_of _ hck
      have e1 : vars = (V : Int) := hok.vars
      have e2 : top = (T : Int) := hok.top
      have hV := hok.v24
      have hN9 : nodes.length ≤ 128 := hok.n128
      have fc := fam_cases (.slice a n c) ⟨vars, nodes, top⟩ V T hok hck ⟨a, n, c, rfl⟩
      subst e1 e2
      have HVK := Lib.hid (fun W (hk : Kept w3 W) => HV.out.kept (((((Kept.refl _).alloc _).trans K3.out)).trans hk))
      have HOK := Lib.hid hok
      have HCK := Lib.hid hck
      by_cases hbad : V < 1 ∨ 10 < V ∨ 100 < n
      · clear fc hck hok
        rcases hbad with h | h | h
        · have h' : (V : Int) < 1 := by omega
          clear h
          go_wp2_with (go_at_call 16; refine (HA.out _).mono ?_; rintro e w4 ⟨rfl, hk4⟩)
          go_ret
          exact ⟨rfl, (((Kept.refl _).alloc _).trans K3.out).trans hk4⟩
        · have h' : ¬ (V : Int) < 1 := by omega
          have h'' : (10 : Int) < (V : Int) := by omega
          clear h
          go_wp2_with (go_at_call 16; refine (HA.out _).mono ?_; rintro e w4 ⟨rfl, hk4⟩)
          go_ret
          exact ⟨rfl, (((Kept.refl _).alloc _).trans K3.out).trans hk4⟩
        · by_cases h1 : (V : Int) < 1
          · go_wp2_with (go_at_call 16; refine (HA.out _).mono ?_; rintro e w4 ⟨rfl, hk4⟩)
            go_ret
            exact ⟨rfl, (((Kept.refl _).alloc _).trans K3.out).trans hk4⟩
          · by_cases h2 : (10 : Int) < (V : Int)
            · go_wp2_with (go_at_call 16; refine (HA.out _).mono ?_; rintro e w4 ⟨rfl, hk4⟩)
              go_ret
              exact ⟨rfl, (((Kept.refl _).alloc _).trans K3.out).trans hk4⟩
            · have h' : (100 : Int) < (n : Int) := by omega
              clear h
              go_wp2_with (go_at_call 16; refine (HA.out _).mono ?_; rintro e w4 ⟨rfl, hk4⟩)
              go_ret
              exact ⟨rfl, (((Kept.refl _).alloc _).trans K3.out).trans hk4⟩
      · have hV1 : ¬ (V : Int) < 1 := by omega
        have hVi : (V : Int) ≤ 10 := by omega
        have hVj : ¬ (10 : Int) < (V : Int) := by omega
        have hni : ¬ (100 : Int) < (n : Int) := by omega
        have hnj : (n : Int) ≤ 100 := by omega
        rcases fc with ⟨q, hq, hfc⟩ | ⟨l, hl, hs, hfc⟩
        · have HF := Lib.hid (fun W hk => (hfc W (HVK.out W hk)).2)
          have HI : Hid (∀ W c, Calls Try.prog 27 #[errV q, .int .i64 (c : Nat)] W fun e w' => e = .returned (.bool (q == c)) ∧ W = w') := Lib.hid fun W c => is_any q c (by omega) W
          have I7 : Hid (∀ W, Calls Try.prog 27 #[errV q, .int .i64 7] W fun e w' => e = .returned (.bool (q == 7)) ∧ W = w') := Lib.hid fun W => HI.out W 7
          have I4 : Hid (∀ W, Calls Try.prog 27 #[errV q, .int .i64 4] W fun e w' => e = .returned (.bool (q == 4)) ∧ W = w') := Lib.hid fun W => HI.out W 4
          have hqe : errV q = .iface 45 (.int .i64 q) := errV_pos (by omega)
          rw [hqe] at HF I7 I4
          clear hfc hck hok HI hqe hbad
          go_wp2_with fail
          refine (HF.out _ (Kept.refl _)).mono ?_
          rintro e w4 ⟨rfl, hk4⟩
          have K4 := Lib.hid (K3.out.trans hk4)
          clear c0 c1 c2 hk4
          rcases hq with hq | hq
          · rw [show (q == 7) = false by simp; omega] at I7
            rw [show (q == 4) = true by simp; omega] at I4
            clear hq
            go_wp2_with (first
              | (go_at_call 27; (with_reducible refine (I7.out _).mono ?_); rintro e w6 ⟨rfl, rfl⟩)
              | (go_at_call 27; (with_reducible refine (I4.out _).mono ?_); rintro e w6 ⟨rfl, rfl⟩))
            go_ret
            exact ⟨rfl, ((Kept.refl _).alloc _).trans K4.out⟩
          · rw [show (q == 7) = true by simp; omega] at I7
            clear hq
            go_wp2_with (go_at_call 27; (with_reducible refine (I7.out _).mono ?_); rintro e w6 ⟨rfl, rfl⟩)
            go_ret
            exact ⟨rfl, ((Kept.refl _).alloc _).trans K4.out⟩
        · have HF := Lib.hid (fun W hk => (hfc W (HVK.out W hk)).2)
          obtain ⟨ev, hev⟩ : ∃ ev, ev = X % V := ⟨_, rfl⟩
          have hevV : ev < V := by rw [hev]; exact Nat.mod_lt _ (by omega)
          have etm : Int.tmod (X : Int) (V : Int) = (ev : Int) := by rw [Int.tmod_eq_emod_of_nonneg (by omega), hev]; simp
          have est : (X : Int) % (V : Int) = (ev : Int) := by rw [hev]; simp
          have hVn : ((V : Int) == 0) = false := by simp; omega
          have hV0 : (0 : Int) < (V : Int) := by omega
          obtain ⟨fam, hfam⟩ : ∃ fam, fam = (if T < V then [2 ^ T] else l.getD (T - V) []) := ⟨_, rfl⟩
          rw [← hfam] at HF
          have HFAM := Lib.hid hfam
          have HL := Lib.hid hl
          have HS := Lib.hid hs
          have hn100 : n ≤ 100 := by omega
          clear hfc hck hok hbad hev hfam hl hs
          go_wp2_with fail
          refine (HF.out _ (Kept.refl _)).mono ?_
          rintro e w4 ⟨⟨v4, rfl, ho4⟩, hk4⟩
          have K4 := Lib.hid (K3.out.trans hk4)
          have HK34 := Lib.hid hk4
          clear c0 c1 c2 hk4
          obtain ⟨c0, c1, c2⟩ := fm_cells K4.out
          have O4 := Lib.hid ho4
          obtain ⟨la, ln, lc, rfl⟩ := ho4.1.ints.shape
          clear ho4
          go_wp2_with fail
          have HMV : Hid (∀ (a' : Nat) W, a' ≤ 1000 → Calls Try.prog 28 #[.agg #[.int .i64 V, .slice a n c, .int .i64 T], .int .i64 ev, .int .i64 a'] W fun e w' => e = .returned (.int .i64 (mvA V ev a')) ∧ ∃ C, w' = W.alloc C) := Lib.hid fun a' W h => moved_ex V ev _ T a' W h ⟨_, _, _, rfl⟩
          have hT9 : T ≤ 1000 := by have := HOK.out.tlt; simp only at this; omega
          clear c0 c1 c2
          go_loopw [67] (fun i wr => ∃ k : Nat, k ≤ 2 ∧ i = .int .i64 k ∧ Kept w4 wr) (fun i _ => 2 - (intOf i).toNat)
          case atStart => exact ⟨0, by omega, rfl, Kept.refl _⟩
          case round =>
            obtain ⟨k, hk, rfl, hKr⟩ := hrel
            have HKr := Lib.hid hKr
            have K5 := Lib.hid (K4.out.trans hKr)
            obtain ⟨c0, c1, c2⟩ := fm_cells K5.out
            have hlw : w.heap.size < wr.heap.size := by have := K5.out.size; simp at this; omega
            clear hKr
            by_cases hk2 : k < 2
            · obtain ⟨wq, rfl⟩ : ∃ wq : World, wq = wr := ⟨_, rfl⟩
              go_upto_region 10 with fail
              go_cut [9] (fun p wx => ∃ gx gn : Nat, p = .pointer (some ⟨gx, 0, none⟩) ∧ Hid (Made wq wx V k (mvA V ev T) gx gn))
              case first =>
                have n0 := World.new_ne wq ⟨w.heap.size, 0, none⟩ c0
                have n1 := World.new_ne wq ⟨w.heap.size, 1, none⟩ c1
                have n2 := World.new_ne wq ⟨w.heap.size, 2, none⟩ c2
                have hS3 : ∀ C1 C2 C3, (((wq.alloc C1).alloc C2).alloc C3).drew.cell? ⟨w.heap.size, 0, none⟩ = some (.int .i64 V) ∧ (((wq.alloc C1).alloc C2).alloc C3).drew.cell? ⟨w.heap.size, 1, none⟩ = some (.slice a n c) ∧ (((wq.alloc C1).alloc C2).alloc C3).drew.cell? ⟨w.heap.size, 2, none⟩ = some (.int .i64 T) := fun C1 C2 C3 =>
                  have k : Kept wq (((wq.alloc C1).alloc C2).alloc C3).drew := ((((Kept.refl _).alloc _).alloc _).alloc _).drew
                  ⟨k.cell c0, k.cell c1, k.cell c2⟩
                go_region_held3 (fun w' => w'.cell? ⟨w.heap.size, 0, none⟩ = some (.int .i64 V) ∧ w'.cell? ⟨w.heap.size, 1, none⟩ = some (.slice a n c) ∧ w'.cell? ⟨w.heap.size, 2, none⟩ = some (.int .i64 T)) (first | go_keep | exact hS3 _ _ _) (first | (go_at_call 28; refine (HMV.out T _ hT9).mono ?_; rintro e w6 ⟨rfl, C6, rfl⟩))
                all_goals (go_wp2_with fail)
                all_goals go_meet
                all_goals (first | exact ⟨_, _, rfl, Lib.hid (made1 wq V k (mvA V ev T) C6)⟩ | exact ⟨_, _, rfl, Lib.hid (made2 wq V k (mvA V ev T) C6)⟩ | exact ⟨_, _, rfl, Lib.hid (made3 wq V k (mvA V ev T) C6)⟩ | exact ⟨_, _, rfl, Lib.hid (made4 wq V k (mvA V ev T) C6)⟩ | exact ⟨_, _, rfl, Lib.hid (made5 wq V k (mvA V ev T) C6)⟩ | exact ⟨_, _, rfl, Lib.hid (made6 wq V k (mvA V ev T) C6)⟩)
              case rest =>
                obtain ⟨gx, gn, rfl, hm⟩ := hcut
                have hinv0 : NInv wq wc V ev k (mvA V ev T) nodes gx 0 (.slice (some ⟨gn, 0, none⟩) 1 1) := by
                  obtain ⟨h1, h2, h3, h4, h5⟩ := hm.out
                  exact ⟨h1, h2, h3, h4⟩
                have HI0 := Lib.hid hinv0
                have HKq := Lib.hid K5.out
                have kc : Kept wq wc := hinv0.kept
                have e0 := kc.cell c0
                have e1 := kc.cell c1
                have e2 := kc.cell c2
                clear hinv0 hm c0 c1 c2 kc
                go_wp2_with fail
                go_loopw [84] (fun i wr => ∃ (j : Nat) (ov : Value), j ≤ n ∧ i = .int .i64 j ∧ Hid (NInv wq wr V ev k (mvA V ev T) nodes gx j ov)) (fun i _ => n - (intOf i).toNat)
                case atStart => exact ⟨0, _, by omega, rfl, HI0⟩
                case round =>
                  obtain ⟨j, ov, hj, rfl, HI⟩ := hrel
                  obtain ⟨wo, rfl⟩ : ∃ wo : World, wo = wr := ⟨_, rfl⟩
                  by_cases hlt : j < n
                  · have hjx : j < nodes.length := by have := HNN.out; omega
                    obtain ⟨xa, xc, hxv, hxl, hxl2, hxn⟩ := HVK.out wq (HK34.out.trans HKr.out)
                    obtain ⟨b, o, hab, u, hc1, hc2, hc3, hIa⟩ := hxn j hjx
                    rw [hab] at hxv
                    injection hxv with h1 h2 h3
                    subst h1
                    have kA : Kept wq wo := HI.out.kept
                    have hrange := node_range (kA.cell hc1) (kA.cell hc2) (kA.cell hc3)
                    obtain ⟨ax, cx, rfl, _, hlx, hcx⟩ := hIa
                    have HRG := Lib.hid hrange
                    clear hab h2 h3 hxl hxl2 hxn hc1 hc2 hc3 hrange e0 e1 e2
                    go_wp2_with (with_reducible refine wpList_load_mid rfl 47 _ rfl b (o + j * 3) rfl _ _ HRG.out Try.underlying47 rfl (by kernel_rfl) ?_)
                    obtain ⟨kd, hkd⟩ : ∃ x, x = nodes[j].kind := ⟨_, rfl⟩
                    obtain ⟨kk, hkk⟩ : ∃ x, x = nodes[j].k := ⟨_, rfl⟩
                    have hargs := HOK.out.args j hjx
                    have h16 := argsOk_le (HOK.out.argc j hjx)
                    simp only at hargs h16
                    obtain ⟨args, hag⟩ : ∃ x, x = nodes[j].args := ⟨_, rfl⟩
                    rw [← hag] at hcx hargs hlx h16
                    rw [← hkd, ← hkk, ← hag]
                    obtain ⟨na, hna⟩ : ∃ x, x = args.length := ⟨_, rfl⟩
                    rw [← hna] at hlx h16 ⊢
                    have HKD := Lib.hid hkd
                    have HKK := Lib.hid hkk
                    have HAG := Lib.hid hag
                    have HCX := Lib.hid hcx
                    have HAR := Lib.hid hargs
                    have HNA := Lib.hid hna
                    have HKA := Lib.hid kA
                    obtain ⟨i0, hi0, hz0, hz1, hz2⟩ := info_parts info_int
                    have I0 := Lib.hid hi0
                    have I1 := Lib.hid hz0
                    have I2 := Lib.hid hz1
                    have I3 := Lib.hid hz2
                    clear hkd hkk hag hcx hargs hna kA hi0 hz0 hz1 hz2
                    go_loopw [96] (fun i wi => ∃ (p : Nat) (uv : Value), p ≤ na ∧ i = .int .i64 p ∧ OwnInts wi (wo.heap.size + 2) uv ((args.take p).map (mvA V ev)) ∧ RowAt wi (wo.heap.size + 1) 47 [.int .i64 kd, .int .i64 kk, uv] ∧ Kept wo wi ∧ wo.heap.size + 2 ≤ wi.heap.size) (fun i _ => na - (intOf i).toNat)
                    case atStart => exact ⟨0, .slice none 0 0, Nat.zero_le _, rfl, OwnInts.nil _ _, by have := RowAt.made (wo.alloc (.cells #[.int .i64 kd, .int .i64 kk, .slice ax na cx] 47)) #[.int .i64 kd, .int .i64 kk, .slice none 0 0] 47; simpa using this, ((Kept.refl _).alloc _).alloc _, by simp⟩
                    case round =>
                      obtain ⟨p, uv, hp, rfl, hown, hrow, hK, hsz⟩ := hrel
                      by_cases hpn : p < na
                      · have hpx : p < args.length := by have := HNA.out; omega
                        obtain ⟨b2, o2, rfl, hc0⟩ := HCX.out p hpx
                        have hcell := (HKA.out.trans hK).cell hc0
                        have hy2 := HAR.out args[p] (List.getElem_mem _)
                        obtain ⟨y, hy⟩ : ∃ y, y = args[p] := ⟨_, rfl⟩
                        rw [← hy] at hcell hy2
                        obtain ⟨Y, hY⟩ := Int.eq_ofNat_of_zero_le hy2.1
                        subst hY
                        have hY9 : Y ≤ 1000 := by omega
                        obtain ⟨z, hz⟩ : ∃ z, z = mvA V ev Y := ⟨_, rfl⟩
                        have HZ := Lib.hid (fun W => HMV.out Y W hY9)
                        rw [← hz] at HZ
                        obtain ⟨ys, hys⟩ : ∃ ys, ys = (args.take p).map (mvA V ev) := ⟨_, rfl⟩
                        have hys2 : ys ++ [z] = (args.take (p + 1)).map (mvA V ev) := by
                          rw [hys, hz, hy, List.take_succ_eq_append_getElem hpx, List.map_append]; rfl
                        have hyl : ys.length ≤ p := by rw [hys]; simp; omega
                        rw [← hys] at hown
                        have HYS2 := Lib.hid hys2
                        have K6 := Lib.hid (K5.out.trans (HKA.out.trans hK))
                        obtain ⟨c0, c1, c2⟩ := fm_cells K6.out
                        have cB := hrow.cell (i := 2) (by simp)
                        have fB := hrow.free 2
                        simp only [List.getElem_cons_succ, List.getElem_cons_zero] at cB
                        have hszi : wo.heap.size + 1 < wr.heap.size := by omega
                        have cB1 : ∀ C, (wr.alloc C).drew.cell? ⟨wo.heap.size + 1, 2, none⟩ = some uv := fun C => (((Kept.refl wr).alloc C).drew).cell cB
                        have cB2 : ∀ C O, ((wr.alloc C).alloc O).drew.cell? ⟨wo.heap.size + 1, 2, none⟩ = some uv := fun C O => ((((Kept.refl wr).alloc C).alloc O).drew).cell cB
                        have hszw : w.heap.size < wr.heap.size := by have := HKA.out.size; omega
                        have HOWN := Lib.hid hown
                        have HROW := Lib.hid hrow
                        have HK := Lib.hid hK
                        have hfar : some (wo.heap.size + 1) ≠ uv.ownBlock := by
                          intro e
                          have := (hown.1.lt _ e.symm).1
                          omega
                        have HFAR := Lib.hid hfar
                        clear hc0 hy hz hy2 hys hys2 hown hrow hK hfar
                        go_wp2
                        go_region_law (first
                          | (rw [if_pos (by rfl)]; go_simp; go_at_call 28; refine (HZ.out _).mono ?_; rintro e w6 ⟨rfl, C6, rfl⟩)
                          | (refine step_append_lies _ (by rfl) _ _ _ (by rfl) (wo.heap.size + 2) 3 i0 _ 1 8 Try.underlying27 I0.out I1.out I2.out I3.out rfl (by omega) uv ys.length _ (by rfl) (((HOWN.out.1.alloc _).alloc _).drew) ⟨wr.heap.size + 1, 0, none⟩ 1 1 [.int .i64 z] (by rfl) (by rfl) (World.news_of_block (cs := #[.int .i64 z]) (t := 3) (fr := (0, 0)) (heap_new2 wr C6 _)) (by simp [Value.oneCell']) (by omega) (by unfold maxLen; omega) (by omega) (by simp; omega) (wr.heap.size + 1 + 1) (by simp) ?_; intro gg cap w5 hown5 hgrow hat hlt5; have st5 := hgrow.cell (a := ⟨wo.heap.size + 1, 2, none⟩) (v := uv) ((((Kept.refl wr).alloc _).alloc _).cell cB) HFAR.out; have sf5 := (World.frozen?_of_block (a := ⟨wo.heap.size + 1, 2, none⟩) (hgrow.block (wo.heap.size + 1) (by simp; omega) HFAR.out)).trans ((Below.frozen (((Kept.refl wr).alloc _).alloc _) (p := ⟨wo.heap.size + 1, 2, none⟩) (by simp; omega)).trans fB)))
                        all_goals go_wp2
                        all_goals
                          have R := arg_step (o := .cells #[.int .i64 z] 3) (HOWN.out.kept ((Kept.refl _).alloc C6)) (HROW.out.kept ((Kept.refl _).alloc C6)) (HK.out.alloc C6) (by simp; omega) (by omega) hown5 ⟨hgrow.os, hgrow.tape, hgrow.output, hgrow.size, hgrow.block⟩
                          go_roundw
                          case rel => exact ⟨p + 1, _, by omega, by go_num, by rw [← HYS2.out]; exact R.1, R.2.1, R.2.2.1, R.2.2.2⟩
                          case measure => simp [intOf]; omega
                      · have hpe : p = na := by omega
                        have hfull : args.take p = args := List.take_of_length_le (by have := HNA.out; omega)
                        rw [hfull] at hown
                        obtain ⟨oa, oc, hov⟩ := HI.out.own.slice
                        obtain ⟨xs, hxs⟩ : ∃ xs, xs = (⟨0, k, []⟩ :: (nodes.take j).map (mvN V ev) : List Nd) := ⟨_, rfl⟩
                        have hxl : xs.length = j + 1 := by rw [hxs]; simp; omega
                        have hoK := HI.out.own.kept hK
                        have hrx := HI.out.row.kept hK
                        have hap := own_apart hoK hrx
                        rw [← hxs] at hoK hov
                        obtain ⟨on, hon⟩ : ∃ on, on = xs.length := ⟨_, rfl⟩
                        rw [← hon] at hov
                        have c5 := hrx.cell (i := 1) (by simp)
                        have f5 := hrx.free 1
                        simp only [List.getElem_cons_succ, List.getElem_cons_zero] at c5
                        obtain ⟨ua, un, uc, huv⟩ := hown.ints.shape
                        subst huv hov
                        have hrng : wr.rangeAt (wo.heap.size + 1) 0 [.int .i64 kd, .int .i64 kk, .slice ua un uc] := by
                          intro j v hj
                          match j, hj with
                          | 0, hj => simp at hj; subst hj; exact hrow.cell (i := 0) (by simp)
                          | 1, hj => simp at hj; subst hj; exact hrow.cell (i := 1) (by simp)
                          | 2, hj => simp at hj; subst hj; exact hrow.cell (i := 2) (by simp)
                        have HRNG := Lib.hid hrng
                        have HOK2 := Lib.hid hoK
                        have HU := Lib.hid hown
                        have HAP := Lib.hid hap
                        have HRX := Lib.hid hrx
                        have HK := Lib.hid hK
                        have HXL := Lib.hid hxl
                        have HXS := Lib.hid hxs
                        have hgx : gx < wr.heap.size := hrx.lt
                        have hqr : wq.heap.size ≤ wr.heap.size := by have := HKA.out.size; omega
                        clear hrng hoK hown hap hrx hK hxl hxs hon hrow hfull hpe
                        go_wp2_with (first
                          | (with_reducible refine wpList_load_mid rfl 47 _ rfl (wo.heap.size + 1) 0 rfl _ _ HRNG.out Try.underlying47 rfl (by kernel_rfl) ?_)
                          | (at_builtin; refine app_node rfl _ _ rfl wq.heap.size _ xs rfl (HOK2.out.kept ((Kept.refl _).alloc _)) _ ⟨kd, kk, args.map (mvA V ev)⟩ (.slice ua un uc) rfl (range_made _ _ _ _ _) ((OwnInts.kept HU.out ((Kept.refl _).alloc _)).zero) (by have := HXL.out; omega) (by simp; omega) ?_; intro nv w6 hown6 hg6 hb6; obtain ⟨xa6, xc6, rfl⟩ := hown6.slice; have HOWN6 := Lib.hid hown6; clear hown6; have st5 := hg6.cell (a := ⟨gx, 1, none⟩) (v := .slice oa on oc) (((Kept.refl _).alloc _).cell c5) HAP.out; have sf5 := (World.frozen?_of_block (a := ⟨gx, 1, none⟩) (hg6.block gx (by simp; omega) HAP.out)).trans (((Kept.refl _).alloc _).free (p := ⟨gx, 1, none⟩) (by omega) f5)))
                        have hE : xs ++ [(⟨kd, kk, args.map (mvA V ev)⟩ : Nd)] = ⟨0, k, []⟩ :: (nodes.take (j + 1)).map (mvN V ev) := by
                          rw [HXS.out, List.take_succ_eq_append_getElem hjx, List.map_append, HKD.out, HKK.out, HAG.out]; rfl
                        have hb6x : w6.heap[gx]? = wr.heap[gx]? := (hg6.block gx (by simp; omega) HAP.out).trans (Below.heap_alloc wr _ gx (by omega))
                        have hr6 := HRX.out.same hb6x
                        have hl6 : (xs ++ [(⟨kd, kk, args.map (mvA V ev)⟩ : Nd)]).length = xs.length + 1 := by simp
                        have ho5 := HOWN6.out
                        rw [hl6, hE] at ho5
                        have ho6 := ho5.store hr6 1 (.slice xa6 (xs.length + 1) xc6)
                        have hrs := hr6.store 1 (.slice xa6 (xs.length + 1) xc6)
                        have kk6 : Kept wq w6 := ((HKA.out.trans HK.out).alloc _).app hb6
                        have hni : NInv wq _ V ev k (mvA V ev T) nodes gx (j + 1) _ := ⟨hrs, ho6, kk6.store HI.out.ge 1 _, HI.out.ge⟩
                        go_roundw
                        case rel => exact ⟨j + 1, _, by omega, by go_num, Lib.hid hni⟩
                        case measure => simp [intOf]; omega
                  · have hje : j = n := by omega
                    have htake : nodes.take j = nodes := List.take_of_length_le (by have h : n = nodes.length := HNN.out; omega)
                    have hown := HI.out.own
                    rw [htake] at hown
                    have hrow := HI.out.row
                    have hkept := HI.out.kept
                    have hok' := mv_ok HOK.out ev k (by omega) (by show nodes.length ≤ 100; have h : n = nodes.length := HNN.out; omega)
                    have hck' := mv_chk HOK.out ev k (by omega) (by show nodes.length ≤ 100; have h : n = nodes.length := HNN.out; omega)
                    have hsy' := mv_syn HOK.out HS.out ev k hevV
                    have hct := cuts_syn ov (mvF V ev k ⟨V, nodes, T⟩ T) V (mvA V ev T).toNat hok' hck' hsy' (by obtain ⟨a, c, h⟩ := hown.slice; exact ⟨a, _, c, h⟩)
                    have htt : (((mvA V ev T).toNat : Nat) : Int) = mvA V ev T := by
                      have := (mvA_range (V := V) (e := ev) (j := 1000) (a := (T : Int)) (by omega)).1
                      omega
                    rw [htt] at hct
                    have hat : NodesAt wo ov (mvF V ev k ⟨V, nodes, T⟩ T).nodes := hown.at
                    have c3 := hrow.cell (i := 0) (by simp)
                    have c4 := hrow.cell (i := 1) (by simp)
                    have c5 := hrow.cell (i := 2) (by simp)
                    simp only [List.getElem_cons_succ, List.getElem_cons_zero] at c3 c4 c5
                    obtain ⟨oa, oc, hov⟩ := hown.slice
                    obtain ⟨on, hon⟩ : ∃ on, on = ((⟨0, k, []⟩ : Nd) :: nodes.map (mvN V ev)).length := ⟨_, rfl⟩
                    rw [← hon] at hov
                    subst hov
                    have K6 := Lib.hid (K5.out.trans hkept)
                    have HKW := Lib.hid hkept
                    obtain ⟨y, hy⟩ : ∃ y, y = mvA V ev T := ⟨_, rfl⟩
                    rw [← hy] at hct c5
                    have HY := Lib.hid hy
                    clear hon hje htake hown hrow hkept htt hy
                    obtain ⟨c0, c1, c2⟩ := fm_cells K6.out
                    rcases hct with herr | ⟨l', hl', hgood⟩
                    · obtain ⟨q, hq⟩ : ∃ q, q = 4 := ⟨_, rfl⟩
                      have HE := Lib.hid (fun W hW => herr W (hat.kept hW))
                      have HI4 : Hid (∀ W, Calls Try.prog 27 #[errV q, .int .i64 4] W fun e w' => e = .returned (.bool true) ∧ W = w') := Lib.hid fun W => by
                        have := is_any q 4 (by omega) W
                        rw [show (q == 4) = true by simp [hq]] at this
                        exact this
                      rw [← hq] at HE
                      have hqe : errV q = .iface 45 (.int .i64 q) := errV_pos (by omega)
                      rw [hqe] at HE HI4
                      clear hq hqe herr hok' hck' hsy' hat
                      go_wp2_with fail
                      refine (HE.out _ (Kept.refl _)).mono ?_
                      rintro e w8 ⟨rfl, hk8⟩
                      go_wp2_with (go_at_call 27; (with_reducible refine (HI4.out _).mono ?_); rintro e w9 ⟨rfl, rfl⟩)
                      go_ret
                      exact ⟨rfl, (((Kept.refl _).alloc _).trans K6.out).trans hk8⟩
                    · obtain ⟨z, hz⟩ : ∃ z, z = 2 ^ ev := ⟨_, rfl⟩
                      have hzm : Mk z := by rw [hz]; exact lt_pow24 (show ev + 1 ≤ 24 by omega) (Nat.pow_lt_pow_right (by omega) (by omega))
                      have ew := shlW ev (by omega)
                      rw [← hz] at ew
                      have hcuts := mv_cuts HOK.out HS.out ev hevV (by show nodes.length ≤ 100; have h : n = nodes.length := HNN.out; omega) k (by omega) HL.out (l' := l') (by rw [← HY.out]; exact hl')
                      rw [← HY.out] at hcuts
                      obtain ⟨fam', hfam'⟩ : ∃ x, x = (if y.toNat < V then [2 ^ y.toNat] else l'.getD (y.toNat - V) []) := ⟨_, rfl⟩
                      have hwant : fam' = restrictK fam (if (k : Int) = 1 then z else 0) (if (k : Int) = 1 then 0 else z) := by
                        rw [hfam', hz, HFAM.out]; exact hcuts
                      rw [← hfam'] at hgood
                      have HE := Lib.hid (fun W hW => hgood W (hat.kept hW))
                      have hev0 : ¬ (ev : Int) < 0 := by omega
                      have HF1024 : Hid (fam.length ≤ 1024) := Lib.hid (by rw [HFAM.out]; exact (good_cuts HL.out).2)
                      have HR : Hid (∀ W fl wk, Kept w4 W → Mk fl → Mk wk → fl &&& wk = 0 → Calls Try.prog 29 #[.slice la ln lc, .int .i64 (fl : Nat), .int .i64 (wk : Nat)] W fun e w' => (∃ v', e = .returned (.tuple #[v', .nilIface]) ∧ IntsAt w' v' (ofN (restrictK fam fl wk))) ∧ Kept W w') := Lib.hid fun W fl wk hW h1 h2 h3 => restrict_any _ fam fl wk W (O4.out.kept hW).sets HF1024.out h1 h2 h3
                      have HWANT := Lib.hid hwant
                      have HZ := Lib.hid hzm
                      clear hz hcuts hfam' hwant hzm hgood hok' hck' hsy' hat hl'
                      go_wp2_with fail
                      refine (HE.out _ (Kept.refl _)).mono ?_
                      rintro e w8 ⟨⟨v8, rfl, hv8⟩, hk8⟩
                      obtain ⟨fa, fn, fc, rfl⟩ := hv8.1.ints.shape
                      have HV8 := Lib.hid hv8
                      have HK8 := Lib.hid ((HKr.out.trans HKW.out).trans hk8)
                      have K8 := Lib.hid (K6.out.trans hk8)
                      clear c0 c1 c2 c3 c4 c5 hv8 hk8
                      obtain ⟨c0, c1, c2⟩ := fm_cells K8.out
                      have hk01 : k = 0 ∨ k = 1 := by omega
                      rcases hk01 with hk0 | hk1
                      · subst hk0
                        have HW : Hid (fam' = restrictK fam 0 z) := HWANT
                        have HR2 : Hid (∀ W, Kept w4 W → Calls Try.prog 29 #[.slice la ln lc, .int .i64 0, .int .i64 z] W fun e w' => (∃ v', e = .returned (.tuple #[v', .nilIface]) ∧ IntsAt w' v' (ofN fam')) ∧ Kept W w') := Lib.hid fun W hW => by
                          have := HR.out W 0 z hW (by unfold Mk; omega) HZ.out (by simp)
                          rw [← HW.out] at this
                          exact this
                        clear HR HWANT HW
                        go_wp2
                        go_quiet (fail)
                        go_wp2_with fail
                        refine (HR2.out _ (HK8.out.drewN nq)).mono ?_
                        rintro e w9 ⟨⟨v9, rfl, hv9⟩, hk9⟩
                        obtain ⟨ga, gn', gc, rfl⟩ := hv9.shape
                        have hk89 : Kept w8 w9 := ((Kept.refl _).drewN nq).trans hk9
                        have HIN : Hid (Calls Try.prog 22 #[.slice fa fn fc, .slice ga gn' gc] w9 fun e w' => e = .returned (.bool true) ∧ Kept w9 w') := Lib.hid (ints_true _ _ _ (HV8.out.1.ints.kept hk89) hv9)
                        have HK9 := Lib.hid (HK8.out.trans hk89)
                        clear hv9 hk9 hk89 c0 c1 c2
                        go_wp2_with fail
                        refine HIN.out.mono ?_
                        rintro e w10 ⟨rfl, hk10⟩
                        go_wp2
                        go_roundw
                        case rel => exact ⟨1, by omega, by go_num, HK9.out.trans hk10⟩
                        case measure => simp [intOf]
                      · subst hk1
                        have HW : Hid (fam' = restrictK fam z 0) := HWANT
                        have HR2 : Hid (∀ W, Kept w4 W → Calls Try.prog 29 #[.slice la ln lc, .int .i64 z, .int .i64 0] W fun e w' => (∃ v', e = .returned (.tuple #[v', .nilIface]) ∧ IntsAt w' v' (ofN fam')) ∧ Kept W w') := Lib.hid fun W hW => by
                          have := HR.out W z 0 hW HZ.out (by unfold Mk; omega) (by simp)
                          rw [← HW.out] at this
                          exact this
                        clear HR HWANT HW
                        go_wp2_with fail
                        refine (HR2.out _ HK8.out).mono ?_
                        rintro e w9 ⟨⟨v9, rfl, hv9⟩, hk9⟩
                        obtain ⟨ga, gn', gc, rfl⟩ := hv9.shape
                        have HIN : Hid (Calls Try.prog 22 #[.slice fa fn fc, .slice ga gn' gc] w9 fun e w' => e = .returned (.bool true) ∧ Kept w9 w') := Lib.hid (ints_true _ _ _ (HV8.out.1.ints.kept hk9) hv9)
                        have HK9 := Lib.hid (HK8.out.trans hk9)
                        clear hv9 hk9 c0 c1 c2
                        go_wp2_with fail
                        refine HIN.out.mono ?_
                        rintro e w10 ⟨rfl, hk10⟩
                        go_wp2
                        go_roundw
                        case rel => exact ⟨2, by omega, by go_num, HK9.out.trans hk10⟩
                        case measure => simp [intOf]
            · have hke : k = 2 := by omega
              subst hke
              go_wp2
              go_ret
              exact ⟨rfl, ((Kept.refl _).alloc _).trans K5.out⟩
    · have hqe : errV q = .iface 45 (.int .i64 q) := errV_pos hq0
      rw [hqe]
      clear hqe
      go_wp2_with (go_at_call 16; refine (HA.out _).mono ?_; rintro e w4 ⟨rfl, hk4⟩)
      go_ret
      exact ⟨rfl, (((Kept.refl _).alloc _).trans K3.out).trans hk4⟩
set_option maxRecDepth 100000 in
theorem bottomupMore_lifted (os : Os) (started : os.Started) (H : Type) (enc : TypeId × Value → H) :
    ReturnsInHanded {} Try.checked os 6 .any (Rows.bottomupMoreSpec.pre6 enc Try.prog Try.f6 Rows.bottomupMoreRow.domain false) (Rows.bottomupMoreSpec.post enc Try.prog Try.f6 false true false false) := by
  refine returnsInHanded_of_change_sized (C := Try.checked) ownK started (by kernel_rfl) Try.func6
    (ChangeSpec.witness6 (enc := enc) (C := Try.checked) false ⟨#[], #[.agg #[.int .i64 0, .slice none 0 0, .int .i64 0], .int .u8 0], []⟩ 8 (by kernel_rfl) (by kernel_rfl) (by kernel_rfl) (by kernel_rfl)) ?_
  intro W base args ds gs before hval hW _ hsz _
  exact lift2 6 Try.f6 5 .u8 Try.underlying5 (by kernel_rfl) (of_decide_eq_true (by kernel_rfl)) rfl (fun _ _ _ => rfl) Try.params6 (by kernel_rfl) more_true W base args ds gs before hval hW hsz
theorem bottomupMore_holds : Rows.BottomupMoreSaid :=
  OpenClaim.holds_of_wide 6 Try.f6 rfl rfl rfl rfl rfl rfl rfl ⟨rfl, rfl, rfl, rfl, rfl⟩ rfl rfl rfl rfl rfl (by kernel_rfl) Try.func6 (by kernel_rfl)
    (of_decide_eq_true (by kernel_rfl)) (by unfold Func.isWrapper; first | (rw [if_pos (by decide +kernel)]; kernel_rfl) | (rw [if_neg (by decide +kernel)]; exact ⟨rfl, rfl⟩))
    (fun os started H enc _ => bottomupMore_lifted os started H enc)
end Go.Proofs.Ytcgfjacidjebaaa
