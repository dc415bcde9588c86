/-
  Walks: formula.check, Value, Values; slices.Clone at []bool.
-/
import Derived.Test.YtcgfjacidjebaaaS1
import Derived.Deep.RegionHeld3
import Derived.Deep.DeepCutAuto
namespace Go.Proofs.Ytcgfjacidjebaaa
open Go.RowKit

theorem shlW (V : Nat) (h : V ≤ 24) : wrap64 ((2 : Int) ^ V) = ((2 ^ V : Nat) : Int) := by
  have h1 : (2 : Nat) ^ V ≤ 2 ^ 24 := Nat.pow_le_pow_right (by omega) h
  rw [show (2 : Int) ^ V = ((2 ^ V : Nat) : Int) by simp]
  generalize (2 : Nat) ^ V = z at h1 ⊢
  unfold wrap64; omega
theorem lt_pow24 {V s : Nat} (h : V ≤ 24) (hs : s < 2 ^ V) : s < 16777216 := Nat.lt_of_lt_of_le hs (Nat.pow_le_pow_right (by omega) h : 2 ^ V ≤ 2 ^ 24)
/-- Bools that can be read. -/
def BoolsAt (w : World) (v : Value) (bs : List Bool) : Prop :=
  ∃ (a : Option Addr) (c : Nat), v = .slice a bs.length c ∧ bs.length ≤ c ∧ bs.length ≤ 1000000 ∧ ∀ i (_ : i < bs.length), ∃ b o, a = some ⟨b, o, none⟩ ∧ w.cell? ⟨b, o + i, none⟩ = some (.bool (bs.getD i false))
theorem BoolsAt.kept {w w' : World} {v : Value} {bs : List Bool} (h : BoolsAt w v bs) (hk : Kept w w') : BoolsAt w' v bs := by
  obtain ⟨a, c, h1, h2, h3, h4⟩ := h
  exact ⟨a, c, h1, h2, h3, fun i hi => let ⟨b, o, h5, h6⟩ := h4 i hi; ⟨b, o, h5, hk.cell h6⟩⟩
theorem OwnBools.at {w : World} {B : Nat} {v : Value} {bs : List Bool} (h : OwnBools w B v bs) : BoolsAt w v bs := by
  obtain ⟨a, c, rfl, hc⟩ := h.slice
  refine ⟨a, c, rfl, hc, h.2, fun i hi => ?_⟩
  obtain ⟨g, cap, hge, _⟩ := h.shape (by intro e; rw [e] at hi; simp at hi)
  injection hge with h1 h2 h3
  subst h1 h3
  exact ⟨g, 0, rfl, by simpa using h.cell i hi⟩
theorem own_emptyB (w : World) (B : Nat) (hB : B ≤ w.heap.size) : OwnBools (w.alloc (.cells #[] 4)) B (.slice (some ⟨w.heap.size, 0, none⟩) 0 0) [] :=
  ⟨⟨by simp, .inr ⟨w.heap.size, 0, #[], rfl, hB, heap_alloc_new w _, Nat.le_refl _, by unfold maxLen; omega, by simp, by simp⟩⟩, by simp⟩
/-- append of a whole slice of bools. -/
theorem app_bools {ops : Array Oper} {rest : List Oper} {o : Oper} {a : Act} {Q : Exit → Act → World → Prop} {w : World} (hgd : o.guard = none) (s x : Operand)
    (ho : o.op = .call { callee := .builtin .append, args := #[s, x], argTypes := #[54, 54] }) (B : Nat) (v : Value) (xs : List Bool) (hs : a.eval s = v) (hown : OwnBools w B v xs)
    (ad : Addr) (c : Nat) (ys : List Bool) (hx : a.eval x = .slice (some ad) ys.length c) (hu : BoolsAt w (.slice (some ad) ys.length c) ys) (hl : xs.length + ys.length ≤ 1000000) (hB : B ≤ w.heap.size)
    (h : ∀ v' w', OwnBools w' B v' (xs ++ ys) → Below B w w' → wpList Try.prog ops Q rest (a.put o.dst v') w') : wpList Try.prog ops Q (o :: rest) a w := by
  obtain ⟨i0, hi0, hz0, hz1, hz2⟩ := info_parts info_bool
  obtain ⟨a', c', h1, h2, h3, h4⟩ := hu
  cases h1
  refine wpList_append_own _ hgd s x 54 ho B 4 i0 _ 1 1 Try.underlying54 hi0 hz0 hz1 hz2 rfl (by decide) v xs.length _ hs hown.1 ad ys.length c (ys.map .bool) hx (by simp) ?_ ?_ (by simp [maxLen]; omega) (by omega) hB ?_
  · intro j u hj
    have hj' : j < ys.length := by
      rcases Nat.lt_or_ge j ys.length with h | h
      · exact h
      · rw [List.getElem?_eq_none (by simpa using h)] at hj; cases hj
    obtain ⟨b, o, h5, h6⟩ := h4 j hj'
    cases h5
    simp [hj'] at hj
    subst hj
    rw [show ({ block := b, off := o } : Addr).add j = ⟨b, o + j, none⟩ by unfold Addr.add; split <;> simp_all, h6]
    simp [List.getD_eq_getElem?_getD, hj']
  · intro u hu; obtain ⟨y, _, rfl⟩ := List.mem_map.1 hu; rfl
  · intro v' w' h5 h6 _
    exact h v' w' ⟨by simpa using h5, by simp; omega⟩ (grown_below h6 hown.1 hB)
set_option maxRecDepth 100000 in
theorem cloneB_any (a : Option Addr) (ha : a.isNone = false) (c : Nat) (bs : List Bool) (n : Nat) (hn : n = bs.length) (w : World) (hv : BoolsAt w (.slice a n c) bs) :
    Calls Try.prog 70 #[.slice a n c] w fun e w' => (∃ v', e = .returned v' ∧ BoolsAt w' v' bs) ∧ Kept w w' := by
  subst hn
  obtain ⟨ad, rfl⟩ : ∃ ad, a = some ad := by
    cases a with
    | none => cases ha
    | some ad => exact ⟨ad, rfl⟩
  clear ha
  have hl : bs.length ≤ 1000000 := by obtain ⟨_, _, _, _, h, _⟩ := hv; exact h
  have HV := Lib.hid hv
  clear hv
  have hnl : ∀ w : World, (binOp .eql 54 (.slice (some ad) bs.length c) (.slice none 0 0)).run Try.prog w = .ok (.bool false) w := fun w => Lib.run_eql_slice_nil w 54 4 (some ad) bs.length c 0 0 Try.underlying54
  go_enter Try.func70, Try.ntmps70
  go_wp2_with (at_builtin; refine app_bools rfl _ _ rfl w.heap.size _ [] rfl (own_emptyB w _ (Nat.le_refl _)) ad c bs rfl (HV.out.kept ((Kept.refl _).alloc _)) (by simp; omega) (by simp) ?_; intro v7 w7 hown7 hb7; have O7 := Lib.hid hown7; have HB7 := Lib.hid hb7; clear hown7 hb7)
  go_ret
  exact ⟨⟨_, rfl, O7.out.at⟩, ((Kept.refl _).alloc _).app HB7.out⟩
set_option maxRecDepth 100000 in
theorem fmcheck_ok (v : Value) (f : Fm) (V T s : Nat) (w : World) (hv : NodesAt w v f.nodes) (hok : Ok f V T) (hck : chkF f = 0) (hs : s < 2 ^ V) :
    Calls Try.prog 69 #[.agg #[.int .i64 V, v, .int .i64 T], .int .i64 s] w fun e w' => e = .returned .nilIface ∧ Kept w w' := by
  have hT := hok.tlt
  have hn := hok.n128
  have hV := hok.v24
  have hfm : fmV v f = .agg #[.int .i64 V, v, .int .i64 T] := by unfold fmV; rw [hok.vars, hok.top]
  have H : Hid (∀ W, Kept w W → Calls Try.prog 26 #[.agg #[.int .i64 V, v, .int .i64 T]] W fun e w' => e = .returned .nilIface ∧ Kept W w') := Lib.hid fun W hk => by
    have := check_any v f W (hv.kept hk) (by rw [hok.top]; omega)
    rw [hck, hfm] at this
    exact this
  obtain ⟨a, c, rfl, _⟩ := hv
  have e1 := shlW V hV
  have e2 : ¬ ((2 ^ V : Nat) : Int) ≤ (s : Int) := by omega
  have e3 : (s : Int) < ((2 ^ V : Nat) : Int) := by omega
  obtain ⟨z, hz⟩ : ∃ z, z = 2 ^ V := ⟨_, rfl⟩
  rw [← hz] at e1 e2 e3
  have b1 : decide ((s : Int) < 0) = false := by simp
  have b2 : decide ((z : Int) ≤ (s : Int)) = false := by simpa using e2
  clear hs hok hck hfm hz hT hn
  go_enter Try.func69, Try.ntmps69
  go_wp2_with fail
  refine (H.out _ ((Kept.refl _).alloc _)).mono ?_
  rintro e w1 ⟨rfl, hk1⟩
  have c0 := hk1.cell (p := ⟨w.heap.size, 0, none⟩) (v := .int .i64 V) (by simp)
  go_wp2
  go_ret
  exact ⟨rfl, ((Kept.refl _).alloc _).trans hk1⟩
set_option maxRecDepth 100000 in
set_option maxHeartbeats 2000000 in
theorem value_any (v : Value) (f : Fm) (V T s : Nat) (w : World) (hv : NodesAt w v f.nodes) (hok : Ok f V T) (hck : chkF f = 0) (hs : s < 2 ^ V) :
    Calls Try.prog 40 #[.agg #[.int .i64 V, v, .int .i64 T], .int .i64 s] w fun e w' => e = .returned (.tuple #[.bool ((valsK V s f.nodes).getD T false), .nilIface]) ∧ Kept w w' := by
  have HC : Hid (∀ W, Kept w W → Calls Try.prog 69 #[.agg #[.int .i64 V, v, .int .i64 T], .int .i64 s] W fun e w' => e = .returned .nilIface ∧ Kept W w') := Lib.hid fun W hk => fmcheck_ok v f V T s W (hv.kept hk) hok hck hs
  have HV : Hid (∀ W, Kept w W → Calls Try.prog 71 #[.agg #[.int .i64 V, v, .int .i64 T], .int .i64 s] W fun e w' => (∃ v', e = .returned v' ∧ OwnBools w' W.heap.size v' (valsK V s f.nodes)) ∧ Kept W w') := Lib.hid fun W hk => (values_any v f V T s W (hv.kept hk) hok (lt_pow24 hok.v24 hs)).mono fun _ _ ⟨⟨v', h1, h2, _⟩, h3⟩ => ⟨⟨v', h1, h2⟩, h3⟩
  have hT := hok.tlt
  have hn := hok.n128
  have hV := hok.v24
  have hlen : (valsK V s f.nodes).length = V + f.nodes.length := len_valsUp V s f.nodes f.nodes.length
  obtain ⟨vals, hvals⟩ : ∃ x, x = valsK V s f.nodes := ⟨_, rfl⟩
  rw [← hvals] at HV hlen ⊢
  have HL := Lib.hid hlen
  obtain ⟨a, c, rfl, _⟩ := hv
  obtain ⟨n, hnn⟩ : ∃ n, n = f.nodes.length := ⟨_, rfl⟩
  rw [← hnn] at HL hT hn HC HV ⊢
  have hT1 : (T : Int) < ((V + n : Nat) : Int) := by omega
  have hT2 : (T : Int) < (V : Int) + (n : Int) := by omega
  clear hs hok hck hvals hlen hnn
  go_enter Try.func40, Try.ntmps40
  go_wp2_with fail
  refine (HC.out _ ((Kept.refl _).alloc _)).mono ?_
  rintro e w1 ⟨rfl, hk1⟩
  have K1 := Lib.hid hk1
  have c0 := hk1.cell (p := ⟨w.heap.size, 0, none⟩) (v := .int .i64 V) (by simp)
  have c1 := hk1.cell (p := ⟨w.heap.size, 1, none⟩) (v := .slice a n c) (by simp)
  have c2 := hk1.cell (p := ⟨w.heap.size, 2, none⟩) (v := .int .i64 T) (by simp)
  clear hk1
  go_wp2_with fail
  go_region_with (go_at_call 71; refine (HV.out _ ((((Kept.refl _).alloc _).trans K1.out).trans (Kept.refl _).drew)).mono ?_; rintro e w5 ⟨⟨v5, rfl, hv5⟩, hk5⟩; obtain ⟨g5, c5, rfl, _, _, _⟩ := hv5.shape (by intro e; have := HL.out; rw [e] at this; simp at this; omega); have hc5 := hv5.cell T (by have := HL.out; omega); rw [HL.out]; have d0 := hk5.cell c0; have d1 := hk5.cell c1; have d2 := hk5.cell c2)
  all_goals (go_wp2_with fail)
  all_goals go_ret2
  all_goals exact ⟨rfl, (((Kept.refl _).alloc _).trans K1.out).trans ((Kept.refl _).drew.trans hk5)⟩
/-- v[k:], k below the capacity. -/
theorem OwnBools.drop {w : World} {B g m cap : Nat} {bs : List Bool} (h : OwnBools w B (.slice (some ⟨g, 0, none⟩) m cap) bs) (k : Nat) (hk : k ≤ bs.length) : BoolsAt w (.slice (some ⟨g, k, none⟩) (bs.length - k) (cap - k)) (bs.drop k) := by
  obtain ⟨a', c', h1, h2⟩ := h.slice
  injection h1 with h3 h4 h5
  subst h4 h5
  refine ⟨some ⟨g, k, none⟩, cap - k, by simp, by simp; omega, by simp; have := h.2; omega, fun i hi => ?_⟩
  simp only [List.length_drop] at hi
  refine ⟨g, k, rfl, ?_⟩
  have := h.cell (k + i) (by omega)
  simpa [List.getD_eq_getElem?_getD] using this
set_option maxRecDepth 100000 in
set_option maxHeartbeats 2000000 in
theorem valuesN_any (v : Value) (f : Fm) (V T s : Nat) (w : World) (hv : NodesAt w v f.nodes) (hok : Ok f V T) (hck : chkF f = 0) (hs : s < 2 ^ V) :
    Calls Try.prog 36 #[.agg #[.int .i64 V, v, .int .i64 T], .int .i64 s] w fun e w' => (∃ v', e = .returned (.tuple #[v', .nilIface]) ∧ BoolsAt w' v' ((valsK V s f.nodes).drop V)) ∧ Kept w w' := by
  have HC : Hid (∀ W, Kept w W → Calls Try.prog 69 #[.agg #[.int .i64 V, v, .int .i64 T], .int .i64 s] W fun e w' => e = .returned .nilIface ∧ Kept W w') := Lib.hid fun W hk => fmcheck_ok v f V T s W (hv.kept hk) hok hck hs
  have HV : Hid (∀ W, Kept w W → Calls Try.prog 71 #[.agg #[.int .i64 V, v, .int .i64 T], .int .i64 s] W fun e w' => (∃ v', e = .returned v' ∧ OwnBools w' W.heap.size v' (valsK V s f.nodes) ∧ (f.nodes.length = 0 → ∃ g, v' = .slice (some ⟨g, 0, none⟩) V V)) ∧ Kept W w') := Lib.hid fun W hk => values_any v f V T s W (hv.kept hk) hok (lt_pow24 hok.v24 hs)
  have hT := hok.tlt
  have hn := hok.n128
  have hV := hok.v24
  have hlen : (valsK V s f.nodes).length = V + f.nodes.length := len_valsUp V s f.nodes f.nodes.length
  obtain ⟨vals, hvals⟩ : ∃ x, x = valsK V s f.nodes := ⟨_, rfl⟩
  rw [← hvals] at HV hlen ⊢
  have HL := Lib.hid hlen
  obtain ⟨a, c, rfl, _⟩ := hv
  obtain ⟨n, hnn⟩ : ∃ n, n = f.nodes.length := ⟨_, rfl⟩
  rw [← hnn] at HL hT hn HC HV ⊢
  clear hs hok hck hvals hlen hnn
  by_cases hn0 : n = 0
  · subst hn0
    have HD : Hid (∀ W g, BoolsAt W (.slice (some ⟨g, 0, none⟩) 0 0) (vals.drop V)) := Lib.hid fun W g => by
      have e : vals.drop V = [] := List.drop_of_length_le (by have := HL.out; omega)
      rw [e]
      exact ⟨_, 0, rfl, by simp, by simp, fun i hi => by simp at hi⟩
    have HDL : Hid (0 = (vals.drop V).length) := Lib.hid (by have := HL.out; simp; omega)
    have hVV : (V : Int) ≤ (V : Int) := by omega
    go_enter Try.func36, Try.ntmps36
    go_wp2_with fail
    refine (HC.out _ ((Kept.refl _).alloc _)).mono ?_
    rintro e w1 ⟨rfl, hk1⟩
    have K1 := Lib.hid hk1
    have c0 := hk1.cell (p := ⟨w.heap.size, 0, none⟩) (v := .int .i64 V) (by simp)
    have c1 := hk1.cell (p := ⟨w.heap.size, 1, none⟩) (v := .slice a 0 c) (by simp)
    have c2 := hk1.cell (p := ⟨w.heap.size, 2, none⟩) (v := .int .i64 T) (by simp)
    clear hk1
    go_wp2_with fail
    go_region_with (first
      | (go_at_call 71; refine (HV.out _ ((((Kept.refl _).alloc _).trans K1.out).trans (Kept.refl _).drew)).mono ?_; rintro e w5 ⟨⟨v5, rfl, hv5, hg5⟩, hk5⟩; obtain ⟨g5, rfl⟩ := hg5 (by simp); have d0 := hk5.cell c0; have d1 := hk5.cell c1; have d2 := hk5.cell c2; clear hg5)
      | (go_at_call 70; refine (cloneB_any _ rfl _ (vals.drop V) _ HDL.out _ (HD.out _ _)).mono ?_; rintro e w6 ⟨⟨v6, rfl, hv6⟩, hk6⟩))
    all_goals (go_wp2_with fail)
    all_goals go_ret2
    all_goals exact ⟨⟨_, rfl, hv6⟩, ((((Kept.refl _).alloc _).trans K1.out).trans ((Kept.refl _).drew.trans hk5)).trans hk6⟩
  · have hT1 : (V : Int) ≤ ((V + n : Nat) : Int) := by omega
    have hT2 : (V : Int) ≤ (V : Int) + (n : Int) := by omega
    have HDL : Hid (n = (vals.drop V).length) := Lib.hid (by have := HL.out; simp; omega)
    have HVn : Hid (∀ W, Kept w W → Calls Try.prog 71 #[.agg #[.int .i64 V, .slice a n c, .int .i64 T], .int .i64 s] W fun e w' => (∃ g cap, e = .returned (.slice (some ⟨g, 0, none⟩) (V + n) cap) ∧ (V + n ≤ cap ∧ ¬ cap = V) ∧ BoolsAt w' (.slice (some ⟨g, V, none⟩) n (cap - V)) (vals.drop V)) ∧ Kept W w') := Lib.hid fun W hk => by
      refine (HV.out W hk).mono ?_
      rintro e w' ⟨⟨v5, rfl, hv5, _⟩, hk5⟩
      obtain ⟨g5, c5, rfl, _, _, hcc5⟩ := hv5.shape (by intro e; have := HL.out; rw [e] at this; simp at this; omega)
      have hd := hv5.drop V (by have := HL.out; omega)
      have hl := HL.out
      rw [hl] at hcc5 hd ⊢
      rw [show V + n - V = n by omega] at hd
      exact ⟨⟨g5, c5, rfl, ⟨hcc5, by omega⟩, hd⟩, hk5⟩
    have HN0 := Lib.hid hn0
    clear hn0 HV
    go_enter Try.func36, Try.ntmps36
    go_wp2_with fail
    refine (HC.out _ ((Kept.refl _).alloc _)).mono ?_
    rintro e w1 ⟨rfl, hk1⟩
    have K1 := Lib.hid hk1
    have c0 := hk1.cell (p := ⟨w.heap.size, 0, none⟩) (v := .int .i64 V) (by simp)
    have c1 := hk1.cell (p := ⟨w.heap.size, 1, none⟩) (v := .slice a n c) (by simp)
    have c2 := hk1.cell (p := ⟨w.heap.size, 2, none⟩) (v := .int .i64 T) (by simp)
    clear hk1
    go_wp2_with fail
    go_region_with (first
      | (go_at_call 71; refine (HVn.out _ ((((Kept.refl _).alloc _).trans K1.out).trans (Kept.refl _).drew)).mono ?_; rintro e w5 ⟨⟨g5, c5, rfl, ⟨hcc5, hcne⟩, hv5⟩, hk5⟩; have hcI : (V : Int) ≤ (c5 : Int) := (by omega); have hcI2 : ((V + n : Nat) : Int) ≤ (c5 : Int) := (by omega); have HD := Lib.hid hv5; clear hv5; have d0 := hk5.cell c0; have d1 := hk5.cell c1; have d2 := hk5.cell c2)
      | (go_at_call 70; refine (cloneB_any _ rfl _ (vals.drop V) _ HDL.out _ HD.out).mono ?_; rintro e w6 ⟨⟨v6, rfl, hv6⟩, hk6⟩))
    all_goals (go_wp2_with fail)
    all_goals go_ret2
    all_goals exact ⟨⟨_, rfl, hv6⟩, ((((Kept.refl _).alloc _).trans K1.out).trans ((Kept.refl _).drew.trans hk5)).trans hk6⟩
end Go.Proofs.Ytcgfjacidjebaaa
