import Derived.Test.YtapniojbnochiaaK3
import Derived.Test.YtapniojbnochiaaK2
import Derived.Test.YtapniojbnochiaaK1
import Derived.Deep.RegionHeld3
import Derived.ProofKit
import Derived.OpenShut
import Derived.SizedLaws
import Derived.Lib.SmallJoins
import Derived.Deep.Slices
import Derived.Deep.Fields
import Derived.Deep.Strs
import Derived.Carry
import Derived.Test.YtapniojbnochiaaK4
import Derived.Deep.DeepCutAuto
/-
  Plain: one round of the top-down search, whatever the order of the rows.
-/
namespace Go.Proofs.Ytapniojbnochiaa

/-- Where the search stands: rows L in some order, steps done, what is still to come. -/
structure Stand (V T : Nat) (f : Fm) (L st : List Nat) (m : Nat) : Prop where
  le : m ≤ f.nodes.length
  lt : ∀ r ∈ L, RowLt (24 + m) r
  mkd : ∀ r ∈ L, Marked V (belowK V T f.nodes) r
  len : L.length ≤ 1024
  run : ∃ R : List Nat, L.Perm R ∧ topK V T f.nodes = (runK V f.nodes m R).map fun p => (p.1, st ++ p.2)
theorem Stand.start {V T : Nat} {f : Fm} (hok : Ok f V T) : Stand V T f [cond V T] [] f.nodes.length := by
  have hT := hok.tlt
  refine ⟨Nat.le_refl _, fun r hr => ?_, fun r hr => ?_, by simp, ⟨[cond V T], .refl _, ?_⟩⟩
  · simp at hr; subst hr; exact rowLt_cond (by omega) hok.v24
  · simp at hr; subst hr
    refine marked_cond (by omega) hok.v24 ?_
    unfold belowK
    refine belowGo_keep V f.nodes _ _ _ ?_
    rw [List.getD_eq_getElem?_getD, Int.toNat_natCast, List.getElem?_set_self (by simp; omega)]; rfl
  · unfold topK
    cases runK V f.nodes f.nodes.length [cond V T] with
    | none => rfl
    | some p => rfl
/-- No row has a node left. -/
theorem Stand.done {V T : Nat} {f : Fm} {L st : List Nat} {m : Nat} (h : Stand V T f L st m) (hn : ∀ c ∈ L, ∀ j, c.testBit (24 + j) = true → False) : ∃ R, topK V T f.nodes = some (R, st) ∧ L.Perm R := by
  obtain ⟨R, hp, hr⟩ := h.run
  refine ⟨R, ?_, hp⟩
  rw [hr, runK_skip V f.nodes 0 R m (Nat.zero_le _) fun j _ _ => ?_]
  · show some (R, st ++ []) = _
    rw [List.append_nil]
  · rw [List.any_eq_false]
    intro r hr hb
    exact hn r (hp.mem_iff.2 hr) j hb
/-- A node is expanded. -/
theorem Stand.at {V T : Nat} {f : Fm} {L st : List Nat} {m i : Nat} (h : Stand V T f L st m) (hi : ∃ c ∈ L, c.testBit (24 + i) = true) (hmax : ∀ c ∈ L, ∀ j, c.testBit (24 + j) = true → j ≤ i) :
    i < m ∧ (belowK V T f.nodes).getD (V + i) false = true ∧ ∃ R : List Nat, L.Perm R ∧ R.any (fun r => r.testBit (24 + i)) = true ∧ topK V T f.nodes = (runK V f.nodes (i + 1) R).map fun p => (p.1, st ++ p.2) := by
  obtain ⟨c, hc, hb⟩ := hi
  have him : i < m := by have := h.lt c hc _ hb; omega
  obtain ⟨R, hp, hr⟩ := h.run
  refine ⟨him, h.mkd c hc i hb, R, hp, List.any_eq_true.2 ⟨c, hp.mem_iff.1 hc, hb⟩, ?_⟩
  rw [hr, runK_skip V f.nodes (i + 1) R m (by omega) fun j h1 _ => ?_]
  rw [List.any_eq_false]
  intro r hr hb
  have := hmax r (hp.mem_iff.2 hr) j hb
  omega
theorem Stand.full {V T : Nat} {f : Fm} {L st : List Nat} {m i : Nat} (h : Stand V T f L st m) (hi : ∃ c ∈ L, c.testBit (24 + i) = true) (hmax : ∀ c ∈ L, ∀ j, c.testBit (24 + j) = true → j ≤ i)
    (hl : 4096 < (expK V (f.nodes.getD i noNd) i L).length) : topK V T f.nodes = none := by
  obtain ⟨_, _, R, hp, ha, hr⟩ := h.at hi hmax
  rw [hr]
  conv => lhs; unfold runK
  rw [if_pos ha, if_neg (by rw [← (expK_perm (V := V) (i := i) (x := f.nodes.getD i noNd) hp).length_eq]; omega)]; rfl
theorem Stand.many {V T : Nat} {f : Fm} {L M st : List Nat} {m i : Nat} (h : Stand V T f L st m) (hi : ∃ c ∈ L, c.testBit (24 + i) = true) (hmax : ∀ c ∈ L, ∀ j, c.testBit (24 + j) = true → j ≤ i)
    (hM : M.Perm (minK (expK V (f.nodes.getD i noNd) i L))) (hl : 1024 < M.length) : topK V T f.nodes = none := by
  obtain ⟨_, _, R, hp, ha, hr⟩ := h.at hi hmax
  have he := minK_perm (expK_perm (V := V) (i := i) (x := f.nodes.getD i noNd) hp)
  rw [hr]
  conv => lhs; unfold runK
  rw [if_pos ha]
  split
  · rw [if_neg (by rw [← he, ← hM.length_eq]; omega)]; rfl
  · rfl
theorem Stand.next {V T : Nat} {f : Fm} (hok : Ok f V T) {L M st : List Nat} {m i : Nat} (h : Stand V T f L st m) (hi : ∃ c ∈ L, c.testBit (24 + i) = true) (hmax : ∀ c ∈ L, ∀ j, c.testBit (24 + j) = true → j ≤ i)
    (hl4 : (expK V (f.nodes.getD i noNd) i L).length ≤ 4096) (hM : M.Perm (minK (expK V (f.nodes.getD i noNd) i L))) (hl : M.length ≤ 1024) : Stand V T f M (st ++ [M.length]) i := by
  obtain ⟨him, hmk, R, hp, ha, hr⟩ := h.at hi hmax
  have hle := h.le
  have hil : i < f.nodes.length := by omega
  have hnd : f.nodes.getD i noNd = f.nodes[i] := by simp [List.getD_eq_getElem?_getD, hil]
  have hmem : ∀ r ∈ M, r ∈ expK V (f.nodes.getD i noNd) i L := fun r hr => mem_minK (hM.mem_iff.1 hr)
  refine ⟨by omega, fun r hr => ?_, fun r hr => ?_, hl, ⟨minK (expK V (f.nodes.getD i noNd) i R), ?_, ?_⟩⟩
  · refine rowLt_expK hok.v24 (by rw [hnd]; exact hok.args i hil) (fun c hc j hj => ?_) r (hmem r hr)
    by_cases h24 : j < 24
    · omega
    · have := hmax c hc (j - 24) (by rw [show 24 + (j - 24) = j by omega]; exact hj)
      omega
  · exact marked_expK hok.v24 h.mkd (fun hk a ha => by rw [hnd] at ha; exact ⟨(hok.args i hil a ha).1, below_closed V T f hok i hil hk a ha⟩) r (hmem r hr)
  · rw [← minK_perm (expK_perm (V := V) (i := i) (x := f.nodes.getD i noNd) hp)]; exact hM
  · rw [hr]
    have he := minK_perm (expK_perm (V := V) (i := i) (x := f.nodes.getD i noNd) hp)
    conv => lhs; unfold runK
    rw [if_pos ha, if_pos (by rw [← (expK_perm (V := V) (i := i) (x := f.nodes.getD i noNd) hp).length_eq]; exact hl4), if_pos (by rw [← he, ← hM.length_eq]; exact hl), ← he, ← hM.length_eq]
    cases runK V f.nodes i (minK (expK V (f.nodes.getD i noNd) i L)) with
    | none => rfl
    | some p => show some _ = some _; simp
theorem expK_take (V : Nat) (x : Nd) (i : Nat) (L : List Nat) (k : Nat) (h : k < L.length) : expK V x i (L.take (k + 1)) = expK V x i (L.take k) ++ expR V x i L[k] := by
  unfold expK
  rw [List.take_succ_eq_append_getElem h, List.flatMap_append]; simp
end Go.Proofs.Ytapniojbnochiaa

/-
  Walks: bottomup.Cuts.
-/
namespace Go.Proofs.Ytapniojbnochiaa
open Go.RowKit

def cutsK (V T : Nat) (nodes : List Nd) : Option (List Nat) := (famsK V T nodes).map fun l => if T < V then [2 ^ T] else l.getD (T - V) []
set_option maxHeartbeats 2000000 in
theorem cuts_err (v : Value) (f : Fm) (q : Nat) (hq : q ≠ 0) (w : World) (hv : ∃ a n c, v = .slice a n c)
    (h : ∀ W, Kept w W → Calls Try.prog 24 #[fmV v f] W fun e w' => e = .returned (.tuple #[.slice none 0 0, errV q]) ∧ Kept W w') :
    Calls Try.prog 19 #[fmV v f] w fun e w' => e = .returned (.tuple #[.slice none 0 0, errV q]) ∧ Kept w w' := by
  have H := Lib.hid h
  have E2 := Lib.hid (errV_pos hq)
  obtain ⟨a, n, c, rfl⟩ := hv
  clear h hq
  go_enter Try.func19, Try.ntmps19
  go_wp2_with (go_at_call 24; refine (H.out _ ((Kept.refl _).alloc _)).mono ?_; rintro e w1 ⟨rfl, hk1⟩; rw [E2.out])
  go_ret2
  exact ⟨by rw [E2.out]; rfl, (((Kept.refl _).alloc _).trans hk1)⟩
set_option maxHeartbeats 2000000 in
theorem cuts_ok (v : Value) (f : Fm) (V T : Nat) (l : List (List Nat)) (w : World) (hok : Ok f V T) (hv : ∃ a n c, v = .slice a n c) (hl : famsK V T f.nodes = some l)
    (h : ∀ W, Kept w W → Calls Try.prog 24 #[.agg #[.int .i64 V, v, .int .i64 T]] W fun e w' => (∃ v', e = .returned (.tuple #[v', .nilIface]) ∧ OwnFams w' 0 v' l) ∧ Kept W w') :
    Calls Try.prog 19 #[.agg #[.int .i64 V, v, .int .i64 T]] w fun e w' => (∃ v', e = .returned (.tuple #[v', .nilIface]) ∧ OwnSets w' 0 v' (if T < V then [2 ^ T] else l.getD (T - V) [])) ∧ Kept w w' := by
  have H := Lib.hid h
  obtain ⟨a, n, c, rfl⟩ := hv
  have hT := hok.tlt
  have hV := hok.v24
  have hn := hok.n128
  have hll : l.length = f.nodes.length := len_famsUp V _ f.nodes f.nodes.length l hl
  clear h hl hok
  by_cases hTV : T < V
  · rw [if_pos hTV]
    have h1 : (T : Int) < (V : Int) := by omega
    go_enter Try.func19, Try.ntmps19
    go_wp2_with (go_at_call 24; refine (H.out _ ((Kept.refl _).alloc _)).mono ?_; rintro e w1 ⟨⟨v1, rfl, ho1⟩, hk1⟩; have O1 := Lib.hid ho1; clear ho1; have c0 := hk1.cell (p := ⟨w.heap.size, 0, none⟩) (v := .int .i64 V) (by simp); have c2 := hk1.cell (p := ⟨w.heap.size, 2, none⟩) (v := .int .i64 T) (by simp))
    go_ret2
    exact ⟨⟨_, rfl, OwnSets.shl w1 T (by omega)⟩, (((Kept.refl _).alloc _).trans hk1).alloc _⟩
  · rw [if_neg hTV]
    have h1 : ¬ (T : Int) < (V : Int) := by omega
    obtain ⟨Z, hZ⟩ : ∃ Z, T = V + Z := ⟨T - V, by omega⟩
    subst hZ
    have hZl : Z < l.length := by omega
    have hzz : (Z : Int) < (l.length : Int) := by omega
    have hlne : l ≠ [] := by intro e; rw [e] at hZl; simp at hZl
    obtain ⟨ln, hln⟩ : ∃ x, x = l.length := ⟨_, rfl⟩
    rw [← hln] at hzz
    have HLN := Lib.hid hln
    have HZL := Lib.hid hZl
    have HNE := Lib.hid hlne
    clear hln hll hZl hlne
    go_enter Try.func19, Try.ntmps19
    go_wp2_with (go_at_call 24; refine (H.out _ ((Kept.refl _).alloc _)).mono ?_; rintro e w1 ⟨⟨v1, rfl, ho1⟩, hk1⟩; obtain ⟨g, cap, rfl, _, _, _⟩ := ho1.shape HNE.out; obtain ⟨uz, hcz, huz⟩ := ho1.cell Z HZL.out; rw [← HLN.out]; have O1 := Lib.hid huz; clear ho1 huz; have c0 := hk1.cell (p := ⟨w.heap.size, 0, none⟩) (v := .int .i64 V) (by simp); have c2 := hk1.cell (p := ⟨w.heap.size, 2, none⟩) (v := .int .i64 ((V + Z : Nat) : Int)) (by simp))
    go_ret2
    exact ⟨⟨uz, rfl, by rw [show V + Z - V = Z by omega, List.getD_eq_getElem?_getD, List.getElem?_eq_getElem HZL.out]; exact O1.out⟩, ((Kept.refl _).alloc _).trans hk1⟩
end Go.Proofs.Ytapniojbnochiaa

/-
  Walks: faultlinebase.Num, Ints, Rows.
-/
namespace Go.Proofs.Ytapniojbnochiaa
open Go.RowKit

theorem as_errno (v : Value) (w : World) : (Instr.typeAssert (.iface 45 v) 29 45 true).run Try.prog w = .ok (.tuple #[v, .bool true]) w := by kernel_rfl
set_option maxRecDepth 100000 in
theorem num_eq (c : Nat) (w : World) (hc : c ≤ 9223372036854775807) : Calls Try.prog 21 #[errV c] w fun e w' => e = .returned (.int .i64 c) ∧ w = w' := by
  by_cases h : c = 0
  · subst h
    rw [errV_zero]
    go_enter Try.func21, Try.ntmps21
    go_wp2
    refine bodyPost_ret (v := .int .i64 0) ?_ rfl ⟨rfl, rfl⟩
    simp [results, Try.results21, go_sem]
  · rw [errV_pos h]
    clear h
    go_enter Try.func21, Try.ntmps21
    go_wp2
    rw [as_errno]
    go_wp2
    go_ret
    exact ⟨rfl, rfl⟩
theorem num_ok (c : Nat) (w : World) (hc : c ≤ 9223372036854775807) : Calls Try.prog 21 #[errV c] w fun e w' => e = .returned (.int .i64 c) ∧ Kept w w' :=
  (num_eq c w hc).mono fun _ _ ⟨h1, h2⟩ => ⟨h1, by rw [← h2]; exact Kept.refl _⟩

theorem ints_ne (a b : List Int) (va vb : Value) (w : World) (ha : IntsAt w va a) (hb : IntsAt w vb b) (h : a.length ≠ b.length) :
    Calls Try.prog 23 #[va, vb] w fun e w' => e = .returned (.bool false) ∧ Kept w w' := by
  obtain ⟨aa, ca, rfl, _, hla, hca⟩ := ha
  obtain ⟨ab, cb, rfl, _, hlb, hcb⟩ := hb
  have hne : ((a.length : Int) == (b.length : Int)) = false := by simpa using (by omega : (a.length : Int) ≠ b.length)
  clear h hca hcb
  go_enter Try.func23, Try.ntmps23
  go_wp2
  go_ret
  exact ⟨rfl, Kept.refl _⟩
set_option maxHeartbeats 2000000 in
theorem ints_at (a b : List Int) (va vb : Value) (w : World) (ha : IntsAt w va a) (hb : IntsAt w vb b) :
    Calls Try.prog 23 #[va, vb] w fun e w' => e = .returned (.bool (decide (a = b))) ∧ Kept w w' := by
  by_cases h : a.length = b.length
  case neg =>
    refine (ints_ne a b va vb w ha hb h).mono ?_
    rintro e w' ⟨rfl, h2⟩
    refine ⟨?_, h2⟩
    have : a ≠ b := fun e => h (by rw [e])
    simp [this]
  obtain ⟨aa, ca, rfl, _, hla, hca⟩ := ha
  obtain ⟨ab, cb, rfl, _, hlb, hcb⟩ := hb
  obtain ⟨n, hn⟩ : ∃ n, n = a.length := ⟨_, rfl⟩
  have hnb : n = b.length := by omega
  rw [← hnb, ← hn]
  have HA := Lib.hid hca
  have HB := Lib.hid hcb
  have Hn := Lib.hid hn
  have Hnb := Lib.hid hnb
  have hn9 : n ≤ 140737488355328 := by omega
  clear hca hcb h hn hnb hla hlb
  go_enter Try.func23, Try.ntmps23
  go_wp2
  go_loopw [5, 13] (fun _ i wr => ∃ k : Nat, k ≤ n ∧ i = .int .i64 k ∧ (∀ j, j < k → a[j]? = b[j]?) ∧ Kept w wr) (fun _ i _ => n - (intOf i).toNat)
  case atStart => exact ⟨0, Nat.zero_le _, rfl, by simp, Kept.refl _⟩
  case round =>
    obtain ⟨k, hk, rfl, hsame, hbel⟩ := hrel
    have HS := Lib.hid hsame
    clear hsame
    by_cases hlt : k < n
    · have hka : k < a.length := by have := Hn.out; omega
      have hkb : k < b.length := by have := Hnb.out; omega
      obtain ⟨ba, oa, rfl, c1⟩ := HA.out k hka
      obtain ⟨bb, ob, rfl, c2⟩ := HB.out k hkb
      have c1' := hbel.cell c1
      have c2' := hbel.cell c2
      obtain ⟨x, hx⟩ : ∃ x, x = a[k] := ⟨_, rfl⟩
      obtain ⟨y, hy⟩ : ∃ x, x = b[k] := ⟨_, rfl⟩
      rw [← hx] at c1 c1'
      rw [← hy] at c2 c2'
      have HX := Lib.hid hx
      have HY := Lib.hid hy
      have HKA := Lib.hid hka
      have HKB := Lib.hid hkb
      clear hx hy c1 c2
      by_cases hxy : x = y
      · have e1 : (x == y) = true := by simpa using hxy
        have e2 : (x != y) = false := by simpa using hxy
        have HXY := Lib.hid hxy
        clear hxy
        go_wp2
        go_quiet (fail)
        go_wp2
        go_roundw
        case rel =>
          refine ⟨k + 1, by omega, by simp, fun j hj => ?_, hbel.drewN _⟩
          by_cases e : j = k
          · subst e
            rw [List.getElem?_eq_getElem HKA.out, List.getElem?_eq_getElem HKB.out, ← HX.out, ← HY.out, HXY.out]
          · exact HS.out j (by omega)
        case measure => simp [intOf]; omega
      · have e1 : (x == y) = false := by simpa using hxy
        have e2 : (x != y) = true := by simpa using hxy
        have HXY := Lib.hid hxy
        clear hxy
        go_wp2
        go_quiet (fail)
        go_wp2
        go_ret
        refine ⟨?_, hbel.drewN _⟩
        have : a ≠ b := by
          intro e
          subst e
          exact HXY.out (HX.out.trans HY.out.symm)
        simp [this]
    · go_wp2
      go_ret
      refine ⟨?_, hbel⟩
      have hkn : k = n := by omega
      have : a = b := by
        apply List.ext_getElem?
        intro j
        by_cases hj : j < k
        · exact HS.out j hj
        · rw [List.getElem?_eq_none (by have := Hn.out; omega), List.getElem?_eq_none (by have := Hnb.out; omega)]
      simp [this]
end Go.Proofs.Ytapniojbnochiaa

/-
  Walks: faultlinebase.Rows.
-/
namespace Go.Proofs.Ytapniojbnochiaa
open Go.RowKit

theorem rows_ne (a b : List (List Int)) (va vb : Value) (w : World) (ha : RowsAt IntsAt w va a) (hb : RowsAt IntsAt w vb b) (h : a.length ≠ b.length) :
    Calls Try.prog 26 #[va, vb] w fun e w' => e = .returned (.bool false) ∧ Kept w w' := by
  obtain ⟨aa, ca, rfl, _, hla, hca⟩ := ha
  obtain ⟨ab, cb, rfl, _, hlb, hcb⟩ := hb
  have hne : ((a.length : Int) == (b.length : Int)) = false := by simpa using (by omega : (a.length : Int) ≠ b.length)
  clear h hca hcb
  go_enter Try.func26, Try.ntmps26
  go_wp2
  go_ret
  exact ⟨rfl, Kept.refl _⟩
set_option maxHeartbeats 2000000 in
theorem rows_eq (a b : List (List Int)) (va vb : Value) (w : World) (ha : RowsAt IntsAt w va a) (hb : RowsAt IntsAt w vb b) :
    Calls Try.prog 26 #[va, vb] w fun e w' => e = .returned (.bool (decide (a = b))) ∧ Kept w w' := by
  by_cases h : a.length = b.length
  case neg =>
    refine (rows_ne a b va vb w ha hb h).mono ?_
    rintro e w' ⟨rfl, h2⟩
    refine ⟨?_, h2⟩
    have : a ≠ b := fun e => h (by rw [e])
    simp [this]
  obtain ⟨aa, ca, rfl, _, hla, hca⟩ := ha
  obtain ⟨ab, cb, rfl, _, hlb, hcb⟩ := hb
  obtain ⟨n, hn⟩ : ∃ n, n = a.length := ⟨_, rfl⟩
  have hnb : n = b.length := by omega
  rw [← hnb, ← hn]
  have HA := Lib.hid hca
  have HB := Lib.hid hcb
  have Hn := Lib.hid hn
  have Hnb := Lib.hid hnb
  have hn9 : n ≤ 140737488355328 := by omega
  clear hca hcb h hn hnb hla hlb
  go_enter Try.func26, Try.ntmps26
  go_wp2
  go_loopw [5, 13] (fun _ i wr => ∃ k : Nat, k ≤ n ∧ i = .int .i64 k ∧ (∀ j, j < k → a[j]? = b[j]?) ∧ Kept w wr) (fun _ i _ => n - (intOf i).toNat)
  case atStart => exact ⟨0, Nat.zero_le _, rfl, by simp, Kept.refl _⟩
  case round =>
    obtain ⟨k, hk, rfl, hsame, hbel⟩ := hrel
    have HS := Lib.hid hsame
    clear hsame
    by_cases hlt : k < n
    · have hka : k < a.length := by have := Hn.out; omega
      have hkb : k < b.length := by have := Hnb.out; omega
      obtain ⟨ba, oa, ua, rfl, c1, i1⟩ := HA.out k hka
      obtain ⟨bb, ob, ub, rfl, c2, i2⟩ := HB.out k hkb
      have c1' := hbel.cell c1
      have c2' := hbel.cell c2
      obtain ⟨x, hx⟩ : ∃ x, x = a[k] := ⟨_, rfl⟩
      obtain ⟨y, hy⟩ : ∃ x, x = b[k] := ⟨_, rfl⟩
      rw [← hx] at i1
      rw [← hy] at i2
      have j1 := Lib.hid (i1.kept hbel)
      have j2 := Lib.hid (i2.kept hbel)
      have HX := Lib.hid hx
      have HY := Lib.hid hy
      have HKA := Lib.hid hka
      have HKB := Lib.hid hkb
      clear hx hy c1 c2 i1 i2
      by_cases hxy : x = y
      · have HC : Hid (∀ W, Kept wr W → Calls Try.prog 23 #[ua, ub] W fun e w' => e = .returned (.bool true) ∧ Kept W w') := Lib.hid fun W hW => by
          have := ints_at x y ua ub W (j1.out.kept hW) (j2.out.kept hW)
          rw [decide_eq_true hxy] at this
          exact this
        have HXY := Lib.hid hxy
        clear hxy
        go_wp2
        go_region_held3 (fun w' => w'.cell? ⟨ba, oa + k, none⟩ = some ua ∧ w'.cell? ⟨bb, ob + k, none⟩ = some ub)
          (first | go_keep | exact ⟨hk5.cell c1', hk5.cell c2'⟩)
          (first | (go_at_call 23; refine (HC.out _ (Kept.refl _).drew).mono ?_; rintro e w5 ⟨rfl, hk5⟩))
        go_wp2
        go_roundw
        case rel =>
          refine ⟨k + 1, by omega, by simp, fun j hj => ?_, hbel.trans ((Kept.refl _).drew.trans hk5)⟩
          by_cases e : j = k
          · subst e
            rw [List.getElem?_eq_getElem HKA.out, List.getElem?_eq_getElem HKB.out, ← HX.out, ← HY.out, HXY.out]
          · exact HS.out j (by omega)
        case measure => simp [intOf]; omega
      · have HC : Hid (∀ W, Kept wr W → Calls Try.prog 23 #[ua, ub] W fun e w' => e = .returned (.bool false) ∧ Kept W w') := Lib.hid fun W hW => by
          have := ints_at x y ua ub W (j1.out.kept hW) (j2.out.kept hW)
          rw [decide_eq_false hxy] at this
          exact this
        have HXY := Lib.hid hxy
        clear hxy
        go_wp2
        go_region_held3 (fun w' => w'.cell? ⟨ba, oa + k, none⟩ = some ua ∧ w'.cell? ⟨bb, ob + k, none⟩ = some ub)
          (first | go_keep | exact ⟨hk5.cell c1', hk5.cell c2'⟩)
          (first | (go_at_call 23; refine (HC.out _ (Kept.refl _).drew).mono ?_; rintro e w5 ⟨rfl, hk5⟩))
        go_wp2
        go_ret
        refine ⟨?_, hbel.trans ((Kept.refl _).drew.trans hk5)⟩
        have : a ≠ b := by
          intro e
          subst e
          exact HXY.out (HX.out.trans HY.out.symm)
        simp [this]
    · go_wp2
      go_ret
      refine ⟨?_, hbel⟩
      have hkn : k = n := by omega
      have : a = b := by
        apply List.ext_getElem?
        intro j
        by_cases hj : j < k
        · exact HS.out j hj
        · rw [List.getElem?_eq_none (by have := Hn.out; omega), List.getElem?_eq_none (by have := Hnb.out; omega)]
      simp [this]
end Go.Proofs.Ytapniojbnochiaa

/-
  Walks: faultlinelaw31.Example.
-/
namespace Go.Proofs.Ytapniojbnochiaa
open Go.RowKit

/-- The document's example. -/
def exN : List Nd := [⟨3, 0, [0, 1]⟩, ⟨3, 0, [0, 2]⟩, ⟨2, 0, [3, 4]⟩]
theorem alloc_cell {w : World} {cs : Array Value} {e : TypeId} {g : Nat} (hg : g = w.heap.size) {j : Nat} {u : Value} (h : cs[j]? = some u) : (w.alloc (.cells cs e)).cell? ⟨g, j, none⟩ = some u := by
  subst hg
  simp only [World.cell?, heap_alloc_new]
  exact h
theorem pair_at {W : World} {g : Nat} {x y : Int} (h0 : W.cell? ⟨g, 0, none⟩ = some (.int .i64 x)) (h1 : W.cell? ⟨g, 1, none⟩ = some (.int .i64 y)) : IntsAt W (.slice (some ⟨g, 0, none⟩) 2 2) [x, y] := by
  refine ⟨_, 2, rfl, ⟨Nat.le_refl _, fun h => by cases h⟩, by simp, fun i hi => ⟨g, 0, rfl, ?_⟩⟩
  match i, hi with
  | 0, _ => simpa using h0
  | 1, _ => simpa using h1
set_option maxRecDepth 100000 in
set_option maxHeartbeats 2000000 in
theorem example_ok (w : World) : Calls Try.prog 51 #[] w fun e w' => (∃ v, e = .returned (.agg #[.int .i64 3, v, .int .i64 5]) ∧ (∃ a n c, v = .slice a n c) ∧ NodesAt w' v exN) ∧ Kept w w' := by
  go_enter Try.func51, Try.ntmps51
  go_wp2
  generalize hW : World.alloc _ (.cells #[.int .i64 3, .int .i64 0, _, .int .i64 3, .int .i64 0, _, .int .i64 2, .int .i64 0, _] 47) = W
  have hk : Kept w W := by rw [← hW]; exact (((((Kept.refl w).alloc _).alloc _).alloc _).alloc _).alloc _
  have hs : ∀ (j : Nat) (u : Value), (#[.int .i64 3, .int .i64 0, .slice (some ⟨w.heap.size + 1, 0, none⟩) 2 2, .int .i64 3, .int .i64 0, .slice (some ⟨w.heap.size + 1 + 1, 0, none⟩) 2 2, .int .i64 2, .int .i64 0, .slice (some ⟨w.heap.size + 1 + 1 + 1, 0, none⟩) 2 2] : Array Value)[j]? = some u → W.cell? ⟨w.heap.size + 1 + 1 + 1 + 1, j, none⟩ = some u := by
    intro j u h
    rw [← hW]
    exact alloc_cell (by simp [World.size_alloc]) h
  have h1 : IntsAt W (.slice (some ⟨w.heap.size + 1, 0, none⟩) 2 2) [0, 1] := pair_at (by rw [← hW]; exact Kept.cell ((((Kept.refl _).alloc _).alloc _).alloc _) (alloc_cell (by simp [World.size_alloc]) rfl)) (by rw [← hW]; exact Kept.cell ((((Kept.refl _).alloc _).alloc _).alloc _) (alloc_cell (by simp [World.size_alloc]) rfl))
  have h2 : IntsAt W (.slice (some ⟨w.heap.size + 1 + 1, 0, none⟩) 2 2) [0, 2] := pair_at (by rw [← hW]; exact Kept.cell (((Kept.refl _).alloc _).alloc _) (alloc_cell (by simp [World.size_alloc]) rfl)) (by rw [← hW]; exact Kept.cell (((Kept.refl _).alloc _).alloc _) (alloc_cell (by simp [World.size_alloc]) rfl))
  have h3 : IntsAt W (.slice (some ⟨w.heap.size + 1 + 1 + 1, 0, none⟩) 2 2) [3, 4] := pair_at (by rw [← hW]; exact Kept.cell ((Kept.refl _).alloc _) (alloc_cell (by simp [World.size_alloc]) rfl)) (by rw [← hW]; exact Kept.cell ((Kept.refl _).alloc _) (alloc_cell (by simp [World.size_alloc]) rfl))
  have r0 : W.cell? ⟨w.heap.size, 0, none⟩ = some (.int .i64 3) := by rw [← hW]; exact Kept.cell (((((Kept.refl _).alloc _).alloc _).alloc _).alloc _) (alloc_cell rfl rfl)
  have r1 : W.cell? ⟨w.heap.size, 1, none⟩ = some (.slice (some ⟨w.heap.size + 1 + 1 + 1 + 1, 0, none⟩) 3 3) := by rw [← hW]; exact Kept.cell (((((Kept.refl _).alloc _).alloc _).alloc _).alloc _) (alloc_cell rfl rfl)
  have r2 : W.cell? ⟨w.heap.size, 2, none⟩ = some (.int .i64 5) := by rw [← hW]; exact Kept.cell (((((Kept.refl _).alloc _).alloc _).alloc _).alloc _) (alloc_cell rfl rfl)
  refine bodyPost_ret (v := .agg #[.int .i64 3, .slice (some ⟨w.heap.size + 1 + 1 + 1 + 1, 0, none⟩) 3 3, .int .i64 5]) (by simp [results, Try.results51, go_sem, r0, r1, r2]) rfl ?_
  refine ⟨⟨_, rfl, ⟨_, _, _, rfl⟩, _, 3, rfl, ⟨Nat.le_refl _, fun h => by cases h⟩, by decide, fun i hi => ⟨_, 0, rfl, ?_⟩⟩, hk⟩
  match i, hi with
  | 0, _ => exact ⟨_, hs 0 _ rfl, hs 1 _ rfl, hs 2 _ rfl, h1⟩
  | 1, _ => exact ⟨_, hs 3 _ rfl, hs 4 _ rfl, hs 5 _ rfl, h2⟩
  | 2, _ => exact ⟨_, hs 6 _ rfl, hs 7 _ rfl, hs 8 _ rfl, h3⟩
end Go.Proofs.Ytapniojbnochiaa

/-
  Plain: the example's families.
-/
namespace Go.Proofs.Ytapniojbnochiaa
open Go.RowKit

def exF : Fm := ⟨3, exN, 5⟩
theorem chk_ex : chkF exF = 0 := by decide
theorem syn_ex : synK 3 5 exF = true := by decide
theorem ok_ex : Ok exF 3 5 := by
  obtain ⟨V, T, h⟩ := ok_of exF chk_ex
  have h1 : (3 : Int) = (V : Int) := h.vars
  have h2 : (5 : Int) = (T : Int) := h.top
  obtain rfl : V = 3 := by omega
  obtain rfl : T = 5 := by omega
  exact h
theorem pcs : pc 0 = 0 ∧ pc 1 = 1 ∧ pc 2 = 1 ∧ pc 3 = 2 ∧ pc 4 = 1 ∧ pc 5 = 2 ∧ pc 6 = 2 ∧ pc 7 = 3 := by
  have h0 : pc 0 = 0 := by unfold pc; simp
  have h1 : pc 1 = 1 := by unfold pc; simp [h0]
  have h2 : pc 2 = 1 := by unfold pc; simp [h1]
  have h3 : pc 3 = 2 := by unfold pc; simp [h1]
  have h4 : pc 4 = 1 := by unfold pc; simp [h2]
  have h5 : pc 5 = 2 := by unfold pc; simp [h2]
  have h6 : pc 6 = 2 := by unfold pc; simp [h3]
  have h7 : pc 7 = 3 := by unfold pc; simp [h3]
  exact ⟨h0, h1, h2, h3, h4, h5, h6, h7⟩
theorem below_ex : belowK 3 5 exN = [true, true, true, true, true, true] := by decide
set_option linter.unusedSimpArgs false in
theorem fams_ex : famsK 3 5 exN = some [[1, 2], [1, 4], [1, 6]] := by
  obtain ⟨h0, h1, h2, h3, h4, h5, h6, h7⟩ := pcs
  unfold famsK
  rw [below_ex]
  simp +decide [addU, rowU, famsUp, famStep, exN, nodeK, foldK, plusK, productK, minK, sortK, insK, ltK, minN, keepN, allU, famArg, h0, h1, h2, h3, h4, h5, h6, h7]
end Go.Proofs.Ytapniojbnochiaa

/-
  Walks: faultlinelaw32.awake.
-/
namespace Go.Proofs.Ytapniojbnochiaa
open Go.RowKit

theorem families_good (v : Value) (f : Fm) (V T : Nat) (w : World) (l : List (List Nat)) (hv : NodesAt w v f.nodes) (hok : Ok f V T) (hck : chkF f = 0) (hs : synK V T f = true) (hl : famsK V T f.nodes = some l) :
    Calls Try.prog 24 #[.agg #[.int .i64 V, v, .int .i64 T]] w fun e w' => (∃ v', e = .returned (.tuple #[v', .nilIface]) ∧ OwnFams w' 0 v' l) ∧ Kept w w' := by
  refine (families_ok v f V T w hv hok hck hs).mono ?_
  rintro e w' ⟨h1, h2⟩
  rw [hl] at h1
  exact ⟨h1, h2⟩
theorem ofN_rows {w : World} {v : Value} {l : List (List Nat)} (h : FamsAt w v l) : RowsAt IntsAt w v (l.map ofN) := by
  obtain ⟨a, c, h1, h2, h3, h4⟩ := h
  refine ⟨a, c, by simpa using h1, by simpa using h2, by simpa using h3, fun i hi => ?_⟩
  obtain ⟨b, o, u, h5, h6, h7⟩ := h4 i (by simpa using hi)
  exact ⟨b, o, u, h5, h6, by simpa using h7.1⟩
theorem row_at {w : World} {g : Nat} {us : List Value} {xs : List (List Int)} (hl : us.length = xs.length) (hn : xs.length ≤ 128) (hc : ∀ i (h : i < us.length) (h' : i < xs.length), w.cell? ⟨g, i, none⟩ = some us[i] ∧ IntsAt w us[i] xs[i]) : RowsAt IntsAt w (.slice (some ⟨g, 0, none⟩) xs.length xs.length) xs :=
  ⟨_, _, rfl, ⟨Nat.le_refl _, fun h => by cases h⟩, by omega, fun i hi => ⟨g, 0, us[i]'(by omega), rfl, by simpa using (hc i (by omega) hi).1, (hc i (by omega) hi).2⟩⟩
theorem fam_ex_at (v : Value) (w : World) (hv : NodesAt w v exN) :
    Calls Try.prog 24 #[.agg #[.int .i64 3, v, .int .i64 5]] w fun e w' => (∃ v', e = .returned (.tuple #[v', .nilIface]) ∧ OwnFams w' 0 v' [[1, 2], [1, 4], [1, 6]]) ∧ Kept w w' :=
  families_good v exF 3 5 w [[1, 2], [1, 4], [1, 6]] hv ok_ex chk_ex syn_ex fams_ex
theorem cut_ex_at (v : Value) (w : World) (hs : ∃ a n c, v = .slice a n c) (hv : NodesAt w v exN) :
    Calls Try.prog 19 #[.agg #[.int .i64 3, v, .int .i64 5]] w fun e w' => (∃ v', e = .returned (.tuple #[v', .nilIface]) ∧ OwnSets w' 0 v' [1, 6]) ∧ Kept w w' :=
  cuts_ok v exF 3 5 [[1, 2], [1, 4], [1, 6]] w ok_ex hs fams_ex fun W hW => fam_ex_at v W (hv.kept hW)
theorem lit_at (w : World) : RowsAt IntsAt ((((w.alloc (.cells #[.int .i64 1, .int .i64 2] 3)).alloc (.cells #[.int .i64 1, .int .i64 4] 3)).alloc (.cells #[.int .i64 1, .int .i64 6] 3)).alloc (.cells #[.slice (some ⟨w.heap.size, 0, none⟩) 2 2, .slice (some ⟨w.heap.size + 1, 0, none⟩) 2 2, .slice (some ⟨w.heap.size + 1 + 1, 0, none⟩) 2 2] 27)) (.slice (some ⟨w.heap.size + 1 + 1 + 1, 0, none⟩) 3 3) [[1, 2], [1, 4], [1, 6]] := by
  generalize hW : World.alloc _ (.cells #[_, _, _] 27) = W
  have hs : ∀ (j : Nat) (u : Value), (#[.slice (some ⟨w.heap.size, 0, none⟩) 2 2, .slice (some ⟨w.heap.size + 1, 0, none⟩) 2 2, .slice (some ⟨w.heap.size + 1 + 1, 0, none⟩) 2 2] : Array Value)[j]? = some u → W.cell? ⟨w.heap.size + 1 + 1 + 1, j, none⟩ = some u := by
    intro j u h
    rw [← hW]
    exact alloc_cell (by simp [World.size_alloc]) h
  have h1 : IntsAt W (.slice (some ⟨w.heap.size, 0, none⟩) 2 2) [1, 2] := pair_at (by rw [← hW]; exact Kept.cell ((((Kept.refl _).alloc _).alloc _).alloc _) (alloc_cell rfl rfl)) (by rw [← hW]; exact Kept.cell ((((Kept.refl _).alloc _).alloc _).alloc _) (alloc_cell rfl rfl))
  have h2 : IntsAt W (.slice (some ⟨w.heap.size + 1, 0, none⟩) 2 2) [1, 4] := pair_at (by rw [← hW]; exact Kept.cell (((Kept.refl _).alloc _).alloc _) (alloc_cell (by simp [World.size_alloc]) rfl)) (by rw [← hW]; exact Kept.cell (((Kept.refl _).alloc _).alloc _) (alloc_cell (by simp [World.size_alloc]) rfl))
  have h3 : IntsAt W (.slice (some ⟨w.heap.size + 1 + 1, 0, none⟩) 2 2) [1, 6] := pair_at (by rw [← hW]; exact Kept.cell ((Kept.refl _).alloc _) (alloc_cell (by simp [World.size_alloc]) rfl)) (by rw [← hW]; exact Kept.cell ((Kept.refl _).alloc _) (alloc_cell (by simp [World.size_alloc]) rfl))
  refine ⟨_, 3, rfl, ⟨Nat.le_refl _, fun h => by cases h⟩, by simp, fun i hi => ⟨w.heap.size + 1 + 1 + 1, 0, ?_⟩⟩
  match i, hi with
  | 0, _ => exact ⟨_, rfl, hs 0 _ rfl, h1⟩
  | 1, _ => exact ⟨_, rfl, hs 1 _ rfl, h2⟩
  | 2, _ => exact ⟨_, rfl, hs 2 _ rfl, h3⟩
theorem rows_true {l : List (List Int)} (va vb : Value) (w : World) (ha : RowsAt IntsAt w va l) (hb : RowsAt IntsAt w vb l) : Calls Try.prog 26 #[va, vb] w fun e w' => e = .returned (.bool true) ∧ Kept w w' := by
  have h := rows_eq l l va vb w ha hb
  rw [decide_eq_true rfl] at h
  exact h
theorem ints_true {l : List Int} (va vb : Value) (w : World) (ha : IntsAt w va l) (hb : IntsAt w vb l) : Calls Try.prog 23 #[va, vb] w fun e w' => e = .returned (.bool true) ∧ Kept w w' := by
  have h := ints_at l l va vb w ha hb
  rw [decide_eq_true rfl] at h
  exact h
theorem RowsAt.keptI {w w' : World} {v : Value} {l : List (List Int)} (h : RowsAt IntsAt w v l) (hk : Kept w w') : RowsAt IntsAt w' v l := RowsAt.kept (fun _ _ _ _ h k => h.kept k) h hk
theorem pair_new (w : World) (x y : Int) : IntsAt (w.alloc (.cells #[.int .i64 x, .int .i64 y] 3)) (.slice (some ⟨w.heap.size, 0, none⟩) 2 2) [x, y] := pair_at (alloc_cell rfl rfl) (alloc_cell rfl rfl)
set_option maxRecDepth 100000 in
set_option maxHeartbeats 1000000 in
theorem awake_ok (w : World) : Calls Try.prog 17 #[] w fun e w' => e = .returned (.bool true) ∧ Kept w w' := by
  go_enter Try.func17, Try.ntmps17
  go_wp2_with (go_at_call 51; refine (example_ok _).mono ?_; rintro e w1 ⟨⟨v1, rfl, ⟨a1, n1, c1, rfl⟩, hn1⟩, hk1⟩; have HN1 := Lib.hid hn1; clear hn1)
  refine (fam_ex_at _ _ HN1.out).mono ?_
  rintro e w2 ⟨⟨v2, rfl, ho2⟩, hk2⟩
  obtain ⟨g2, cap2, rfl, hg2, hg2', hc2⟩ := ho2.shape (by simp)
  have HO2 := Lib.hid ho2
  clear ho2
  go_wp2_with (go_at_call 51; refine (example_ok _).mono ?_; rintro e w3 ⟨⟨v3, rfl, ⟨a3, n3, c3, rfl⟩, hn3⟩, hk3⟩; have HN3 := Lib.hid hn3; clear hn3)
  refine (cut_ex_at _ _ ⟨_, _, _, rfl⟩ HN3.out).mono ?_
  rintro e w4 ⟨⟨v4, rfl, ho4⟩, hk4⟩
  obtain ⟨a4, n4, c4, rfl⟩ := ho4.1.ints.shape
  have HR4 := Lib.hid (ofN_rows ((((HO2.out.kept hk3).kept hk4)).at))
  have HO4 := Lib.hid ho4
  clear ho4
  go_wp2_with (first
    | (go_at_call 26; refine (rows_true _ _ _ (HR4.out.keptI (((((Kept.refl _).alloc _).alloc _).alloc _).alloc _)) (lit_at _)).mono ?_; rintro e w5 ⟨rfl, hk5⟩)
    | (go_at_call 23; refine (ints_true _ _ _ (HO4.out.1.ints.kept (((((((Kept.refl _).alloc _).alloc _).alloc _).alloc _).trans hk5).alloc _)) (pair_new _ _ _)).mono ?_; rintro e w6 ⟨rfl, hk6⟩))
  go_ret
  exact ⟨rfl, (((hk1.trans hk2).trans hk3).trans hk4).trans (((((((Kept.refl _).alloc _).alloc _).alloc _).alloc _).trans hk5).trans (((Kept.refl _).alloc _).trans hk6))⟩
end Go.Proofs.Ytapniojbnochiaa

/-
  Walks: faultlinebase.Clip, faultlinelaw31.Heavy.
-/
namespace Go.Proofs.Ytapniojbnochiaa
open Go.RowKit

theorem clip_any (k : Int) (w : World) : Calls Try.prog 52 #[.int .i64 k, .int .i64 1, .int .i64 16] w fun e w' => (∃ z, e = .returned (.int .i64 z)) ∧ Kept w w' := by
  go_enter Try.func52, Try.ntmps52
  go_wp2
  all_goals (go_ret; exact ⟨⟨_, rfl⟩, Kept.refl _⟩)
set_option maxRecDepth 100000 in
set_option maxHeartbeats 2000000 in
theorem heavy_any (v : Value) (f : Fm) (w : World) (hv : NodesAt w v f.nodes) :
    Calls Try.prog 18 #[fmV v f] w fun e w' => (∃ b, e = .returned (.bool b)) ∧ Kept w w' := by
  obtain ⟨a, c, rfl, _, hl, hx⟩ := hv
  obtain ⟨n, hn⟩ : ∃ n, n = f.nodes.length := ⟨_, rfl⟩
  rw [← hn] at hl ⊢
  obtain ⟨vars, nodes, top⟩ := f
  have HX := Lib.hid hx
  have HN := Lib.hid hn
  clear hx hn
  show Calls _ _ #[.agg #[.int .i64 vars, .slice a n c, .int .i64 top]] _ _
  go_enter Try.func18, Try.ntmps18
  go_wp2
  all_goals first
    | (go_ret; exact ⟨by simp, (Kept.refl _).alloc _⟩)
    | skip
  all_goals
    go_loopw [3, 4, 36] (fun p q i wr => ∃ (k : Nat) (x y : Int), k ≤ n ∧ i = .int .i64 k ∧ p = .int .i64 x ∧ q = .int .i64 y ∧ Kept w wr) (fun _ _ i _ => n - (intOf i).toNat)
    case atStart => exact ⟨0, 0, 0, Nat.zero_le _, rfl, rfl, rfl, (Kept.refl _).alloc _⟩
    case round =>
      obtain ⟨k, x, y, hk, rfl, rfl, rfl, hK⟩ := hrel
      by_cases hlt : k < n
      · obtain ⟨b, o, rfl, u, h1, h2, h3, h4⟩ := HX.out k (by have := HN.out; omega)
        obtain ⟨ax, cx, rfl, _, hlx, hcx⟩ := h4
        have hrange := Lib.hid (node_range (hK.cell h1) (hK.cell h2) (hK.cell h3))
        clear hcx h1 h2 h3
        generalize nodes[k].kind = kd at hrange
        generalize nodes[k].k = kk at hrange
        generalize nodes[k].args.length = na at hrange hlx
        by_cases hv4 : kd = 4
        · subst hv4
          go_wp2_with (with_reducible refine wpList_load_mid rfl 47 _ rfl b (o + k * 3) rfl _ _ hrange.out Try.underlying47 rfl (by kernel_rfl) ?_)
          have d1 : (wr.alloc (.cells #[.int .i64 4, .int .i64 kk, .slice ax na cx] 47)).cell? ⟨wr.heap.size, 1, none⟩ = some (.int .i64 kk) := by simp
          have d2 : (wr.alloc (.cells #[.int .i64 4, .int .i64 kk, .slice ax na cx] 47)).cell? ⟨wr.heap.size, 2, none⟩ = some (.slice ax na cx) := by simp
          go_region_held3 (fun w' => w'.cell? ⟨wr.heap.size, 1, none⟩ = some (.int .i64 kk) ∧ w'.cell? ⟨wr.heap.size, 2, none⟩ = some (.slice ax na cx))
            (first | go_keep | exact ⟨hk5.cell d1, hk5.cell d2⟩)
            (first | (go_at_call 52; refine (clip_any kk _).mono ?_; rintro e w5 ⟨⟨z, rfl⟩, hk5⟩))
          go_wp2
          go_roundw
          case rel => exact ⟨k + 1, _, _, by omega, by simp, rfl, rfl, (hK.alloc _).trans ((Kept.refl _).drew.trans hk5)⟩
          case measure => simp [intOf]; omega
        · have e4 : (kd == 4) = false := by simpa using hv4
          go_wp2_with (with_reducible refine wpList_load_mid rfl 47 _ rfl b (o + k * 3) rfl _ _ hrange.out Try.underlying47 rfl (by kernel_rfl) ?_)
          go_roundw
          case rel => exact ⟨k + 1, _, _, by omega, by simp, rfl, rfl, hK.alloc _⟩
          case measure => simp [intOf]; omega
      · go_wp2
        all_goals (try go_quiet (fail))
        all_goals (try go_wp2)
        all_goals (go_ret; first | exact ⟨⟨_, rfl⟩, hK⟩ | exact ⟨.inl rfl, hK⟩ | exact ⟨.inr rfl, hK⟩)
end Go.Proofs.Ytapniojbnochiaa

/-
  The frame of the laws over a formula: an argument read as data is a formula in memory; the law's answer makes its row.
-/
namespace Go.Proofs.Ytapniojbnochiaa
open Go.RowKit Go.ChangeShapes Go.WideShapes Go.ChangeAt Go.Joins Go.Deep

theorem ownK : ownKnob Try.prog.godebug = none := by kernel_rfl
theorem laidOutK : laidOutB Try.prog = true := by kernel_rfl
theorem cells_fm : Try.prog.cellsOf 24 = 3 := by kernel_rfl
theorem cells_node : Try.prog.cellsOf 47 = 3 := by kernel_rfl
theorem cells_int : Try.prog.cellsOf 3 = 1 := by kernel_rfl
theorem cells_ints : Try.prog.cellsOf 27 = 1 := by kernel_rfl
theorem bytes_node : Try.prog.bytesOf 47 = 40 := by kernel_rfl
theorem bytes_int : Try.prog.bytesOf 3 = 8 := by kernel_rfl

theorem weightsAll_mem {H : Type} {P : Program} {e : TypeId} : ∀ {l : List (DataW H)} {d : DataW H}, d ∈ l → ∀ n ∈ d.weights P e, n ∈ DataW.weightsAll P e l
  | d' :: r, d, hd, n, hn => by
    simp only [DataW.weightsAll, List.mem_append]
    rcases List.mem_cons.1 hd with rfl | h
    · exact .inl hn
    · exact .inr (weightsAll_mem h n hn)

theorem addP (b o j : Nat) : (⟨b, o, none⟩ : Addr).add j = ⟨b, o + j, none⟩ := by unfold Addr.add; split <;> simp_all
section
variable {H : Type} {enc : TypeId × Value → H} {W : World} {base : Nat}
/-- Ints of a slice, read. -/
theorem ints_open {fuel : Nat} {cs : List Value} {x : DataW H × List MemPlace} (hb : ∀ n ∈ x.1.weights Try.prog 27, n ≤ reachBytes)
    (h : DataW.trod enc Try.prog W base (fun _ => true) true fuel 27 cs = some x) : ∃ u xs, cs = [u] ∧ IntsAt W u xs ∧ ∀ z ∈ xs, -9223372036854775808 ≤ z ∧ z ≤ 9223372036854775807 := by
  rcases open_ints Try.underlying27 Try.underlying3 cells_int h with ⟨rfl, rfl⟩ | ⟨a, len, cap, zs, rfl, _, hl, hm, hz, rfl, hcell, hwz⟩
  · exact ⟨_, [], rfl, IntsAt.nil _, by simp⟩
  · simp only [if_true] at hz
    have hbb := hb ((zs.take len).length * 8 + (zs.drop len).length * 8) (by
      simp only [DataW.weights, Try.underlying27, bytes_int, List.mem_cons]
      exact .inl (by simp [lits]; omega))
    simp [reachBytes] at hbb
    refine ⟨_, zs.take len, rfl, ⟨some a, cap, by simp; omega, ⟨by simp; omega, fun h => by cases h⟩, by simp; omega, fun i hi => ?_⟩, fun z hz => bounds_i64 (hwz z (List.mem_of_mem_take hz))⟩
    simp only [List.length_take] at hi
    have hc := hcell i (by omega)
    obtain ⟨b, o, spot⟩ := a
    have hspot : spot = none := World.cell?_spot (hcell 0 (by omega))
    subst hspot
    refine ⟨b, o, rfl, ?_⟩
    have e : (zs.take len)[i]'(by simp; omega) = zs.getD i 0 := by simp [List.getD_eq_getElem?_getD, show i < zs.length by omega]
    rw [e, ← hc]
    congr 1
    by_cases h0 : i = 0
    · subst h0; rfl
    · simp [Addr.add, h0]
instance : Inhabited Nd := ⟨⟨0, 0, []⟩⟩
/-- All numbers of a node are ints of 64 bits. -/
def NdOk (x : Nd) : Prop := (-9223372036854775808 ≤ x.kind ∧ x.kind ≤ 9223372036854775807) ∧ (-9223372036854775808 ≤ x.k ∧ x.k ≤ 9223372036854775807) ∧ ∀ z ∈ x.args, -9223372036854775808 ≤ z ∧ z ≤ 9223372036854775807
def FmOk (f : Fm) : Prop := (-9223372036854775808 ≤ f.vars ∧ f.vars ≤ 9223372036854775807) ∧ (-9223372036854775808 ≤ f.top ∧ f.top ≤ 9223372036854775807) ∧ ∀ x ∈ f.nodes, NdOk x
set_option maxRecDepth 100000 in
theorem nodes_open {fuel : Nat} {cs : List Value} {x : DataW H × List MemPlace} (hb : ∀ n ∈ x.1.weights Try.prog 22, n ≤ reachBytes)
    (h : DataW.trod enc Try.prog W base (fun _ => true) true fuel 22 cs = some x) : ∃ u xs, cs = [u] ∧ NodesAt W u xs ∧ ∀ y ∈ xs, NdOk y := by
  rcases open_slice Try.underlying22 h with ⟨rfl, rfl⟩ | ⟨a, len, cap, m, n, D, Pl, rfl, _, hl, hm, hmm, rfl, hx⟩
  · exact ⟨_, [], rfl, ⟨none, 0, rfl, ⟨by simp, fun _ => rfl⟩, by simp, fun i h => by simp at h⟩, by simp⟩
  · simp only [if_true] at hmm
    have hmc := hmm.symm
    subst hmc
    have hbb := hb (cap * 40) (by
      simp only [DataW.weights, Try.underlying22, bytes_node, List.mem_cons]
      refine .inl ?_
      simp; omega)
    simp [reachBytes] at hbb
    have each : ∀ i, i < len → ∃ y : Nd, NdOk y ∧ ∃ b o, a = ⟨b, o, none⟩ ∧ NodeAt W b (o + i * 3) y := by
      intro i hi
      obtain ⟨cs', hc, ht⟩ := hx i (by omega)
      rw [cells_node] at hc
      obtain ⟨_, hcl, hat⟩ := World.cells?_some hc
      obtain ⟨y0, y1, y2, n', hy, hlen, g0, g1, g2⟩ := trod_struct3 Try.underlying47 ht
      match cs', hcl with
      | [c0, c1, c2], _ =>
        have q0 := hat 0 (by omega)
        have q1 := hat 1 (by omega)
        have q2 := hat 2 (by omega)
        simp only [List.getElem?_cons_zero, List.getElem?_cons_succ] at q0 q1 q2
        have k0 : Try.prog.cellsOf 3 = 1 := cells_int
        have k2 : Try.prog.cellsOf 27 = 1 := cells_ints
        simp only [k0, k2, List.drop_zero, List.drop_succ_cons, List.take_succ_cons, List.take_zero] at g0 g1 g2
        obtain ⟨kd, e0, hy0, w0⟩ := DataW.trod_int Try.underlying3 g0
        obtain ⟨kk, e1, hy1, w1⟩ := DataW.trod_int Try.underlying3 g1
        simp at e0 e1
        subst e0 e1
        have hdi : D i = .agg [y0.1, y1.1, y2.1] := by simpa using congrArg Prod.fst hy
        obtain ⟨u, xs, e2, hu, hwu⟩ := ints_open (fun n hn => hb n (by
          simp only [DataW.weights, Try.underlying22, List.mem_cons, List.mem_append]
          refine .inr (.inl (weightsAll_mem (d := D i) (List.mem_map.2 ⟨i, by simpa using hi, rfl⟩) n ?_))
          rw [hdi]
          simp only [DataW.weights, Try.underlying47]
          simp only [List.map_cons, DataW.weightsEach, List.mem_append]
          exact .inr (.inr (.inl hn)))) g2
        simp at e2
        subst e2
        obtain ⟨b, o, spot⟩ := a
        have hspot : spot = none := by
          obtain ⟨cs0, hc0, _⟩ := hx 0 (by omega)
          rw [cells_node] at hc0
          obtain ⟨_, hcl0, hat0⟩ := World.cells?_some hc0
          have h1 := hat0 0 (by omega)
          rw [List.getElem?_eq_getElem (by omega)] at h1
          exact World.cell?_spot (a := ⟨b, o, spot⟩) (by simpa [Addr.add] using h1)
        subst hspot
        refine ⟨⟨kd, kk, xs⟩, ⟨bounds_i64 w0, bounds_i64 w1, hwu⟩, b, o, rfl, c2, ?_, ?_, ?_, hu⟩
        · rw [← q0, addP, addP]; rfl
        · rw [← q1, addP, addP]
        · rw [← q2, addP, addP]
    obtain ⟨g, hg⟩ := choose_lt each
    refine ⟨_, (List.range len).map g, rfl, ⟨some a, cap, by simp, ⟨by simp; omega, fun h => by cases h⟩, by simp; omega, fun i hi => ?_⟩, fun y hy => ?_⟩
    · simp only [List.length_map, List.length_range] at hi
      obtain ⟨_, b, o, rfl, h1⟩ := hg i hi
      exact ⟨b, o, rfl, by simpa using h1⟩
    · obtain ⟨i, hi, rfl⟩ := List.mem_map.1 hy
      exact (hg i (by simpa using hi)).1
set_option maxRecDepth 100000 in
/-- A formula that came in. -/
theorem fm_open {v : Value} {d : DataW H} {p : List MemPlace} (hv : Value.okWide Try.prog W .any base 24 v) (hb : ∀ n ∈ d.weights Try.prog 24, n ≤ reachBytes)
    (h : DataW.Trod enc Try.prog W 0 (fun _ => true) true 24 v d p) : ∃ u f, v = fmV u f ∧ NodesAt W u f.nodes ∧ FmOk f := by
  obtain ⟨v0, v1, v2, y0, y1, y2, n, rfl, hd, _, t0, t1, t2⟩ := open_agg3 Try.underlying24 (by kernel_rfl) cells_fm hv h
  obtain ⟨vars, e0, _, w0⟩ := DataW.trod_int Try.underlying3 t0
  obtain ⟨top, e2, _, w2⟩ := DataW.trod_int Try.underlying3 t2
  simp at e0 e2
  subst e0 e2
  obtain ⟨u, xs, e1, hu, hwu⟩ := nodes_open (fun n hn => hb n (by
    rw [hd]
    simp only [DataW.weights, Try.underlying24]
    simp only [List.map_cons, DataW.weightsEach, List.mem_append]
    exact .inr (.inl hn))) t1
  simp at e1
  subst e1
  exact ⟨v1, ⟨vars, xs, top⟩, rfl, hu, bounds_i64 w0, bounds_i64 w2, hwu⟩
end
set_option maxRecDepth 100000 in
/-- A law of one formula: from its walk to its row's step. -/
theorem lift1 {s : ChangeSpec} (F : FuncId) (fn : Func) (hs1 : s.vars = []) (hs2 : ∀ (H : Type) (d : DataW H), s.fn H [d] = { results := [.lit (.bool true)], args := [d] })
    (hp : fn.params = #[24]) (hr : fn.resultTypes = #[4])
    (walk : ∀ (W : World) (u : Value) (f : Fm), NodesAt W u f.nodes → FmOk f → Calls Try.prog F #[fmV u f] W fun e w' => e = .returned (.bool true) ∧ Kept W w')
    {H : Type} {enc : TypeId × Value → H} (W : World) (base : Nat) (args : Array Value) (ds gs : List (DataW H)) (before : List MemPlace)
    (hval : ∀ (j : Nat) t v, fn.params[j]? = some t → args[j]? = some v → Value.okWide Try.prog W .any base t v)
    (hW : DataW.Whole enc Try.prog fn.params.toList s.vars false W args.toList ds gs before)
    (hsz : (DataW.weightsEach Try.prog (fn.params.toList ++ s.plain.varTypes Try.prog) (ds ++ gs)).all (· ≤ reachBytes) = true) :
    Calls Try.prog F args W fun e W' => ∃ v, e = .returned v ∧ s.post enc Try.prog fn false true false false W args v W' := by
  have hW' := hW
  obtain ⟨p, q, hA, hV, rfl, hfz, _⟩ := hW
  rw [hs1] at hV
  obtain ⟨rfl, rfl⟩ := trodVars_none hV
  rw [hp] at hA hval hsz
  obtain ⟨v0, d0, rfl, rfl, h0⟩ := trodAll_one hA
  have h0k := h0
  obtain ⟨u, f, rfl, hn, hok⟩ := fm_open (hval 0 _ _ rfl rfl) (fun n hn => by
    have := List.all_eq_true.1 hsz n (DataW.weights_mem_each (j := 0) rfl rfl n hn)
    simpa using this) h0
  have hlt : ∀ x ∈ p, x.block < W.heap.size := fun x hx => hW'.lt x (by simp [hx])
  refine (walk W u f hn hok).mono fun e W' ⟨he, hk⟩ => ?_
  subst he
  refine ⟨_, rfl, [d0], [], p ++ [], [], p, [], hW', ?_, ?_, ?_, Below.frame hk _, fun h => by cases h⟩
  · rw [hr]
    simp only [List.append_nil, hs2]
    exact trodAll_mk1 (shut_bool Try.underlying4 _)
  · rw [hp]
    simp only [List.append_nil, hs2]
    exact trodAll_mk1 (Below.trod laidOutK (by kernel_rfl) (of_decide_eq_true (by kernel_rfl)) h0k hk hlt)
  · rw [hs1]
    simp only [List.append_nil, hs2]
    rfl
end Go.Proofs.Ytapniojbnochiaa

/-
  What Families and Cuts answer, by cases; the formula in its block.
-/
namespace Go.Proofs.Ytapniojbnochiaa
open Go.RowKit

theorem fm_range {w w1 : World} {x y z : Value} {e : TypeId} (hk : Kept (w.alloc (.cells #[x, y, z] e)) w1) : w1.rangeAt w.heap.size 0 [x, y, z] := by
  intro j v hj
  match j, hj with
  | 0, hj => simp at hj; subst hj; exact hk.cell (p := ⟨w.heap.size, 0, none⟩) (by simp)
  | 1, hj => simp at hj; subst hj; exact hk.cell (p := ⟨w.heap.size, 1, none⟩) (by simp)
  | 2, hj => simp at hj; subst hj; exact hk.cell (p := ⟨w.heap.size, 2, none⟩) (by simp)
theorem fm_cells {w w1 : World} {x y z : Value} {e : TypeId} (hk : Kept (w.alloc (.cells #[x, y, z] e)) w1) : w1.cell? ⟨w.heap.size, 0, none⟩ = some x ∧ w1.cell? ⟨w.heap.size, 1, none⟩ = some y ∧ w1.cell? ⟨w.heap.size, 2, none⟩ = some z :=
  ⟨hk.cell (p := ⟨w.heap.size, 0, none⟩) (by simp), hk.cell (p := ⟨w.heap.size, 1, none⟩) (by simp), hk.cell (p := ⟨w.heap.size, 2, none⟩) (by simp)⟩
/-- The answers of Families and Cuts to a formula that Check accepts. -/
theorem fam_cases (v : Value) (f : Fm) (V T : Nat) (hok : Ok f V T) (hck : chkF f = 0) (hs : ∃ a n c, v = .slice a n c) :
    (∃ q, (q = 4 ∨ q = 7) ∧ ∀ W, NodesAt W v f.nodes → (Calls Try.prog 24 #[.agg #[.int .i64 V, v, .int .i64 T]] W fun e w' => e = .returned (.tuple #[.slice none 0 0, errV q]) ∧ Kept W w') ∧
      (Calls Try.prog 19 #[.agg #[.int .i64 V, v, .int .i64 T]] W fun e w' => e = .returned (.tuple #[.slice none 0 0, errV q]) ∧ Kept W w')) ∨
    (∃ l, famsK V T f.nodes = some l ∧ synK V T f = true ∧ ∀ W, NodesAt W v f.nodes → (Calls Try.prog 24 #[.agg #[.int .i64 V, v, .int .i64 T]] W fun e w' => (∃ v', e = .returned (.tuple #[v', .nilIface]) ∧ OwnFams w' 0 v' l) ∧ Kept W w') ∧
      (Calls Try.prog 19 #[.agg #[.int .i64 V, v, .int .i64 T]] W fun e w' => (∃ v', e = .returned (.tuple #[v', .nilIface]) ∧ OwnSets w' 0 v' (if T < V then [2 ^ T] else l.getD (T - V) [])) ∧ Kept W w')) := by
  have hfm : fmV v f = .agg #[.int .i64 V, v, .int .i64 T] := by unfold fmV; rw [hok.vars, hok.top]
  cases hsy : synK V T f with
  | false =>
    refine .inl ⟨7, .inr rfl, fun W hW => ⟨families_typed v f V T W hW hok hck hsy, ?_⟩⟩
    have := cuts_err v f 7 (by omega) W hs (fun W' hk => by rw [hfm]; exact families_typed v f V T W' (hW.kept hk) hok hck hsy)
    rw [hfm] at this
    exact this
  | true =>
    cases hl : famsK V T f.nodes with
    | none =>
      have h4 : ∀ W, NodesAt W v f.nodes → Calls Try.prog 24 #[.agg #[.int .i64 V, v, .int .i64 T]] W fun e w' => e = .returned (.tuple #[.slice none 0 0, errV 4]) ∧ Kept W w' := fun W hW => by
        have := families_ok v f V T W hW hok hck hsy
        rw [hl] at this
        exact this
      refine .inl ⟨4, .inl rfl, fun W hW => ⟨h4 W hW, ?_⟩⟩
      have := cuts_err v f 4 (by omega) W hs (fun W' hk => by rw [hfm]; exact h4 W' (hW.kept hk))
      rw [hfm] at this
      exact this
    | some l =>
      refine .inr ⟨l, rfl, rfl, fun W hW => ⟨families_good v f V T W l hW hok hck hsy hl, ?_⟩⟩
      exact cuts_ok v f V T l W hok hs hl fun W' hk => families_good v f V T W' l (hW.kept hk) hok hck hsy hl
end Go.Proofs.Ytapniojbnochiaa

/-
  Walks: topdown.run.
-/
namespace Go.Proofs.Ytapniojbnochiaa
open Go.RowKit

theorem node_read {w : World} {v : Value} {nodes : List Nd} (h : NodesAt w v nodes) (i : Nat) (hi : i < nodes.length) :
    ∃ b o n c ua un uc, v = .slice (some ⟨b, o, none⟩) n c ∧ n = nodes.length ∧ ∀ W, Kept w W → W.rangeAt b (o + i * 3) [.int .i64 nodes[i].kind, .int .i64 nodes[i].k, .slice ua un uc] ∧ IntsAt W (.slice ua un uc) nodes[i].args := by
  obtain ⟨a, c, h1, _, _, h4⟩ := h
  obtain ⟨b, o, h5, u, e0, e1, e2, e3⟩ := h4 i hi
  obtain ⟨ua, un, uc, rfl⟩ := e3.shape
  exact ⟨b, o, _, c, ua, un, uc, by rw [h1, h5], rfl, fun W hk => ⟨node_range (hk.cell e0) (hk.cell e1) (hk.cell e2), e3.kept hk⟩⟩
/-- What run answers. -/
def RunRes (w' : World) (e : Ending) (r : Option (List Nat × List Nat)) : Prop :=
  match r with
  | some p => ∃ v1 v2 L, e = .returned (.tuple #[v1, v2, .nilIface]) ∧ OwnRws w' 0 v1 L ∧ L.Perm p.1 ∧ OwnInts w' 0 v2 (ofN p.2)
  | none => e = .returned (.tuple #[.slice none 0 0, .slice none 0 0, errV 4])
set_option maxRecDepth 100000 in
theorem run_err (v : Value) (f : Fm) (q : Nat) (hq : q ≠ 0) (w : World) (hs : ∃ a n c, v = .slice a n c) (hsy : ∀ W, Kept w W → Calls Try.prog 56 #[fmV v f] W fun e w' => e = .returned (.tuple #[.bool false, errV q]) ∧ Kept W w') :
    Calls Try.prog 67 #[fmV v f] w fun e w' => e = .returned (.tuple #[.slice none 0 0, .slice none 0 0, errV q]) ∧ Kept w w' := by
  obtain ⟨a, n, c, rfl⟩ := hs
  obtain ⟨vars, nodes, top⟩ := f
  have H : Hid (∀ W, Kept w W → Calls Try.prog 56 #[.agg #[.int .i64 vars, .slice a n c, .int .i64 top]] W fun e w' => e = .returned (.tuple #[.bool false, errV q]) ∧ Kept W w') := Lib.hid hsy
  rw [errV_pos hq] at *
  clear hsy hq
  show Calls _ _ #[.agg #[.int .i64 vars, .slice a n c, .int .i64 top]] _ _
  go_enter Try.func67, Try.ntmps67
  go_wp2_with (go_at_call 56; refine (H.out _ ((Kept.refl _).alloc _)).mono ?_; rintro e w1 ⟨rfl, hk1⟩)
  go_ret3
  exact ⟨rfl, ((Kept.refl _).alloc _).trans hk1⟩
set_option maxRecDepth 100000 in
theorem run_typed (v : Value) (V : Nat) (T : Int) (w : World) (hs : ∃ a n c, v = .slice a n c) (hsy : ∀ W, Kept w W → Calls Try.prog 56 #[.agg #[.int .i64 V, v, .int .i64 T]] W fun e w' => e = .returned (.tuple #[.bool false, .nilIface]) ∧ Kept W w') :
    Calls Try.prog 67 #[.agg #[.int .i64 V, v, .int .i64 T]] w fun e w' => e = .returned (.tuple #[.slice none 0 0, .slice none 0 0, errV 7]) ∧ Kept w w' := by
  obtain ⟨a, n, c, rfl⟩ := hs
  have H := Lib.hid hsy
  clear hsy
  rw [errV_pos (show (7 : Nat) ≠ 0 by decide)]
  go_enter Try.func67, Try.ntmps67
  go_wp2_with (go_at_call 56; refine (H.out _ ((Kept.refl _).alloc _)).mono ?_; rintro e w1 ⟨rfl, hk1⟩)
  go_ret3
  exact ⟨rfl, ((Kept.refl _).alloc _).trans hk1⟩
end Go.Proofs.Ytapniojbnochiaa

/-
  Walks: topdown.run on well-formed formulas.
-/
namespace Go.Proofs.Ytapniojbnochiaa
open Go.RowKit

theorem OwnRws.zero {w : World} {B : Nat} {v : Value} {L : List Nat} (h : OwnRws w B v L) : OwnRws w 0 v L := h.mono (Nat.zero_le _)
theorem OwnRws.grown {w w' : World} {B : Nat} {ob : Option Nat} {v : Value} {L : List Nat} (h : OwnRws w B v L) (hg : w.grownBy w' ob) (hne : ∀ g, v.ownBlock = some g → some g ≠ ob) : OwnRws w' B v L := by
  obtain ⟨⟨h1, h2⟩, h3⟩ := h
  refine ⟨⟨h1, h2.imp id ?_⟩, h3⟩
  rintro ⟨b, cap, cur, rfl, h5, h6, h7⟩
  refine ⟨b, cap, cur, rfl, h5, ?_, h7⟩
  have hlt : b < w.heap.size := by
    by_cases h : b < w.heap.size
    · exact h
    · rw [Array.getElem?_eq_none (Nat.le_of_not_lt h)] at h6; cases h6
  exact (hg.block b hlt (hne b (by simp [Value.ownBlock]))).trans h6
theorem OwnInts.own_lt {w : World} {B : Nat} {v : Value} {xs : List Int} (h : OwnInts w B v xs) {g : Nat} (hg : v.ownBlock = some g) : g < w.heap.size := (h.1.lt g hg).2
theorem own_one (w : World) (B c : Nat) (hB : B ≤ w.heap.size) (hc : RowLt 152 c) : OwnRws (w.alloc (.cells #[.int .i64 (evW c), .int .u64 (loW c), .int .u64 (hiW c)] 95)) B (.slice (some ⟨w.heap.size, 0, none⟩) 1 1) [c] :=
  ⟨⟨by simp [rcells], .inr ⟨w.heap.size, 1, _, rfl, hB, heap_alloc_new w _, Nat.le_refl _, by unfold maxLen; omega, by simp, by simp [rcells]⟩⟩, by simp, by simpa using hc⟩
theorem RwsAt.len {w : World} {v : Value} {L : List Nat} (h : RwsAt w v L) : L.length ≤ 10000 := by obtain ⟨_, _, _, _, h, _⟩ := h; exact h
theorem RwsAt.lt {w : World} {v : Value} {L : List Nat} (h : RwsAt w v L) : ∀ c ∈ L, RowLt 152 c := by obtain ⟨_, _, _, _, _, h, _⟩ := h; exact h
theorem RwsAt.get {w : World} {a : Option Addr} {n c : Nat} {L : List Nat} (h : RwsAt w (.slice a n c) L) (i : Nat) (hi : i < L.length) : ∃ b o, a = some ⟨b, o, none⟩ ∧ w.rangeAt b (o + i * 3) (rcells L[i]) := by
  obtain ⟨a', c', h1, _, _, _, h5⟩ := h
  injection h1 with h1 h2 h3
  subst h1
  exact h5 i hi
theorem runRes_none (w : World) : RunRes w (.returned (.tuple #[.slice none 0 0, .slice none 0 0, errV 4])) none := rfl
/-- The rows' cells while the list is filled. -/
theorem frm_kept {gl : Nat} {v v' : Value} {w0 w w' : World} (hk : Kept w0 w) (h : Frm gl v v' w w') (h1 : w0.heap.size ≤ gl) (h2 : v.ownBlock = none) : Kept w0 w' := by
  refine ⟨h.os.trans hk.os, h.tape.trans hk.tape, h.output.trans hk.output, Nat.le_trans hk.size h.size, fun k hk' => ?_⟩
  have := hk.size
  refine (h.block k (by omega) (by omega) (by rw [h2]; simp)).trans (hk.block k hk')
set_option maxRecDepth 100000 in
set_option maxHeartbeats 4000000 in
theorem run_ok (v : Value) (f : Fm) (V T : Nat) (w : World) (hv : NodesAt w v f.nodes) (hok : Ok f V T) (hck : chkF f = 0) (hs : synK V T f = true) :
    Calls Try.prog 67 #[.agg #[.int .i64 V, v, .int .i64 T]] w fun e w' => RunRes w' e (topK V T f.nodes) ∧ Kept w w' := by
  have HSY : Hid (∀ W, Kept w W → Calls Try.prog 56 #[.agg #[.int .i64 V, v, .int .i64 T]] W fun e w' => e = .returned (.tuple #[.bool true, .nilIface]) ∧ Kept W w') := Lib.hid fun W hk => by
    have := syntax_ok v f V T W (hv.kept hk) hok hck
    rw [hs] at this; exact this
  have HNR := Lib.hid (fun i (hi : i < f.nodes.length) => node_read hv i hi)
  have HOK := Lib.hid hok
  have HMO := Lib.hid (fun i (hi : i < f.nodes.length) h => kind_mono hok hs i hi h)
  have hsh : ∃ a n c, v = .slice a n c := by obtain ⟨a, c, h, _⟩ := hv; exact ⟨a, _, c, h⟩
  obtain ⟨a, n, c, rfl⟩ := hsh
  have h24 := hok.v24
  have h128 := hok.n128
  have htl := hok.tlt
  have hc0 : RowLt 152 (cond V (T : Int)) := rowLt_mono (rowLt_cond (V := V) (m := 128) (by omega) h24) (by omega)
  have HST0 := Lib.hid (Stand.start hok)
  have HW0 : Hid (∀ W', Calls Try.prog 93 #[.agg #[.int .i64 0, .int .u64 0, .int .u64 0], .agg #[.int .i64 V, .slice a n c, .int .i64 T], .int .i64 T] W' fun e w' => e = .returned (rowV (cond V (T : Int))) ∧ Kept W' w') := Lib.hid fun W' => by
    have := rwith_any (c := 0) (fun j hj => by simp at hj) V (.slice a n c) T ⟨_, _, _, rfl⟩ h24 (T : Int) (by omega) W'
    rw [show withC V 0 (T : Int) = cond V (T : Int) by unfold withC; simp] at this
    exact this
  obtain ⟨c0, hc00⟩ : ∃ c0, c0 = cond V (T : Int) := ⟨_, rfl⟩
  obtain ⟨nl, hnl⟩ : ∃ nl, nl = f.nodes.length := ⟨_, rfl⟩
  rw [← hc00] at hc0 HST0 HW0
  rw [← hnl] at HST0 h128
  have HNL := Lib.hid hnl
  have HC0 := Lib.hid hc0
  obtain ⟨x0, hx0⟩ : ∃ x, x = evW c0 := ⟨_, rfl⟩
  obtain ⟨x1, hx1⟩ : ∃ x, x = loW c0 := ⟨_, rfl⟩
  obtain ⟨x2, hx2⟩ : ∃ x, x = hiW c0 := ⟨_, rfl⟩
  have HOW : Hid (∀ (W : World) (B : Nat), B ≤ W.heap.size → OwnRws (W.alloc (.cells #[.int .i64 x0, .int .u64 x1, .int .u64 x2] 95)) B (.slice (some ⟨W.heap.size, 0, none⟩) 1 1) [c0]) := Lib.hid fun W B hB => by rw [hx0, hx1, hx2]; exact own_one W B c0 hB hc0
  unfold rowV at HW0
  rw [← hx0, ← hx1, ← hx2] at HW0
  clear hv hok hck hs hc0 hc00 hnl hx0 hx1 hx2 htl
  go_enter Try.func67, Try.ntmps67
  go_wp2_with (go_at_call 56; refine (HSY.out _ ((Kept.refl _).alloc _)).mono ?_; rintro e w1 ⟨rfl, hk1⟩; have d0 := hk1.cell (p := ⟨w.heap.size, 0, none⟩) (v := .int .i64 V) (by simp); have d1 := hk1.cell (p := ⟨w.heap.size, 1, none⟩) (v := .slice a n c) (by simp); have d2 := hk1.cell (p := ⟨w.heap.size, 2, none⟩) (v := .int .i64 T) (by simp); have HK1 := Lib.hid (((Kept.refl _).alloc _).trans hk1); clear hk1)
  refine (HW0.out _).mono ?_
  rintro e w2 ⟨rfl, hk2⟩
  have d0' := hk2.cell d0
  have d1' := hk2.cell d1
  have d2' := hk2.cell d2
  have HK2 := Lib.hid (HK1.out.trans hk2)
  have hsz2 : w.heap.size < w2.heap.size := by
    by_cases h : w.heap.size < w2.heap.size
    · exact h
    · simp [World.cell?, Array.getElem?_eq_none (Nat.le_of_not_lt h)] at d0'
  clear d0 d1 d2 hk2 HK1
  go_wp2
  obtain ⟨L1, hL1⟩ : ∃ L : World, L = w2.alloc (.cells #[.int .i64 x0, .int .u64 x1, .int .u64 x2] 95) := ⟨_, rfl⟩
  have HL1 := Lib.hid hL1
  clear hL1
  have e0 := (by rw [HL1.out]; exact ((Kept.refl w2).alloc _).cell d0' : L1.cell? ⟨w.heap.size, 0, none⟩ = some (.int .i64 V))
  have e1 := (by rw [HL1.out]; exact ((Kept.refl w2).alloc _).cell d1' : L1.cell? ⟨w.heap.size, 1, none⟩ = some (.slice a n c))
  have e2 := (by rw [HL1.out]; exact ((Kept.refl w2).alloc _).cell d2' : L1.cell? ⟨w.heap.size, 2, none⟩ = some (.int .i64 T))
  have HKL : Hid (Kept w L1) := Lib.hid (by rw [HL1.out]; exact HK2.out.trans ((Kept.refl w2).alloc _))
  clear d0' d1' d2'
  go_loopg [7, 8] nl (fun kx s7 s8 wr => ∃ (L st : List Nat) (m : Nat) (vr vs : Value), s7 = vr ∧ s8 = vs ∧ m ≤ kx ∧ Hid (Stand V T f L st m ∧ st.length + m ≤ 128) ∧ Hid (OwnRws wr w2.heap.size vr L) ∧ Hid (OwnInts wr L1.heap.size vs (ofN st)) ∧ Hid (Kept L1 wr))
  case atStart => exact ⟨[c0], [], nl, _, _, rfl, rfl, Nat.le_refl _, Lib.hid ⟨HST0.out, by simpa using h128⟩, Lib.hid (HOW.out _ _ (Nat.le_refl _)), Lib.hid (OwnInts.nil _ _), Lib.hid (by rw [HL1.out]; exact Kept.refl _)⟩
  case round =>
    obtain ⟨wo, rfl⟩ : ∃ wo : World, wo = wr := ⟨_, rfl⟩
    obtain ⟨L, st, m, vr, vs, rfl, rfl, hmk, HST, HOR, HOS, HK⟩ := hrel
    obtain ⟨va, vc, hvr⟩ := HOR.out.at.shape
    obtain ⟨ln, hln⟩ : ∃ ln, ln = L.length := ⟨_, rfl⟩
    rw [← hln] at hvr
    have hlb : ln ≤ 10000 := by rw [hln]; exact HOR.out.at.len
    subst hvr
    have HLN := Lib.hid hln
    have HG := Lib.hid (greatest_any _ L wo HOR.out.at)
    have d0 := HK.out.cell e0
    have d1 := HK.out.cell e1
    have d2 := HK.out.cell e2
    clear hln
    go_wp2_with fail
    refine HG.out.mono ?_
    rintro e w3 ⟨⟨r, rfl, hg⟩, hk3⟩
    have HGT := Lib.hid hg
    have HK3 := Lib.hid hk3
    by_cases hr0 : r < 0
    · clear hg hk3 d0 d1 d2
      go_wp2
      go_ret3
      refine ⟨?_, HKL.out.trans (HK.out.trans HK3.out)⟩
      obtain ⟨R, hR, hp⟩ := HST.out.1.done fun c hc j hj => by have := HGT.out.1 c hc j hj; omega
      rw [hR]
      exact ⟨_, _, L, rfl, (HOR.out.kept HK3.out).zero, hp, (HOS.out.mono (Nat.zero_le _)).kept HK3.out⟩
    · obtain ⟨i, rfl, hib⟩ := hg.2.resolve_left (by omega)
      obtain ⟨him, hmk2, _⟩ := HST.out.1.at hib fun c hc j hj => by have := hg.1 c hc j hj; omega
      have hle := HST.out.1.le
      have hil : i < f.nodes.length := by omega
      obtain ⟨b, o, n', c', ua, un, uc, hveq, hn', hnr⟩ := HNR.out i hil
      injection hveq with q1 q2 q3
      subst q1
      rw [← q2, ← HNL.out] at hn'
      have hkd := HMO.out i hil hmk2
      have hok := HOK.out
      have h128' := hok.n128
      have hargs : ∀ a ∈ f.nodes[i].args, 0 ≤ a ∧ a < (V : Int) + 128 := fun a ha => by have := hok.args i hil a ha; omega
      have h16 : f.nodes[i].args.length ≤ 16 := argsOk_le (hok.argc i hil)
      have hk4 : f.nodes[i].kind = 4 → 1 ≤ f.nodes[i].k ∧ f.nodes[i].k ≤ f.nodes[i].args.length := fun h4 => by
        have := hok.arity i hil
        unfold chkK at this
        rw [if_neg (by omega), if_pos h4] at this
        split at this
        · omega
        · cases this
      have hx : f.nodes.getD i noNd = f.nodes[i] := by simp [List.getD_eq_getElem?_getD, hil]
      obtain ⟨x, hxx⟩ : ∃ x, x = f.nodes[i] := ⟨_, rfl⟩
      rw [← hxx] at hnr hkd hargs h16 hk4 hx
      have HX := Lib.hid hx
      have hin : i < n := by rw [hn', HNL.out]; exact hil
      have hi128 : i < 128 := by omega
      have HEX : Hid (∀ W q u LL gl, Kept w W → w.heap.size ≤ gl → gl ≤ W.heap.size → ListAt W gl gl u LL → LL.length ≤ 4097 → RowLt 152 q → Calls Try.prog 96 #[.pointer (some ⟨gl, 0, none⟩), .agg #[.int .i64 V, .slice (some ⟨b, o, none⟩) n c, .int .i64 T], .agg #[.int .i64 (evW q), .int .u64 (loW q), .int .u64 (hiW q)], .int .i64 i] W fun e w' => e = .returned (.tuple #[]) ∧ ∃ v', ListAt w' gl gl v' ((LL ++ expandK V x i q).take 4097) ∧ Frm gl u v' W w') := Lib.hid fun W q u LL gl hk hg1 hg2 hL hl hq =>
        expand_any gl gl V i q b o n c T x ua un uc u LL W (Nat.le_refl _) h24 hg2 hL hl hq hi128 hin (hnr W hk).1 (fun w' hb => (hnr w' (hk.app (hb.mono hg1))).2) hargs h16 hkd hk4
      clear hnr hkd hargs h16 hk4 hx hxx hok hmk2 q2 q3 hn' hg hib hil
      have hsz3 := hk3.size
      have d0' := hk3.cell d0
      have d1' := hk3.cell d1
      have d2' := hk3.cell d2
      clear hk3 d0 d1 d2
      go_wp2
      obtain ⟨L3, hL3⟩ : ∃ L : World, L = w3.alloc (.cells #[.slice none 0 0] 116) := ⟨_, rfl⟩
      have HL3 := Lib.hid hL3
      have HK33 : Hid (Kept w3 L3) := Lib.hid (by rw [HL3.out]; exact (Kept.refl _).alloc _)
      clear hL3
      go_loopg [38] ln (fun kx s38 wr => ∃ (k : Nat) (vk : Value), s38 = .int .i64 k ∧ k ≤ ln ∧ ln - k ≤ kx ∧ Hid (ListAt wr w3.heap.size w3.heap.size vk ((expK V x i (L.take k)).take 4097)) ∧ Hid (Frm w3.heap.size (.slice none 0 0) vk L3 wr))
      case atStart => exact ⟨0, _, rfl, Nat.zero_le _, by omega, Lib.hid ⟨RowAt.made w3 _ _, by simpa [expK] using OwnRws.nil _ _⟩, Lib.hid (by rw [HL3.out]; exact Frm.of_kept (Kept.refl _))⟩
      case round =>
        obtain ⟨k, vk, rfl, hk, hkx, HLI, HFI⟩ := hrel
        have hkwi : Kept w3 wr := frm_kept HK33.out HFI.out (Nat.le_refl _) rfl
        have HKI := Lib.hid hkwi
        have hszi := hkwi.size
        by_cases hlt : k < ln
        · have hkl : k < L.length := by have := HLN.out; omega
          have hrows := HOR.out.at.kept (HK3.out.trans hkwi)
          obtain ⟨b2, o2, rfl, hrg⟩ := hrows.get k hkl
          have hql := hrows.lt L[k] (List.getElem_mem _)
          have hnext := expK_take V x i L k hkl
          obtain ⟨q, hqq⟩ : ∃ q, q = L[k] := ⟨_, rfl⟩
          rw [← hqq] at hrg hql hnext
          unfold expR at hnext
          have f0 := hkwi.cell d0'
          have f1 := hkwi.cell d1'
          have f2 := hkwi.cell d2'
          have hlen : ((expK V x i (L.take k)).take 4097).length ≤ 4097 := by rw [List.length_take]; omega
          have HKWI : Hid (∀ W, Kept wr W → Kept w W) := Lib.hid fun W hk => HKL.out.trans (HK.out.trans (HK3.out.trans (hkwi.trans hk)))
          have HHAS : Hid (∀ W, Calls Try.prog 95 #[rowV q, .int .i64 i] W fun e w' => e = .returned (.bool (q.testBit (24 + i))) ∧ Kept W w') := Lib.hid fun W => rhas_any hql i hi128 W
          unfold rowV at HHAS
          have hkn : (k : Int) < (ln : Int) := by omega
          cases hq : q.testBit (24 + i) with
          | true =>
            rw [hq] at hnext HHAS
            rw [if_pos rfl] at hnext
            have HE2 : Hid (∀ W, Kept wr W → Calls Try.prog 96 #[.pointer (some ⟨w3.heap.size, 0, none⟩), .agg #[.int .i64 V, .slice (some ⟨b, o, none⟩) n c, .int .i64 T], .agg #[.int .i64 (evW q), .int .u64 (loW q), .int .u64 (hiW q)], .int .i64 i] W fun e w' => e = .returned (.tuple #[]) ∧ ∃ v', Hid (ListAt w' w3.heap.size w3.heap.size v' ((expK V x i (L.take (k + 1))).take 4097)) ∧ Hid (Frm w3.heap.size (.slice none 0 0) v' L3 w')) := Lib.hid fun W hk => by
              have := HEX.out W q vk _ w3.heap.size (HKWI.out W hk) (by have := HKL.out.size; have := HK.out.size; omega) (by have := hk.size; omega) (ListAt.kept HLI.out hk) hlen hql
              rw [take_app, ← hnext] at this
              exact this.mono fun _ _ ⟨h1, v', h2, h3⟩ => ⟨h1, v', Lib.hid h2, Lib.hid ((HFI.out.trans (Frm.of_kept hk)).trans h3)⟩
            have HRG : Hid (wr.rangeAt b2 (o2 + k * 3) [.int .i64 (evW q), .int .u64 (loW q), .int .u64 (hiW q)]) := Lib.hid hrg
            generalize evW q = z0 at *
            generalize loW q = z1 at *
            generalize hiW q = z2 at *
            clear hrg hql hnext hqq hrows hq HEX d0' d1' d2' HLI HFI hkwi hlen
            go_wp2_with (first | (with_reducible refine wpList_load_mid rfl 95 _ rfl b2 (o2 + k * 3) rfl _ _ HRG.out Try.underlying95 rfl (by kernel_rfl) ?_) | (go_at_call 95; refine (HHAS.out _).mono ?_; rintro e w4 ⟨rfl, hk4⟩; have b0 := hk4.cell (p := ⟨wr.heap.size, 0, none⟩) (v := .int .i64 z0) (by simp); have b1 := hk4.cell (p := ⟨wr.heap.size, 1, none⟩) (v := .int .u64 z1) (by simp); have b2 := hk4.cell (p := ⟨wr.heap.size, 2, none⟩) (v := .int .u64 z2) (by simp); have HK4 := Lib.hid (((Kept.refl wr).alloc _).trans hk4); have g0 := HK4.out.cell f0; have g1 := HK4.out.cell f1; have g2 := HK4.out.cell f2; clear hk4) | (go_at_call 96; refine (HE2.out _ HK4.out).mono ?_; rintro e w5 ⟨rfl, v', h3, h4⟩))
            go_roundg (ln - (k + 1))
            case measure => omega
            case rel => exact ⟨k + 1, v', by go_num, by omega, Nat.le_refl _, h3, h4⟩
          | false =>
            rw [hq] at hnext HHAS
            rw [if_neg (by simp)] at hnext
            have HE2 : Hid (∀ W, Kept wr W → Calls Try.prog 97 #[.pointer (some ⟨w3.heap.size, 0, none⟩), .agg #[.int .i64 (evW q), .int .u64 (loW q), .int .u64 (hiW q)]] W fun e w' => e = .returned (.tuple #[]) ∧ ∃ v', Hid (ListAt w' w3.heap.size w3.heap.size v' ((expK V x i (L.take (k + 1))).take 4097)) ∧ Hid (Frm w3.heap.size (.slice none 0 0) v' L3 w')) := Lib.hid fun W hk => by
              have := add_any w3.heap.size w3.heap.size q vk _ W (ListAt.kept HLI.out hk) hql hlen (Nat.le_refl _)
              rw [addK_take hlen, take_app, ← hnext] at this
              exact this.mono fun _ _ ⟨h1, v', h2, h3⟩ => ⟨h1, v', Lib.hid h2, Lib.hid ((HFI.out.trans (Frm.of_kept hk)).trans h3)⟩
            have HRG : Hid (wr.rangeAt b2 (o2 + k * 3) [.int .i64 (evW q), .int .u64 (loW q), .int .u64 (hiW q)]) := Lib.hid hrg
            generalize evW q = z0 at *
            generalize loW q = z1 at *
            generalize hiW q = z2 at *
            clear hrg hql hnext hqq hrows hq HEX d0' d1' d2' HLI HFI hkwi hlen
            go_wp2_with (first | (with_reducible refine wpList_load_mid rfl 95 _ rfl b2 (o2 + k * 3) rfl _ _ HRG.out Try.underlying95 rfl (by kernel_rfl) ?_) | (go_at_call 95; refine (HHAS.out _).mono ?_; rintro e w4 ⟨rfl, hk4⟩; have b0 := hk4.cell (p := ⟨wr.heap.size, 0, none⟩) (v := .int .i64 z0) (by simp); have b1 := hk4.cell (p := ⟨wr.heap.size, 1, none⟩) (v := .int .u64 z1) (by simp); have b2 := hk4.cell (p := ⟨wr.heap.size, 2, none⟩) (v := .int .u64 z2) (by simp); have HK4 := Lib.hid (((Kept.refl wr).alloc _).trans hk4); clear hk4) | (go_at_call 97; refine (HE2.out _ HK4.out).mono ?_; rintro e w5 ⟨rfl, v', h3, h4⟩))
            go_roundg (ln - (k + 1))
            case measure => omega
            case rel => exact ⟨k + 1, v', by go_num, by omega, Nat.le_refl _, h3, h4⟩
        · have hke : k = ln := by omega
          have HLE : Hid (ListAt wr w3.heap.size w3.heap.size vk ((expK V x i L).take 4097)) := Lib.hid (by have h := HLI.out; rw [hke, HLN.out, List.take_length] at h; exact h)
          have c0 := HLE.out.1.cell (i := 0) (by simp)
          simp only [List.getElem_cons_zero] at c0
          obtain ⟨vka, vkc, hvk⟩ := HLE.out.2.at.shape
          obtain ⟨n2, hn2⟩ : ∃ n2, n2 = ((expK V x i L).take 4097).length := ⟨_, rfl⟩
          rw [← hn2] at hvk
          subst hvk
          have HN2 := Lib.hid hn2
          have hn2b : n2 ≤ 4097 := by rw [hn2, List.length_take]; omega
          have HHI : Hid ((∃ c ∈ L, c.testBit (24 + i) = true) ∧ ∀ c ∈ L, ∀ j, c.testBit (24 + j) = true → j ≤ i) := Lib.hid ⟨by
            rcases HGT.out.2 with h | ⟨j, hj, hc⟩
            · omega
            · rw [show i = j by omega]; exact hc, fun c hc j hj => by have := HGT.out.1 c hc j hj; omega⟩
          clear hke hn2 HLI HEX HFI
          by_cases hbig : 4096 < n2
          · have hbig' : (n2 : Int) > 4096 := by omega
            go_wp2
            go_ret3
            refine ⟨?_, HKL.out.trans (HK.out.trans (HK3.out.trans HKI.out))⟩
            rw [HST.out.1.full HHI.out.1 HHI.out.2 (by rw [HX.out]; have := HN2.out; rw [List.length_take] at this; omega)]
            exact runRes_none _
          · have hbig' : ¬ (n2 : Int) > 4096 := by omega
            have hfull : (expK V x i L).length ≤ 4096 := by have := HN2.out; rw [List.length_take] at this; omega
            have HLS := Lib.hid (least_perm_any _ _ wr HLE.out.2.at (by rw [List.length_take]; omega))
            rw [List.take_of_length_le (by omega)] at HLS
            have HFU := Lib.hid hfull
            clear hfull HLE
            go_wp2_with fail
            refine HLS.out.mono ?_
            rintro e w6 ⟨⟨v6, M, rfl, ho6, hp6⟩, hk6⟩
            have HO6 := Lib.hid ho6
            have HP6 := Lib.hid hp6
            have HK6 := Lib.hid hk6
            obtain ⟨va6, vc6, hv6⟩ := ho6.at.shape
            obtain ⟨n6, hn6⟩ : ∃ n6, n6 = M.length := ⟨_, rfl⟩
            rw [← hn6] at hv6
            have hn6b : n6 ≤ 10000 := by rw [hn6]; exact ho6.at.len
            subst hv6
            have HN6 := Lib.hid hn6
            have HKA : Hid (Kept wo w6) := Lib.hid (HK3.out.trans (HKI.out.trans hk6))
            have HKB : Hid (Kept L1 w6) := Lib.hid (HK.out.trans HKA.out)
            have hsz6 := hk6.size
            clear hn6 ho6 hp6 hk6 HLS
            by_cases hbig6 : 1024 < n6
            · have hbig6' : (n6 : Int) > 1024 := by omega
              go_wp2
              go_ret3
              refine ⟨?_, HKL.out.trans HKB.out⟩
              rw [HST.out.1.many (M := M) HHI.out.1 HHI.out.2 (by rw [HX.out]; exact HP6.out) (by rw [← HN6.out]; exact hbig6)]
              exact runRes_none _
            · have hbig6' : ¬ (n6 : Int) > 1024 := by omega
              have HS2 := Lib.hid (HST.out.1.next (M := M) HOK.out HHI.out.1 HHI.out.2 (by rw [HX.out]; exact HFU.out) (by rw [HX.out]; exact HP6.out) (by rw [← HN6.out]; omega))
              have HOS6 := Lib.hid (HOS.out.kept HKA.out)
              have hst := HST.out.2
              have hstl : (ofN st).length = st.length := by simp [ofN]
              have hszL := HKB.out.size
              have HOWN : Hid (∀ g, u8.ownBlock = some g → g < wr.heap.size) := Lib.hid fun g hg => by have := HOS.out.own_lt hg; have := (HK3.out.trans HKI.out).size; omega
              go_wp2_with (at_builtin; refine app_int rfl _ _ rfl L1.heap.size _ (ofN st) rfl (HOS6.out.kept ((Kept.refl _).alloc _)) _ (n6 : Int) rfl (by simp) (by rw [hstl]; omega) (by simp; omega) ?_; intro v7 w7 hown7 hg7 hb7; have O7 := Lib.hid hown7; have HB7 := Lib.hid hb7; have HG7 := Lib.hid hg7; clear hown7 hb7 hg7)
              go_roundg i
              case measure => omega
              case rel =>
                refine ⟨M, st ++ [n6], i, _, v7, rfl, rfl, Nat.le_refl _, Lib.hid ⟨by have := HS2.out; rw [← HN6.out] at this; exact this, by simp; omega⟩, Lib.hid ?_, Lib.hid ?_, Lib.hid ?_⟩
                · refine ((HO6.out.kept ((Kept.refl _).alloc _)).grown HG7.out fun g hg e => ?_).mono (by have h1 := HK.out.size; have h2 := HKI.out.size; have h3 := HK3.out.size; have h4 : L1.heap.size = w2.heap.size + 1 := (by rw [HL1.out]; simp); omega)
                  have h1 := (HO6.out.own_ge hg).1
                  have h2 := HOWN.out g e.symm
                  omega
                · have := O7.out
                  simpa [ofN] using this
                · exact (HKB.out.alloc _).app HB7.out
end Go.Proofs.Ytapniojbnochiaa

/-
  Walks: faultlineref05.Valid, Cut, Count, Compare.
-/
namespace Go.Proofs.Ytapniojbnochiaa
open Go.RowKit

theorem and_pred (n : Nat) : 0 < n → n &&& (n - 1) < n ∧ pc n = pc (n &&& (n - 1)) + 1 := by
  induction n using Nat.strongRecOn with
  | ind n ih =>
    intro h0
    have bits : ∀ a b : Nat, a = b ↔ a % 2 = b % 2 ∧ a / 2 = b / 2 := fun a b => by omega
    by_cases h : n % 2 = 1
    · have e : n &&& (n - 1) = n - 1 := by
        rw [bits]
        have e1 : (n &&& (n - 1)) % 2 = 0 := by
          rw [show (2 : Nat) = 2 ^ 1 from rfl, Nat.and_mod_two_pow, show (n - 1) % 2 ^ 1 = 0 by omega]; simp
        have e2 : (n &&& (n - 1)) / 2 = n / 2 := by
          rw [show (2 : Nat) = 2 ^ 1 from rfl, Nat.and_div_two_pow, show (n - 1) / 2 ^ 1 = n / 2 ^ 1 by omega, Nat.and_self]
        omega
      rw [e]
      refine ⟨by omega, ?_⟩
      rw [pc_one n, pc_one (n - 1), show (n - 1) / 2 = n / 2 by omega]
      omega
    · have h2 := ih (n / 2) (by omega) (by omega)
      have e1 : (n &&& (n - 1)) % 2 = 0 := by
        rw [show (2 : Nat) = 2 ^ 1 from rfl, Nat.and_mod_two_pow, show n % 2 ^ 1 = 0 by omega]; simp
      have e2 : (n &&& (n - 1)) / 2 = n / 2 &&& (n / 2 - 1) := by
        rw [show (2 : Nat) = 2 ^ 1 from rfl, Nat.and_div_two_pow, show (n - 1) / 2 ^ 1 = n / 2 ^ 1 - 1 by omega]
      refine ⟨by omega, ?_⟩
      rw [pc_one n, pc_one (n &&& (n - 1)), e1, e2]
      omega
theorem rcut_any {n : Nat} (h : Mk n) (w : World) : Calls Try.prog 144 #[.int .i64 n] w fun e w' => e = .returned (.int .i64 n) ∧ w = w' := by
  have hc := cut_mk h
  go_enter Try.func144, Try.ntmps144
  go_wp2
  go_ret
  exact ⟨rfl, rfl⟩
theorem rvalid_any (s : Int) (w : World) : Calls Try.prog 168 #[.int .i64 s] w fun e w' => e = .returned (.bool (decide (0 ≤ s ∧ s ≤ 16777215))) ∧ w = w' := by
  by_cases h : 0 ≤ s
  · by_cases h2 : s < 16777216
    all_goals
      go_enter Try.func168, Try.ntmps168
      go_wp2
      go_ret
      exact ⟨by congr 2; simp; omega, rfl⟩
  · go_enter Try.func168, Try.ntmps168
    go_wp2
    go_ret
    exact ⟨by congr 2; simp; omega, rfl⟩
theorem rcount_any {n : Nat} (h : Mk n) (w : World) : Calls Try.prog 145 #[.int .i64 n] w fun e w' => e = .returned (.int .i64 (pc n)) ∧ w = w' := by
  obtain ⟨r, hr⟩ : ∃ r, r = pc n := ⟨_, rfl⟩
  rw [← hr]
  have HR := Lib.hid hr
  have h' := h
  clear hr
  go_enter Try.func145, Try.ntmps145
  go_wp2_with (go_at_call 144; refine (rcut_any h' _).mono ?_; rintro e w' ⟨rfl, rfl⟩)
  go_loop [0, 3] (fun s k => ∃ m q : Nat, s = .int .i64 m ∧ k = .int .i64 q ∧ m < 16777216 ∧ q ≤ 16777216 - m ∧ Hid (pc m + q = r)) (fun s _ => (intOf s).toNat)
  case atStart => exact ⟨n, 0, rfl, rfl, h, by omega, Lib.hid (by rw [HR.out]; rfl)⟩
  case round =>
    obtain ⟨m, q, rfl, rfl, hm, hq, HI⟩ := hrel
    by_cases h0 : 0 < m
    · have hp := and_pred m h0
      have e1 : bits .and .i64 (m : Int) ((m : Int) - 1) = ((m &&& (m - 1) : Nat) : Int) := by
        rw [show (m : Int) - 1 = ((m - 1 : Nat) : Int) by omega]
        exact and_i64 _ _ (by omega) (by omega)
      have hne : ((m : Int) == 0) = false := by simp; omega
      have hne2 : ((m : Int) != 0) = true := by simp; omega
      have HP := Lib.hid hp
      clear hp
      go_wp2
      go_round
      case rel => exact ⟨m &&& (m - 1), q + 1, rfl, by go_num, by have := HP.out; omega, by have := HP.out; omega, Lib.hid (by have := HP.out; have := HI.out; omega)⟩
      case measure => have := HP.out; simp [intOf]; omega
    · obtain rfl : m = 0 := by omega
      go_wp2
      go_ret
      have hqr : q = r := by have := HI.out; rw [pc_zero] at this; omega
      exact ⟨by rw [hqr]; rfl, rfl⟩
def cmpR (a b : Nat) : Int := if a = b then 0 else if ltK a b then -1 else 1
set_option maxHeartbeats 1000000 in
theorem rcompare_any {a b : Nat} (ha : Mk a) (hb : Mk b) (w : World) : Calls Try.prog 106 #[.int .i64 a, .int .i64 b] w fun e w' => e = .returned (.int .i64 (cmpR a b)) ∧ w = w' := by
  obtain ⟨r, hr⟩ : ∃ r, r = cmpR a b := ⟨_, rfl⟩
  rw [← hr]
  obtain ⟨x, hx⟩ : ∃ x, x = pc a := ⟨_, rfl⟩
  obtain ⟨y, hy⟩ : ∃ x, x = pc b := ⟨_, rfl⟩
  have HR := Lib.hid hr
  have HA : Hid (∀ W, Calls Try.prog 145 #[.int .i64 a] W fun e w' => e = .returned (.int .i64 x) ∧ W = w') := Lib.hid (hx ▸ fun W => rcount_any ha W)
  have HB : Hid (∀ W, Calls Try.prog 145 #[.int .i64 b] W fun e w' => e = .returned (.int .i64 y) ∧ W = w') := Lib.hid (hy ▸ fun W => rcount_any hb W)
  have CA : Hid (∀ W, Calls Try.prog 144 #[.int .i64 a] W fun e w' => e = .returned (.int .i64 a) ∧ W = w') := Lib.hid fun W => rcut_any ha W
  have CB : Hid (∀ W, Calls Try.prog 144 #[.int .i64 b] W fun e w' => e = .returned (.int .i64 b) ∧ W = w') := Lib.hid fun W => rcut_any hb W
  have HX := Lib.hid hx
  have HY := Lib.hid hy
  clear hr hx hy ha hb
  by_cases e : a = b
  · have h0 : r = 0 := by rw [HR.out, cmpR, if_pos e]
    subst h0
    have ee : ((a : Int) == (b : Int)) = true := by simp; omega
    clear HX HY
    clear e
    go_enter Try.func106, Try.ntmps106
    go_wp2_with (first
      | (go_at_call_of 144 (Value.int .i64 (a : Int)); refine (CA.out _).mono ?_; rintro e w' ⟨rfl, rfl⟩)
      | (go_at_call_of 144 (Value.int .i64 (b : Int)); refine (CB.out _).mono ?_; rintro e w' ⟨rfl, rfl⟩))
    go_ret
    exact ⟨rfl, rfl⟩
  · have ee : ((a : Int) == (b : Int)) = false := by simp; omega
    have HE := Lib.hid e
    clear e
    by_cases h1 : x < y
    · have h0 : r = -1 := by rw [HR.out, cmpR, if_neg HE.out, if_pos (.inl (by rw [← HX.out, ← HY.out]; exact h1))]
      subst h0
      have h1' : (x : Int) < (y : Int) := by omega
      go_enter Try.func106, Try.ntmps106
      go_wp2_with (first
        | (go_at_call_of 144 (Value.int .i64 (a : Int)); refine (CA.out _).mono ?_; rintro e w' ⟨rfl, rfl⟩)
        | (go_at_call_of 144 (Value.int .i64 (b : Int)); refine (CB.out _).mono ?_; rintro e w' ⟨rfl, rfl⟩)
        | (go_at_call_of 145 (Value.int .i64 (a : Int)); refine (HA.out _).mono ?_; rintro e w' ⟨rfl, rfl⟩)
        | (go_at_call_of 145 (Value.int .i64 (b : Int)); refine (HB.out _).mono ?_; rintro e w' ⟨rfl, rfl⟩))
      go_ret
      exact ⟨rfl, rfl⟩
    · have h1' : ¬ (x : Int) < (y : Int) := by omega
      by_cases h2 : x = y
      · have h2' : ((x : Int) == (y : Int)) = true := by simp; omega
        by_cases h3 : a < b
        · have h0 : r = -1 := by rw [HR.out, cmpR, if_neg HE.out, if_pos (.inr ⟨by rw [← HX.out, ← HY.out]; exact h2, h3⟩)]
          subst h0
          have h3' : (a : Int) < (b : Int) := by omega
          clear HX HY h1
          clear h2
          go_enter Try.func106, Try.ntmps106
          go_wp2_with (first
            | (go_at_call_of 144 (Value.int .i64 (a : Int)); refine (CA.out _).mono ?_; rintro e w' ⟨rfl, rfl⟩)
            | (go_at_call_of 144 (Value.int .i64 (b : Int)); refine (CB.out _).mono ?_; rintro e w' ⟨rfl, rfl⟩)
            | (go_at_call_of 145 (Value.int .i64 (a : Int)); refine (HA.out _).mono ?_; rintro e w' ⟨rfl, rfl⟩)
            | (go_at_call_of 145 (Value.int .i64 (b : Int)); refine (HB.out _).mono ?_; rintro e w' ⟨rfl, rfl⟩))
          go_ret
          exact ⟨rfl, rfl⟩
        · have h0 : r = 1 := by
            rw [HR.out, cmpR, if_neg HE.out, if_neg]
            rintro (h | h)
            · rw [← HX.out, ← HY.out] at h; exact h1 h
            · exact h3 h.2
          subst h0
          have h3' : ¬ (a : Int) < (b : Int) := by omega
          clear HX HY h1
          clear h2
          go_enter Try.func106, Try.ntmps106
          go_wp2_with (first
            | (go_at_call_of 144 (Value.int .i64 (a : Int)); refine (CA.out _).mono ?_; rintro e w' ⟨rfl, rfl⟩)
            | (go_at_call_of 144 (Value.int .i64 (b : Int)); refine (CB.out _).mono ?_; rintro e w' ⟨rfl, rfl⟩)
            | (go_at_call_of 145 (Value.int .i64 (a : Int)); refine (HA.out _).mono ?_; rintro e w' ⟨rfl, rfl⟩)
            | (go_at_call_of 145 (Value.int .i64 (b : Int)); refine (HB.out _).mono ?_; rintro e w' ⟨rfl, rfl⟩))
          go_ret
          exact ⟨rfl, rfl⟩
      · have h2' : ((x : Int) == (y : Int)) = false := by simp; omega
        have h0 : r = 1 := by
          rw [HR.out, cmpR, if_neg HE.out, if_neg]
          rintro (h | h)
          · rw [← HX.out, ← HY.out] at h; exact h1 h
          · rw [← HX.out, ← HY.out] at h; exact h2 h.1
        subst h0
        clear HX HY h1
        clear h2
        go_enter Try.func106, Try.ntmps106
        go_wp2_with (first
          | (go_at_call_of 144 (Value.int .i64 (a : Int)); refine (CA.out _).mono ?_; rintro e w' ⟨rfl, rfl⟩)
          | (go_at_call_of 144 (Value.int .i64 (b : Int)); refine (CB.out _).mono ?_; rintro e w' ⟨rfl, rfl⟩)
          | (go_at_call_of 145 (Value.int .i64 (a : Int)); refine (HA.out _).mono ?_; rintro e w' ⟨rfl, rfl⟩)
          | (go_at_call_of 145 (Value.int .i64 (b : Int)); refine (HB.out _).mono ?_; rintro e w' ⟨rfl, rfl⟩))
        go_ret
        exact ⟨rfl, rfl⟩
end Go.Proofs.Ytapniojbnochiaa

/-
  Walks: faultlineref05.Sort.
-/
namespace Go.Proofs.Ytapniojbnochiaa
open Go.RowKit

theorem IntsAt.take {w : World} {a : Option Addr} {c : Nat} {xs : List Int} (h : IntsAt w (.slice a xs.length c) xs) (k : Nat) (hk : k ≤ xs.length) : IntsAt w (.slice a k c) (xs.take k) := by
  obtain ⟨a', c', h1, ⟨h0, hn⟩, h2, h3⟩ := h
  cases h1
  refine ⟨a, c, by simp [Nat.min_eq_left hk], ⟨by simp; omega, hn⟩, by simp; omega, fun i hi => ?_⟩
  simp only [List.length_take] at hi
  obtain ⟨b, o, h4, h5⟩ := h3 i (by omega)
  exact ⟨b, o, h4, by simpa using h5⟩
theorem IntsAt.drop {w : World} {b o c : Nat} {xs : List Int} (h : IntsAt w (.slice (some ⟨b, o, none⟩) xs.length c) xs) (k : Nat) (hk : k ≤ xs.length) : IntsAt w (.slice (some ⟨b, o + k, none⟩) (xs.length - k) (c - k)) (xs.drop k) := by
  obtain ⟨a', c', h1, ⟨h0, hn⟩, h2, h3⟩ := h
  cases h1
  refine ⟨some ⟨b, o + k, none⟩, c - k, by simp, ⟨by simp; omega, fun h => by cases h⟩, by simp; omega, fun i hi => ?_⟩
  simp only [List.length_drop] at hi
  obtain ⟨b', o', h4, h5⟩ := h3 (k + i) (by omega)
  cases h4
  exact ⟨b, o + k, rfl, by simpa [Nat.add_assoc] using h5⟩
theorem SetsAt.take {w : World} {a : Option Addr} {c : Nat} {ns : List Nat} (h : SetsAt w (.slice a ns.length c) ns) (k : Nat) (hk : k ≤ ns.length) : SetsAt w (.slice a k c) (ns.take k) := by
  refine ⟨?_, fun n hn => h.2 n (List.mem_of_mem_take hn)⟩
  have := IntsAt.take (xs := ofN ns) (by simpa using h.1) k (by simpa using hk)
  simpa [ofN, List.map_take] using this
theorem SetsAt.drop {w : World} {b o c : Nat} {ns : List Nat} (h : SetsAt w (.slice (some ⟨b, o, none⟩) ns.length c) ns) (k : Nat) (hk : k ≤ ns.length) : SetsAt w (.slice (some ⟨b, o + k, none⟩) (ns.length - k) (c - k)) (ns.drop k) := by
  refine ⟨?_, fun n hn => h.2 n (List.mem_of_mem_drop hn)⟩
  have := IntsAt.drop (xs := ofN ns) (by simpa using h.1) k (by simpa using hk)
  simpa [ofN, List.map_drop] using this
theorem SetsAt.shape {w : World} {v : Value} {ns : List Nat} (h : SetsAt w v ns) : ∃ a c, v = .slice a ns.length c ∧ ns.length ≤ c ∧ (ns ≠ [] → ∃ b o, a = some ⟨b, o, none⟩) := by
  obtain ⟨⟨a, c, h1, ⟨h0, _⟩, _, h3⟩, _⟩ := h
  refine ⟨a, c, by simpa using h1, by simpa using h0, fun hne => ?_⟩
  have : 0 < (ofN ns).length := by simpa using List.length_pos_iff.2 hne
  obtain ⟨b, o, h4, _⟩ := h3 0 this
  exact ⟨b, o, h4⟩

def lenV : Value → Nat | .slice _ n _ => n | _ => 0
/-- What a merge has taken, and what is left. -/
structure MInv (ns zs xs ys : List Nat) : Prop where
  left : (zs ++ xs).Pairwise ltK
  right : (zs ++ ys).Pairwise ltK
  mem : ∀ z, z ∈ ns ↔ z ∈ zs ∨ z ∈ xs ∨ z ∈ ys
  len : zs.length + xs.length + ys.length ≤ ns.length
theorem MInv.start (ns : List Nat) (h : Nat) : MInv ns [] (sortK (ns.take h)) (sortK (ns.drop h)) := by
  refine ⟨by simpa using pair_sortK _, by simpa using pair_sortK _, fun z => ?_, ?_⟩
  · rw [mem_sortK, mem_sortK]
    have := List.mem_append (a := z) (s := ns.take h) (t := ns.drop h)
    rw [List.take_append_drop] at this
    simpa using this
  · have h1 := len_sortK (ns.take h)
    have h2 := len_sortK (ns.drop h)
    simp at h1 h2 ⊢
    omega
theorem MInv.eq {ns zs xs ys : List Nat} {x : Nat} (h : MInv ns zs (x :: xs) (x :: ys)) : MInv ns (zs ++ [x]) xs ys :=
  ⟨by simpa using h.left, by simpa using h.right, fun z => by rw [h.mem]; simp only [List.mem_append, List.mem_cons, List.not_mem_nil]; grind, by have := h.len; simp at this ⊢; omega⟩
theorem MInv.lt {ns zs xs ys : List Nat} {x y : Nat} (h : MInv ns zs (x :: xs) (y :: ys)) (hl : ltK x y) : MInv ns (zs ++ [x]) xs (y :: ys) := by
  refine ⟨by simpa using h.left, ?_, fun z => by rw [h.mem]; simp only [List.mem_append, List.mem_cons, List.not_mem_nil]; grind, by have := h.len; simp at this ⊢; omega⟩
  have h1 := List.pairwise_append.1 h.left
  have h2 := List.pairwise_append.1 h.right
  rw [List.pairwise_append]
  refine ⟨?_, h2.2.1, ?_⟩
  · rw [List.pairwise_append]; exact ⟨h1.1, by simp, fun a ha b hb => by simp at hb; subst hb; exact h1.2.2 a ha b (List.mem_cons_self ..)⟩
  · intro a ha b hb
    rcases List.mem_append.1 ha with ha | ha
    · exact h2.2.2 a ha b hb
    · simp at ha; subst ha
      rcases List.mem_cons.1 hb with e | e
      · rw [e]; exact hl
      · exact ltK_tr _ _ _ hl ((List.pairwise_cons.1 h2.2.1).1 b e)
theorem MInv.symm {ns zs xs ys : List Nat} (h : MInv ns zs xs ys) : MInv ns zs ys xs :=
  ⟨h.right, h.left, fun z => by rw [h.mem]; constructor <;> (intro h; rcases h with h | h | h <;> simp_all), by have := h.len; omega⟩
theorem MInv.gt {ns zs xs ys : List Nat} {x y : Nat} (h : MInv ns zs (x :: xs) (y :: ys)) (hl : ltK y x) : MInv ns (zs ++ [y]) (x :: xs) ys := (h.symm.lt hl).symm
theorem MInv.doneL {ns zs ys : List Nat} (h : MInv ns zs [] ys) : zs ++ [] ++ ys = sortK ns := by
  rw [List.append_nil]
  exact sortK_unique ns _ h.right fun x => by rw [h.mem]; simp
theorem MInv.doneR {ns zs xs : List Nat} (h : MInv ns zs xs []) : zs ++ xs ++ [] = sortK ns := by
  rw [List.append_nil]
  exact sortK_unique ns _ h.left fun x => by rw [h.mem]; simp
theorem MInv.masks {ns zs xs ys : List Nat} (h : MInv ns zs xs ys) (hm : ∀ n ∈ ns, Mk n) : (∀ n ∈ zs, Mk n) ∧ (∀ n ∈ xs, Mk n) ∧ ∀ n ∈ ys, Mk n :=
  ⟨fun n hn => hm n ((h.mem n).2 (.inl hn)), fun n hn => hm n ((h.mem n).2 (.inr (.inl hn))), fun n hn => hm n ((h.mem n).2 (.inr (.inr hn)))⟩
/-- l[1:] of a list with a head. -/
abbrev restV (b o n c : Nat) : Value := .slice (if c = 1 then some ⟨b, o, none⟩ else some ⟨b, o + 1, none⟩) n (c - 1)
theorem SetsAt.rest {w : World} {b o c : Nat} {x : Nat} {xs : List Nat} (h : SetsAt w (.slice (some ⟨b, o, none⟩) (xs.length + 1) c) (x :: xs)) : SetsAt w (restV b o xs.length c) xs := by
  have h1 := SetsAt.drop (ns := x :: xs) h 1 (by simp)
  unfold restV
  obtain ⟨a', c', h2, h3, _⟩ := h.shape
  cases h2
  by_cases hc : c = 1
  · rw [if_pos hc]
    have : xs = [] := List.eq_nil_of_length_eq_zero (by simp at h3; omega)
    subst this
    subst hc
    exact ⟨⟨_, 0, rfl, ⟨by simp, fun h => by cases h⟩, by simp, fun i hi => by simp at hi⟩, by simp⟩
  · rw [if_neg hc]
    simpa using h1
theorem SetsAt.head {w : World} {b o c m : Nat} {x : Nat} {xs : List Nat} (h : SetsAt w (.slice (some ⟨b, o, none⟩) m c) (x :: xs)) : w.cell? ⟨b, o, none⟩ = some (.int .i64 x) := by
  obtain ⟨⟨a', c', h2, _, _, h3⟩, _⟩ := h
  obtain ⟨b', o', h4, h5⟩ := h3 0 (by simp)
  cases h2
  cases h4
  simpa using h5
theorem sorted_small {ns : List Nat} (h : ns.length < 2) : sortK ns = ns := by
  match ns, h with
  | [], _ => rfl
  | [x], _ => rfl
theorem own_empty (w : World) (B : Nat) (hB : B ≤ w.heap.size) : OwnInts (w.alloc (.cells #[] 3)) B (.slice (some ⟨w.heap.size, 0, none⟩) 0 0) [] :=
  ⟨⟨by simp, .inr ⟨w.heap.size, 0, #[], rfl, hB, heap_alloc_new w _, Nat.le_refl _, by unfold maxLen; omega, by simp, by simp⟩⟩, by simp⟩
set_option maxRecDepth 100000 in
set_option maxHeartbeats 4000000 in
theorem rsort_any : ∀ (k : Nat) (ns : List Nat) (v : Value) (w : World), ns.length ≤ k → SetsAt w v ns → ns.length ≤ 8796093022208 →
    Calls Try.prog 71 #[v] w fun e w' => (∃ v', e = .returned v' ∧ OwnSets w' 0 v' (sortK ns)) ∧ Kept w w' := by
  intro k
  induction k using Nat.strongRecOn with
  | ind k ih =>
    intro ns v w hk hv hl
    obtain ⟨a, c, rfl, hc, hne⟩ := hv.shape
    by_cases h2 : ns.length < 2
    · have h2' : (ns.length : Int) < 2 := by omega
      have HV := Lib.hid hv
      have HS := Lib.hid (sorted_small h2)
      clear ih hne hv h2
      go_enter Try.func71, Try.ntmps71
      go_wp2_with (at_builtin; refine app_ints rfl _ _ rfl w.heap.size _ [] rfl (own_empty w _ (Nat.le_refl _)) _ (ofN ns) rfl (HV.out.1.kept ((Kept.refl _).alloc _)) (by simp; omega) (by simp) ?_; intro v7 w7 hown7 _ hb7; have O7 := Lib.hid hown7; have HB7 := Lib.hid hb7; clear hown7 hb7)
      go_ret
      exact ⟨⟨_, rfl, ⟨by rw [HS.out]; simpa using O7.out.mono (Nat.zero_le _), by rw [HS.out]; exact HV.out.2⟩⟩, ((Kept.refl _).alloc _).app HB7.out⟩
    · obtain ⟨b, o, rfl⟩ := hne (fun e => by subst e; simp at h2)
      obtain ⟨h, hh⟩ : ∃ h, h = ns.length / 2 := ⟨_, rfl⟩
      have hT := hv.take h (by omega)
      have hD := hv.drop h (by omega)
      obtain ⟨n, hn⟩ : ∃ n, n = ns.length := ⟨_, rfl⟩
      rw [← hn] at hk hl hc h2 hD hh ⊢
      have HIH := Lib.hid ih
      have HT := Lib.hid hT
      have HD := Lib.hid hD
      have HN := Lib.hid hn
      have hv2 := Lib.hid hv.2
      have HL : Hid (∀ W, Kept w W → Calls Try.prog 71 #[.slice (some ⟨b, o, none⟩) h c] W fun e w' => (∃ v', e = .returned v' ∧ OwnSets w' 0 v' (sortK (ns.take h))) ∧ Kept W w') :=
        Lib.hid fun W hW => HIH.out h (by omega) (ns.take h) _ W (by simp; omega) (HT.out.kept hW) (by simp; omega)
      have HR : Hid (∀ W, Kept w W → Calls Try.prog 71 #[.slice (some ⟨b, o + h, none⟩) (n - h) (c - h)] W fun e w' => (∃ v', e = .returned v' ∧ OwnSets w' 0 v' (sortK (ns.drop h))) ∧ Kept W w') :=
        Lib.hid fun W hW => HIH.out (n - h) (by omega) (ns.drop h) _ W (by have := HN.out; simp; omega) (HD.out.kept hW) (by have := HN.out; simp; omega)
      have hq1 : Int.tdiv (n : Int) 2 = (h : Int) := by rw [Int.tdiv_eq_ediv_of_nonneg (by omega)]; omega
      have hq2 : (n : Int) / 2 = (h : Int) := by omega
      have hq3 : IntKind.i64.wrap (h : Int) = (h : Int) := by rw [IntKind.wrap_i64]; omega
      have hb1 : (0 : Int) ≤ (h : Int) := by omega
      have hb2 : (h : Int) ≤ (n : Int) := by omega
      have hb3 : (h : Int) ≤ (c : Int) := by omega
      have hb4 : (n : Int) ≤ (c : Int) := by omega
      have h2' : ¬ (n : Int) < 2 := by omega
      have hcn : h ≠ c := by omega
      clear hT hD hn hv ih hne hh h2
      go_enter Try.func71, Try.ntmps71
      go_upto_region 3 with fail
      go_cut [3, 4] (fun va vb wx => SetsAt wx va (sortK (ns.take h)) ∧ SetsAt wx vb (sortK (ns.drop h)) ∧ Kept w wx)
      case first =>
        go_region_held3 (fun _ => True) (trivial)
          (first
            | (go_at_call_of 71 (Value.slice (some ⟨b, o, none⟩) h c); refine (HL.out _ (by first | exact (Kept.refl _).drew | exact (Kept.refl _).drew.trans hk6)).mono ?_; rintro e w5 ⟨⟨va, rfl, hoa⟩, hk5⟩)
            | (go_at_call 71; refine (HR.out _ (by first | exact (Kept.refl _).drew | exact (Kept.refl _).drew.trans hk5)).mono ?_; rintro e w6 ⟨⟨vb, rfl, hob⟩, hk6⟩))
        all_goals (go_wp2_with fail; go_meet; exact ⟨hoa.sets.kept hk6, hob.sets, ((Kept.refl _).drew.trans hk5).trans hk6⟩)
      case rest =>
        obtain ⟨hA, hB, hK⟩ := hcut
        have HA := Lib.hid hA
        have HB := Lib.hid hB
        have HK := Lib.hid hK
        clear hA hB hK
        clear hq1 hq2 hq3 hb1 hb2 hb3 hb4 hcn HIH HT HD HL HR hk
        go_wp2_with fail
        obtain ⟨wo, rfl⟩ : ∃ wo : World, wo = wc := ⟨_, rfl⟩
        go_loopw [3, 4, 5, 6] (fun va vb vo _ wr => ∃ (xs ys zs : List Nat), Hid (SetsAt wo va xs ∧ SetsAt wo vb ys ∧ MInv ns zs xs ys) ∧ OwnInts wr wo.heap.size vo (ofN zs) ∧ Kept wo wr) (fun va vb _ _ _ => lenV va + lenV vb)
        case atStart => exact ⟨_, _, [], Lib.hid ⟨HA.out, HB.out, MInv.start ns h⟩, OwnInts.nil _ _, Kept.refl _⟩
        case round =>
          obtain ⟨xs, ys, zs, HI, hO, hKr⟩ := hrel
          have HO := Lib.hid hO
          have HKr := Lib.hid hKr
          have hlen := HI.out.2.2.len
          rw [← HN.out] at hlen
          have hmk := HI.out.2.2.masks (fun m hm => hv2.out m hm)
          have HM := Lib.hid hmk
          have hsz := hKr.size
          clear hO hKr hmk
          match xs, ys with
          | [], ys =>
            have HA2 := Lib.hid HI.out.1
            have HB2 := Lib.hid HI.out.2.1
            have HMI := Lib.hid HI.out.2.2
            clear HI HM
            obtain ⟨aa, ca, rfl, hca, hna⟩ := HA2.out.shape
            obtain ⟨ab, cb, rfl, hcb, hnb⟩ := HB2.out.shape
            simp only [List.length_nil] at HA2 hca hlen ⊢
            clear hna hnb
            go_wp2_with (first
              | (at_builtin; refine app_ints rfl _ _ rfl wo.heap.size _ (ofN zs) rfl HO.out _ (ofN []) rfl (HA2.out.1.kept HKr.out) (by simp; omega) hsz ?_; intro v7 w7 hown7 _ hb7; have O7 := Lib.hid hown7; have HB7 := Lib.hid hb7; clear hown7 hb7)
              | (at_builtin; refine app_ints rfl _ _ rfl wo.heap.size _ (ofN zs ++ ofN []) rfl O7.out _ (ofN ys) rfl (HB2.out.1.kept (HKr.out.app HB7.out)) (by simp; omega) (by have := (HKr.out.app HB7.out).size; omega) ?_; intro v8 w8 hown8 _ hb8; have O8 := Lib.hid hown8; have HB8 := Lib.hid hb8; clear hown8 hb8))
            go_ret
            refine ⟨⟨_, rfl, ⟨?_, fun z hz => hv2.out z ((mem_sortK ns z).1 hz)⟩⟩, HK.out.trans ((HKr.out.app HB7.out).app HB8.out)⟩
            have := O8.out
            rw [← List.map_append, ← List.map_append, HMI.out.doneL] at this
            exact this.mono (Nat.zero_le _)
          | x :: xs, [] =>
            have HA2 := Lib.hid HI.out.1
            have HB2 := Lib.hid HI.out.2.1
            have HMI := Lib.hid HI.out.2.2
            clear HI HM
            obtain ⟨aa, ca, rfl, hca, hna⟩ := HA2.out.shape
            obtain ⟨ab, cb, rfl, hcb, hnb⟩ := HB2.out.shape
            simp only [List.length_nil, List.length_cons] at HA2 HB2 hca hcb hlen ⊢
            have hp1 : (0 : Int) < ((xs.length + 1 : Nat) : Int) := by omega
            clear hna hnb
            go_wp2_with (first
              | (at_builtin; refine app_ints rfl _ _ rfl wo.heap.size _ (ofN zs) rfl HO.out _ (ofN (x :: xs)) rfl (HA2.out.1.kept HKr.out) (by simp; omega) hsz ?_; intro v7 w7 hown7 _ hb7; have O7 := Lib.hid hown7; have HB7 := Lib.hid hb7; clear hown7 hb7)
              | (at_builtin; refine app_ints rfl _ _ rfl wo.heap.size _ (ofN zs ++ ofN (x :: xs)) rfl O7.out _ (ofN []) rfl (HB2.out.1.kept (HKr.out.app HB7.out)) (by simp; omega) (by have := (HKr.out.app HB7.out).size; omega) ?_; intro v8 w8 hown8 _ hb8; have O8 := Lib.hid hown8; have HB8 := Lib.hid hb8; clear hown8 hb8))
            go_ret
            refine ⟨⟨_, rfl, ⟨?_, fun z hz => hv2.out z ((mem_sortK ns z).1 hz)⟩⟩, HK.out.trans ((HKr.out.app HB7.out).app HB8.out)⟩
            have := O8.out
            rw [← List.map_append, ← List.map_append, HMI.out.doneR] at this
            exact this.mono (Nat.zero_le _)
          | x :: xs, y :: ys =>
            have HA2 := Lib.hid HI.out.1
            have HB2 := Lib.hid HI.out.2.1
            have HMI := Lib.hid HI.out.2.2
            have mx : Mk x := HM.out.2.1 x (List.mem_cons_self ..)
            have my : Mk y := HM.out.2.2 y (List.mem_cons_self ..)
            clear HI HM
            obtain ⟨aa, ca, rfl, hca, hna⟩ := HA2.out.shape
            obtain ⟨ab, cb, rfl, hcb, hnb⟩ := HB2.out.shape
            obtain ⟨ba, oa, rfl⟩ := hna (by simp)
            obtain ⟨bb, ob, rfl⟩ := hnb (by simp)
            simp only [List.length_cons] at HA2 HB2 hca hcb hlen ⊢
            have c1 := HKr.out.cell HA2.out.head
            have c2 := HKr.out.cell HB2.out.head
            clear hna hnb
            have hp1 : (0 : Int) < ((xs.length + 1 : Nat) : Int) := by omega
            have hp2 : (0 : Int) < ((ys.length + 1 : Nat) : Int) := by omega
            have hp3 : (1 : Int) ≤ ((xs.length + 1 : Nat) : Int) := by omega
            have hp4 : (1 : Int) ≤ ((ys.length + 1 : Nat) : Int) := by omega
            have hp5 : (1 : Int) ≤ (ca : Int) := by omega
            have hp6 : (1 : Int) ≤ (cb : Int) := by omega
            have hcmp : ∀ W, Calls Try.prog 106 #[.int .i64 x, .int .i64 y] W fun e w' => e = .returned (.int .i64 (cmpR x y)) ∧ w' = W := fun W => (rcompare_any mx my W).mono fun _ _ ⟨h1, h2⟩ => ⟨h1, h2.symm⟩
            by_cases hxy : x = y
            · rw [show cmpR x y = 0 from if_pos hxy] at hcmp
              subst hxy
              have HC := Lib.hid hcmp
              clear hcmp
              go_wp2_with fail
              go_quiet ((go_at_call 106; exact Calls.quiet_of_same (HC.out _)))
              generalize HWQ : World.drewN wr _ = wq
              have HKq : Hid (Kept wr wq) := Lib.hid (by rw [← HWQ]; exact (Kept.refl _).drewN _)
              have HSq : wo.heap.size ≤ wq.heap.size := by have := HKq.out.size; omega
              have d1 := HKq.out.cell c1
              have d2 := HKq.out.cell c2
              clear HWQ c1 c2
              go_wp2_with (at_builtin; refine app_int rfl _ _ rfl wo.heap.size _ (ofN zs) rfl (HO.out.kept (HKq.out.alloc _)) _ (x : Int) rfl (by simp) (by simp; omega) (by simp; omega) ?_; intro v7 w7 hown7 _ hb7; have O7 := Lib.hid hown7; have HB7 := Lib.hid hb7; clear hown7 hb7)
              go_roundw
              case rel => exact ⟨xs, ys, zs ++ [x], Lib.hid ⟨HA2.out.rest, HB2.out.rest, HMI.out.eq⟩, by simpa [ofN] using O7.out, ((HKr.out.trans (HKq.out.alloc _)).app HB7.out)⟩
              case measure => simp [lenV]; try omega
            · by_cases hlt : ltK x y
              · rw [show cmpR x y = -1 by unfold cmpR; rw [if_neg hxy, if_pos hlt]] at hcmp
                have HC := Lib.hid hcmp
                have HXY := Lib.hid hlt
                clear hcmp hlt hxy
                go_wp2_with fail
                go_quiet ((go_at_call 106; exact Calls.quiet_of_same (HC.out _)))
                generalize HWQ : World.drewN wr _ = wq
                have HKq : Hid (Kept wr wq) := Lib.hid (by rw [← HWQ]; exact (Kept.refl _).drewN _)
                have HSq : wo.heap.size ≤ wq.heap.size := by have := HKq.out.size; omega
                have d1 := HKq.out.cell c1
                have d2 := HKq.out.cell c2
                clear HWQ c1 c2
                go_wp2_with (at_builtin; refine app_int rfl _ _ rfl wo.heap.size _ (ofN zs) rfl (HO.out.kept (HKq.out.alloc _)) _ (x : Int) rfl (by simp) (by simp; omega) (by simp; omega) ?_; intro v7 w7 hown7 _ hb7; have O7 := Lib.hid hown7; have HB7 := Lib.hid hb7; clear hown7 hb7)
                go_roundw
                case rel => exact ⟨xs, y :: ys, zs ++ [x], Lib.hid ⟨HA2.out.rest, HB2.out, HMI.out.lt HXY.out⟩, by simpa [ofN] using O7.out, ((HKr.out.trans (HKq.out.alloc _)).app HB7.out)⟩
                case measure => simp [lenV]; try omega
              · rw [show cmpR x y = 1 by unfold cmpR; rw [if_neg hxy, if_neg hlt]] at hcmp
                have HC := Lib.hid hcmp
                have hgt : ltK y x := by rcases ltK_total x y with h | h | h; exact absurd h hlt; exact absurd h hxy; exact h
                have HXY := Lib.hid hgt
                clear hcmp hlt hxy hgt
                go_wp2_with fail
                go_quiet ((go_at_call 106; exact Calls.quiet_of_same (HC.out _)))
                generalize HWQ : World.drewN wr _ = wq
                have HKq : Hid (Kept wr wq) := Lib.hid (by rw [← HWQ]; exact (Kept.refl _).drewN _)
                have HSq : wo.heap.size ≤ wq.heap.size := by have := HKq.out.size; omega
                have d1 := HKq.out.cell c1
                have d2 := HKq.out.cell c2
                clear HWQ c1 c2
                go_wp2_with (at_builtin; refine app_int rfl _ _ rfl wo.heap.size _ (ofN zs) rfl (HO.out.kept (HKq.out.alloc _)) _ (y : Int) rfl (by simp) (by simp; omega) (by simp; omega) ?_; intro v7 w7 hown7 _ hb7; have O7 := Lib.hid hown7; have HB7 := Lib.hid hb7; clear hown7 hb7)
                go_roundw
                case rel => exact ⟨x :: xs, ys, zs ++ [y], Lib.hid ⟨HA2.out, HB2.out.rest, HMI.out.gt HXY.out⟩, by simpa [ofN] using O7.out, ((HKr.out.trans (HKq.out.alloc _)).app HB7.out)⟩
                case measure => simp [lenV]; try omega
end Go.Proofs.Ytapniojbnochiaa

/-
  Walks: family.Covers, family.Check; slices.Equal of equal lists.
-/
namespace Go.Proofs.Ytapniojbnochiaa
open Go.RowKit

theorem equal_true (xs : List Int) (va vb : Value) (w : World) (ha : IntsAt w va xs) (hb : IntsAt w vb xs) : Calls Try.prog 78 #[va, vb] w fun e w' => e = .returned (.bool true) ∧ Kept w w' := by
  obtain ⟨aa, ca, rfl, _, hla, hca⟩ := ha
  obtain ⟨ab, cb, rfl, _, hlb, hcb⟩ := hb
  by_cases h0 : xs = []
  · subst h0
    exact (Go.Proofs.Try.slices_Equal_int_empty aa ab ca 0 cb w (by omega)).mono fun e w' ⟨h1, h2⟩ => ⟨h1, by subst h2; exact Kept.refl _⟩
  · have hp : 0 < xs.length := List.length_pos_iff.2 h0
    obtain ⟨b1, o1, rfl, _⟩ := hca 0 hp
    obtain ⟨b2, o2, rfl, _⟩ := hcb 0 hp
    refine (Go.Proofs.Try.slices_Equal_int b1 o1 xs.length ca b2 o2 xs.length cb xs xs w (Nat.le_refl _) (Nat.le_refl _) (by omega) (by omega) ?_ ?_).mono fun e w' ⟨h1, q, h2⟩ => ⟨by rw [h1]; simp, by subst h2; exact (Kept.refl _).drewN _⟩
    · intro j hj
      obtain ⟨b, o, h1, h2⟩ := hca j hj
      cases h1
      rw [h2]; simp [hj]
    · intro j hj
      obtain ⟨b, o, h1, h2⟩ := hcb j hj
      cases h1
      rw [h2]; simp [hj]
theorem decides_cov (s : Int) (B : Nat) (w : World) (hc : w.cell? ⟨B, 0, none⟩ = some (.int .i64 s)) : Decides 77 #[.pointer (some ⟨B, 0, none⟩)] (fun t => subB t s) w := by
  intro W x hK
  have hc' := hK.cell hc
  clear hc
  go_enter Try.func77, Try.ntmps77
  go_wp2_with (go_at_call 44; refine (subset_any _ _ _).mono ?_; rintro e w' ⟨rfl, rfl⟩)
  go_ret
  exact ⟨rfl, Kept.refl _⟩
def covB (l : List Nat) (s : Nat) : Bool := l.any fun t => subN t s
theorem covB_up (l : List Nat) (s : Nat) : covB l s = true ↔ up l s := by
  unfold covB up; rw [List.any_eq_true]
theorem cov_ofN {ns : List Nat} {s : Nat} (hm : ∀ n ∈ ns, Mk n) (hs : Mk s) : (ofN ns).any (fun t => subB t (s : Int)) = covB ns s := by
  unfold covB
  induction ns with
  | nil => rfl
  | cons n ns ih =>
    simp only [ofN, List.map_cons, List.any_cons] at ih ⊢
    rw [ih fun x hx => hm x (List.mem_cons_of_mem _ hx), subB_subN (hm n (List.mem_cons_self ..)) hs]
set_option maxHeartbeats 1000000 in
theorem covers_any (va : Value) (ns : List Nat) (s : Nat) (w : World) (hv : SetsAt w va ns) (hs : Mk s) (hl : ns.length ≤ 1024) :
    Calls Try.prog 39 #[va, .int .i64 s] w fun e w' => e = .returned (.tuple #[.bool (covB ns s), .nilIface]) ∧ Kept w w' := by
  have HL : Hid (Calls Try.prog 64 #[.slice (some ⟨w.heap.size + 1, 0, none⟩) 1 1] ((w.alloc (.cells #[.int .i64 s] 3)).alloc (.cells #[va] 27)) fun e w' => e = .returned .nilIface ∧ Kept (w.alloc (.cells #[.int .i64 s] 3)) w') := Lib.hid (by
    have := lists1 ns va (w.alloc (.cells #[.int .i64 s] 3)) (hv.kept ((Kept.refl _).alloc _))
    rw [if_pos hl, errV_zero, World.size_alloc] at this
    exact this)
  have HV : Hid (∀ W, Calls Try.prog 65 #[.int .i64 s] W fun e w' => e = .returned (.bool true) ∧ W = w') := Lib.hid fun W => valid_yes (by unfold Mk at hs; omega) W
  obtain ⟨r, hr⟩ : ∃ r, r = covB ns s := ⟨_, rfl⟩
  rw [← hr]
  have hr2 := (cov_ofN hv.2 hs).trans hr.symm
  have HR := Lib.hid hr2
  have HS := Lib.hid hv
  obtain ⟨a, c, rfl, _, _⟩ := hv.shape
  clear hv hs hl hr hr2
  go_enter Try.func39, Try.ntmps39
  go_wp2_with fail
  refine HL.out.mono ?_
  rintro e w1 ⟨rfl, hk1⟩
  have c0 := hk1.cell (p := ⟨w.heap.size, 0, none⟩) (v := .int .i64 s) (by simp)
  go_wp2_with (first
    | (go_at_call 65; refine (HV.out _).mono ?_; rintro e w2 ⟨rfl, rfl⟩)
    | (go_at_call 76; refine (has_any _ _ (enters_of Try.func77 (by kernel_rfl) rfl) _ _ (ofN ns) _ (decides_cov s _ _ c0) ((HS.out.kept (((Kept.refl _).alloc _).trans hk1)).1)).mono ?_; rintro e w2 ⟨rfl, hK2⟩; rw [HR.out]))
  go_ret2
  exact ⟨rfl, (((Kept.refl _).alloc _).trans hk1).trans hK2⟩
theorem sortK_can {l : List Nat} (h : Can l) : sortK l = l := (sortK_unique l l (by rw [← h]; exact pair_minK l) fun _ => Iff.rfl).symm
set_option maxHeartbeats 1000000 in
theorem fcheck_good (va : Value) (ns : List Nat) (w : World) (hv : SetsAt w va ns) (hg : Good ns) :
    Calls Try.prog 40 #[va] w fun e w' => e = .returned .nilIface ∧ Kept w w' := by
  have hl := hg.2
  have HL : Hid (Calls Try.prog 64 #[.slice (some ⟨w.heap.size, 0, none⟩) 1 1] (w.alloc (.cells #[va] 27)) fun e w' => e = .returned .nilIface ∧ Kept w w') := Lib.hid (by
    have := lists1 ns va w hv
    rw [if_pos hl, errV_zero] at this
    exact this)
  have HS : Hid (∀ W, Kept w W → Calls Try.prog 79 #[va] W fun e w' => (∃ v', e = .returned v' ∧ IntsAt w' v' (ofN ns)) ∧ Kept W w') := Lib.hid fun W hk => by
    refine (sorted_any va ns W hv.2 (hv.kept hk).1 (by omega)).mono ?_
    rintro e w' ⟨v', h1, h2, h3⟩
    rw [sortK_can hg.1] at h2
    exact ⟨⟨v', h1, h2.ints⟩, h3⟩
  have HM : Hid (∀ W, Kept w W → Calls Try.prog 66 #[va] W fun e w' => (∃ v', e = .returned v' ∧ SetsAt w' v' ns) ∧ Kept W w') := Lib.hid fun W hk => by
    refine (minimalS_any va ns W (hv.kept hk) (by omega)).mono ?_
    rintro e w' ⟨v', h1, h2, h3⟩
    rw [hg.1] at h2
    exact ⟨⟨v', h1, h2.sets⟩, h3⟩
  have HV := Lib.hid hv
  obtain ⟨a, c, rfl, _, _⟩ := hv.shape
  clear hv hg hl
  go_enter Try.func40, Try.ntmps40
  go_wp2_with fail
  refine HL.out.mono ?_
  rintro e w1 ⟨rfl, hk1⟩
  have K1 := Lib.hid hk1
  clear hk1
  go_wp2_with (first
    | (go_at_call 79; refine (HS.out _ K1.out).mono ?_; rintro e w2 ⟨⟨v2, rfl, hv2⟩, hk2⟩; have HV2 := Lib.hid hv2; have K2 := Lib.hid (K1.out.trans hk2); clear hv2 hk2)
    | (go_at_call 78; refine (equal_true (ofN ns) _ _ _ ((HV.out.kept K2.out).1) HV2.out).mono ?_; rintro e w3 ⟨rfl, hk3⟩; have K3 := Lib.hid (K2.out.trans hk3); clear hk3)
    | (go_at_call 66; refine (HM.out _ K3.out).mono ?_; rintro e w4 ⟨⟨v4, rfl, hv4⟩, hk4⟩; obtain ⟨a4, c4, rfl, _, _⟩ := hv4.shape; have K4 := Lib.hid (K3.out.trans hk4); clear hk4 hv4))
  go_ret
  exact ⟨rfl, K4.out⟩
end Go.Proofs.Ytapniojbnochiaa

/-
  Walks: topdown.Cuts, topdown.Steps.
-/
namespace Go.Proofs.Ytapniojbnochiaa
open Go.RowKit

theorem nodup_perm {R : List Nat} : ∀ {l : List Nat}, R.Nodup → (∀ x ∈ R, x ∈ l) → l.length ≤ R.length → l.Perm R := by
  induction R with
  | nil => intro l _ _ hl; simp at hl; subst hl; exact .refl _
  | cons x R ih =>
    intro l hn hs hl
    have hx : x ∈ l := hs x (List.mem_cons_self ..)
    have h1 := List.perm_cons_erase hx
    have h2 := ih (l := l.erase x) (List.nodup_cons.1 hn).2 (fun y hy => (List.mem_erase_of_ne (fun e => (List.nodup_cons.1 hn).1 (by rw [← e]; exact hy))).2 (hs y (List.mem_cons_of_mem _ hy))) (by rw [List.length_erase_of_mem hx]; simp at hl; omega)
    exact h1.trans (h2.cons x)
theorem sorted_can {R rs : List Nat} (hR : Can R) (hl : rs.length = R.length) (hp : rs.Pairwise (fun a b => ltK a b ∨ a = b)) (hm : ∀ x, x ∈ rs ↔ x ∈ R) : rs = R := by
  have hpR : R.Pairwise ltK := by rw [← hR]; exact pair_minK R
  have hnR : R.Nodup := hpR.imp fun {a b} h e => by subst e; exact ltK_irr a h
  have hperm := nodup_perm hnR (fun x hx => (hm x).2 hx) (Nat.le_of_eq hl)
  have hn : rs.Nodup := hperm.symm.nodup hnR
  have hlt : rs.Pairwise ltK := (hp.and hn).imp fun {a b} h => h.1.resolve_right h.2
  exact pair_unique ltK ltK_irr ltK_tr rs R hlt hpR hm
/-- What run answers when it succeeds. -/
def RunGood (w' : World) (e : Ending) (p : List Nat × List Nat) : Prop := ∃ v1 v2 L, e = .returned (.tuple #[v1, v2, .nilIface]) ∧ OwnRws w' 0 v1 L ∧ L.Perm p.1 ∧ OwnInts w' 0 v2 (ofN p.2)
set_option maxRecDepth 100000 in
theorem tcuts_err (v : Value) (f : Fm) (q : Nat) (hq : q ≠ 0) (w : World) (hs : ∃ a n c, v = .slice a n c) (hr : ∀ W, Kept w W → Calls Try.prog 67 #[fmV v f] W fun e w' => e = .returned (.tuple #[.slice none 0 0, .slice none 0 0, errV q]) ∧ Kept W w') :
    Calls Try.prog 32 #[fmV v f] w fun e w' => e = .returned (.tuple #[.slice none 0 0, errV q]) ∧ Kept w w' := by
  obtain ⟨a, n, c, rfl⟩ := hs
  obtain ⟨vars, nodes, top⟩ := f
  have H : Hid (∀ W, Kept w W → Calls Try.prog 67 #[.agg #[.int .i64 vars, .slice a n c, .int .i64 top]] W fun e w' => e = .returned (.tuple #[.slice none 0 0, .slice none 0 0, errV q]) ∧ Kept W w') := Lib.hid hr
  rw [errV_pos hq] at *
  clear hr hq
  show Calls _ _ #[.agg #[.int .i64 vars, .slice a n c, .int .i64 top]] _ _
  go_enter Try.func32, Try.ntmps32
  go_wp2_with (go_at_call 67; refine (H.out _ ((Kept.refl _).alloc _)).mono ?_; rintro e w1 ⟨rfl, hk1⟩)
  go_ret2
  exact ⟨rfl, ((Kept.refl _).alloc _).trans hk1⟩
set_option maxRecDepth 100000 in
theorem tsteps_err (v : Value) (f : Fm) (q : Nat) (hq : q ≠ 0) (w : World) (hs : ∃ a n c, v = .slice a n c) (hr : ∀ W, Kept w W → Calls Try.prog 67 #[fmV v f] W fun e w' => e = .returned (.tuple #[.slice none 0 0, .slice none 0 0, errV q]) ∧ Kept W w') :
    Calls Try.prog 34 #[fmV v f] w fun e w' => e = .returned (.tuple #[.slice none 0 0, errV q]) ∧ Kept w w' := by
  obtain ⟨a, n, c, rfl⟩ := hs
  obtain ⟨vars, nodes, top⟩ := f
  have H : Hid (∀ W, Kept w W → Calls Try.prog 67 #[.agg #[.int .i64 vars, .slice a n c, .int .i64 top]] W fun e w' => e = .returned (.tuple #[.slice none 0 0, .slice none 0 0, errV q]) ∧ Kept W w') := Lib.hid hr
  rw [errV_pos hq] at *
  clear hr hq
  show Calls _ _ #[.agg #[.int .i64 vars, .slice a n c, .int .i64 top]] _ _
  go_enter Try.func34, Try.ntmps34
  go_wp2_with (go_at_call 67; refine (H.out _ ((Kept.refl _).alloc _)).mono ?_; rintro e w1 ⟨rfl, hk1⟩)
  go_ret2
  exact ⟨rfl, ((Kept.refl _).alloc _).trans hk1⟩
set_option maxRecDepth 100000 in
theorem tsteps_ok (v : Value) (V T : Nat) (p : List Nat × List Nat) (w : World) (hs : ∃ a n c, v = .slice a n c) (hr : ∀ W, Kept w W → Calls Try.prog 67 #[.agg #[.int .i64 V, v, .int .i64 T]] W fun e w' => RunGood w' e p ∧ Kept W w') :
    Calls Try.prog 34 #[.agg #[.int .i64 V, v, .int .i64 T]] w fun e w' => (∃ v', e = .returned (.tuple #[v', .nilIface]) ∧ OwnInts w' 0 v' (ofN p.2)) ∧ Kept w w' := by
  obtain ⟨a, n, c, rfl⟩ := hs
  have H := Lib.hid hr
  clear hr
  go_enter Try.func34, Try.ntmps34
  go_wp2_with (go_at_call 67; refine (H.out _ ((Kept.refl _).alloc _)).mono ?_; rintro e w1 ⟨⟨v1, v2, L, rfl, ho1, hp1, ho2⟩, hk1⟩; obtain ⟨a2, n2, c2, rfl⟩ := ho2.ints.shape; obtain ⟨a1, c1, rfl⟩ := ho1.at.shape; have O2 := Lib.hid ho2; clear ho1 hp1 ho2)
  go_ret2
  exact ⟨⟨_, rfl, O2.out⟩, ((Kept.refl _).alloc _).trans hk1⟩
set_option maxRecDepth 100000 in
set_option maxHeartbeats 1000000 in
theorem tcuts_ok (v : Value) (V T : Nat) (p : List Nat × List Nat) (w : World) (hg : Good p.1) (hm : ∀ r ∈ p.1, Mk r) (hs : ∃ a n c, v = .slice a n c) (hr : ∀ W, Kept w W → Calls Try.prog 67 #[.agg #[.int .i64 V, v, .int .i64 T]] W fun e w' => RunGood w' e p ∧ Kept W w') :
    Calls Try.prog 32 #[.agg #[.int .i64 V, v, .int .i64 T]] w fun e w' => (∃ v', e = .returned (.tuple #[v', .nilIface]) ∧ OwnSets w' 0 v' p.1) ∧ Kept w w' := by
  obtain ⟨a, n, c, rfl⟩ := hs
  have H := Lib.hid hr
  have HG := Lib.hid hg
  have HM := Lib.hid hm
  clear hr hg hm
  go_enter Try.func32, Try.ntmps32
  go_wp2_with (go_at_call 67; refine (H.out _ ((Kept.refl _).alloc _)).mono ?_; rintro e w1 ⟨⟨v1, v2, L, rfl, ho1, hp1, ho2⟩, hk1⟩; obtain ⟨ln, hln⟩ : ∃ ln, ln = L.length := ⟨_, rfl⟩; obtain ⟨a1, c1, rfl⟩ := ho1.at.shape; obtain ⟨a2, n2, c2, rfl⟩ := ho2.ints.shape; rw [← hln] at ho1; rw [← hln]; have O1 := Lib.hid ho1; have HLN := Lib.hid hln; have HP1 := Lib.hid hp1; have hlb : ln ≤ 10000 := (by rw [hln]; exact ho1.at.len); clear hln hp1 ho1 ho2)
  have hk1w := ((Kept.refl _).alloc _).trans hk1
  have HK1 := Lib.hid hk1w
  clear hk1w hk1
  go_loopg [7, 21] ln (fun kx s7 s21 wr => ∃ (k : Nat) (vo : Value), s7 = vo ∧ s21 = .int .i64 k ∧ k ≤ ln ∧ ln - k ≤ kx ∧ Hid (OwnInts wr w1.heap.size vo (ofN (L.take k))) ∧ Hid (Kept w1 wr))
  case atStart => exact ⟨0, _, rfl, rfl, Nat.zero_le _, by omega, Lib.hid (OwnInts.nil _ _), Lib.hid (Kept.refl _)⟩
  case round =>
    obtain ⟨k, vo, rfl, rfl, hk, hkx, HO, HK⟩ := hrel
    have hsz := HK.out.size
    obtain ⟨ao, no, co, hvo⟩ := HO.out.ints.shape
    subst hvo
    by_cases hlt : k < ln
    · have hkl : k < L.length := by have := HLN.out; omega
      obtain ⟨b, o, rfl, hrg⟩ := (O1.out.at.kept HK.out).get k hkl
      have hmk : Mk L[k] := HM.out _ (HP1.out.mem_iff.1 (List.getElem_mem _))
      have hev : evW L[k] = L[k] := by unfold evW; unfold Mk at hmk; omega
      have hnext : ofN (L.take (k + 1)) = ofN (L.take k) ++ [((evW L[k] : Nat) : Int)] := by unfold ofN; rw [hev, List.take_succ_eq_append_getElem hkl, List.map_append]; rfl
      have hlen : (ofN (L.take k)).length = k := by simp [ofN]; omega
      have hkn : (k : Int) < (ln : Int) := by omega
      have HRG : Hid (wr.rangeAt b (o + k * 3) [.int .i64 (evW L[k]), .int .u64 (loW L[k]), .int .u64 (hiW L[k])]) := Lib.hid hrg
      generalize evW L[k] = z0 at *
      generalize loW L[k] = z1 at *
      generalize hiW L[k] = z2 at *
      have HNX := Lib.hid hnext
      clear hrg hmk hev hnext
      go_wp2_with (first | (with_reducible refine wpList_load_mid rfl 95 _ rfl b (o + k * 3) rfl _ _ HRG.out Try.underlying95 rfl (by kernel_rfl) ?_) | (at_builtin; refine app_int rfl _ _ rfl w1.heap.size _ (ofN (L.take k)) rfl (HO.out.kept (((Kept.refl _).alloc _).alloc _)) _ (z0 : Int) rfl (by simp) (by rw [hlen]; omega) (by simp; omega) ?_; intro v7 w7 hown7 _ hb7; have O7 := Lib.hid hown7; have HB7 := Lib.hid hb7; clear hown7 hb7))
      go_roundg (ln - (k + 1))
      case measure => omega
      case rel => exact ⟨k + 1, v7, rfl, by go_num, by omega, Nat.le_refl _, Lib.hid (by rw [HNX.out]; exact O7.out), Lib.hid (((HK.out.alloc _).alloc _).app HB7.out)⟩
    · have hke : k = ln := by omega
      have HF : Hid (OwnInts wr w1.heap.size (.slice ao no co) (ofN L)) := Lib.hid (by have h := HO.out; rw [hke, HLN.out, List.take_length] at h; exact h)
      have HML : Hid (∀ n ∈ L, Mk n) := Lib.hid fun x hx => HM.out x (HP1.out.mem_iff.1 hx)
      clear hke
      go_wp2_with (go_at_call 68; refine (sort_any w1.heap.size _ L _ HML.out HF.out hsz).mono ?_; rintro e w3 ⟨rfl, rs, hr1, hr2, hr3, hr4, ho3, hb3⟩; have O3 := Lib.hid ho3; have R1 := Lib.hid hr1; have R2 := Lib.hid hr2; have R3 := Lib.hid hr3; have R4 := Lib.hid hr4; clear ho3 hr1 hr2 hr3 hr4)
      go_ret2
      have he : rs = p.1 := sorted_can HG.out.1 (R2.out.trans HP1.out.length_eq) R3.out fun x => (R4.out x).trans HP1.out.mem_iff
      refine ⟨⟨_, rfl, by rw [← he]; exact O3.out.mono (Nat.zero_le _), HM.out⟩, HK1.out.trans (HK.out.app hb3)⟩
/-- The answers of Cuts and Steps to a formula that Check accepts. -/
theorem top_cases (v : Value) (f : Fm) (V T : Nat) (hok : Ok f V T) (hck : chkF f = 0) (hs : ∃ a n c, v = .slice a n c) :
    (∃ q, ((q = 4 ∧ synK V T f = true ∧ topK V T f.nodes = none) ∨ (q = 7 ∧ synK V T f = false)) ∧ ∀ W, NodesAt W v f.nodes → (Calls Try.prog 32 #[.agg #[.int .i64 V, v, .int .i64 T]] W fun e w' => e = .returned (.tuple #[.slice none 0 0, errV q]) ∧ Kept W w') ∧
      (Calls Try.prog 34 #[.agg #[.int .i64 V, v, .int .i64 T]] W fun e w' => e = .returned (.tuple #[.slice none 0 0, errV q]) ∧ Kept W w')) ∨
    (∃ p, topK V T f.nodes = some p ∧ synK V T f = true ∧ ∀ W, NodesAt W v f.nodes → (Calls Try.prog 32 #[.agg #[.int .i64 V, v, .int .i64 T]] W fun e w' => (∃ v', e = .returned (.tuple #[v', .nilIface]) ∧ OwnSets w' 0 v' p.1) ∧ Kept W w') ∧
      (Calls Try.prog 34 #[.agg #[.int .i64 V, v, .int .i64 T]] W fun e w' => (∃ v', e = .returned (.tuple #[v', .nilIface]) ∧ OwnInts w' 0 v' (ofN p.2)) ∧ Kept W w')) := by
  have hfm : fmV v f = .agg #[.int .i64 V, v, .int .i64 T] := by unfold fmV; rw [hok.vars, hok.top]
  cases hsy : synK V T f with
  | false =>
    have h7 : ∀ W, NodesAt W v f.nodes → Calls Try.prog 67 #[fmV v f] W fun e w' => e = .returned (.tuple #[.slice none 0 0, .slice none 0 0, errV 7]) ∧ Kept W w' := fun W hW => by
      rw [hfm]
      exact run_typed v V T W hs fun W' hk => by
        have := syntax_ok v f V T W' (hW.kept hk) hok hck
        rw [hsy] at this
        exact this
    refine .inl ⟨7, .inr ⟨rfl, rfl⟩, fun W hW => ?_⟩
    have h1 := tcuts_err v f 7 (by omega) W hs (fun W' hk => h7 W' (hW.kept hk))
    have h2 := tsteps_err v f 7 (by omega) W hs (fun W' hk => h7 W' (hW.kept hk))
    rw [hfm] at h1 h2
    exact ⟨h1, h2⟩
  | true =>
    cases hl : topK V T f.nodes with
    | none =>
      have h4 : ∀ W, NodesAt W v f.nodes → Calls Try.prog 67 #[fmV v f] W fun e w' => e = .returned (.tuple #[.slice none 0 0, .slice none 0 0, errV 4]) ∧ Kept W w' := fun W hW => by
        have := run_ok v f V T W hW hok hck hsy
        rw [hl, ← hfm] at this
        exact this
      refine .inl ⟨4, .inl ⟨rfl, rfl, rfl⟩, fun W hW => ?_⟩
      have h1 := tcuts_err v f 4 (by omega) W hs (fun W' hk => h4 W' (hW.kept hk))
      have h2 := tsteps_err v f 4 (by omega) W hs (fun W' hk => h4 W' (hW.kept hk))
      rw [hfm] at h1 h2
      exact ⟨h1, h2⟩
    | some p =>
      obtain ⟨hg, hm, _⟩ := topK_says hok hsy hl
      have h0 : ∀ W, NodesAt W v f.nodes → Calls Try.prog 67 #[.agg #[.int .i64 V, v, .int .i64 T]] W fun e w' => RunGood w' e p ∧ Kept W w' := fun W hW => by
        have := run_ok v f V T W hW hok hck hsy
        rw [hl] at this
        exact this
      exact .inr ⟨p, rfl, rfl, fun W hW => ⟨tcuts_ok v V T p W hg hm hs fun W' hk => h0 W' (hW.kept hk), tsteps_ok v V T p W hs fun W' hk => h0 W' (hW.kept hk)⟩⟩
end Go.Proofs.Ytapniojbnochiaa

/-
  Walks: faultlinelaw31.awake.
-/
namespace Go.Proofs.Ytapniojbnochiaa
open Go.RowKit

theorem pc_even (n : Nat) (h : 0 < n) : pc (2 * n) = pc n := by
  conv => lhs; unfold pc
  rw [if_neg (by omega), show 2 * n % 2 = 0 by omega, show 2 * n / 2 = n by omega]; omega
theorem pc_odd (n : Nat) : pc (2 * n + 1) = 1 + pc n := by
  conv => lhs; unfold pc
  rw [if_neg (by omega), show (2 * n + 1) % 2 = 1 by omega, show (2 * n + 1) / 2 = n by omega]
theorem pc_two (k : Nat) : pc (2 ^ k) = 1 := by
  induction k with
  | zero => exact pcs.2.1
  | succ k ih => rw [Nat.pow_succ, Nat.mul_comm, pc_even _ (Nat.pow_pos (by omega))]; exact ih
set_option linter.unusedSimpArgs false in
theorem top_ex : topK 3 5 exN = some ([1, 6], [1, 2, 2]) := by
  obtain ⟨h0, h1, h2, h3, h4, h5, h6, h7⟩ := pcs
  have p1 : pc 16777217 = 2 := by rw [show 16777217 = 2 * 2 ^ 23 + 1 by decide, pc_odd, pc_two]
  have p2 : pc 16777220 = 2 := by rw [show 16777220 = 2 * (2 * (2 * 2 ^ 21 + 1)) by decide, pc_even _ (by decide), pc_even _ (by decide), pc_odd, pc_two]
  have m1 : minK [50331648] = [50331648] := by simp [minK, sortK, insK, minN, keepN]
  have m2 : minK [16777217, 16777220] = [16777217, 16777220] := by simp +decide [minK, sortK, insK, minN, keepN, ltK, p1, p2]
  have m3 : minK [1, 3, 5, 6] = [1, 6] := by simp +decide [minK, sortK, insK, minN, keepN, ltK, h0, h1, h2, h3, h4, h5, h6, h7]
  have s2 : runK 3 exN 3 [67108864] = (runK 3 exN 2 [50331648]).map fun p => (p.1, 1 :: p.2) := by
    conv => lhs; unfold runK
    rw [if_pos (by decide), show expK 3 (exN.getD 2 noNd) 2 [67108864] = [50331648] by decide, m1]; rfl
  have s1 : runK 3 exN 2 [50331648] = (runK 3 exN 1 [16777217, 16777220]).map fun p => (p.1, 2 :: p.2) := by
    conv => lhs; unfold runK
    rw [if_pos (by decide), show expK 3 (exN.getD 1 noNd) 1 [50331648] = [16777217, 16777220] by decide, m2]; rfl
  have s0 : runK 3 exN 1 [16777217, 16777220] = (runK 3 exN 0 [1, 6]).map fun p => (p.1, 2 :: p.2) := by
    conv => lhs; unfold runK
    rw [if_pos (by decide), show expK 3 (exN.getD 0 noNd) 0 [16777217, 16777220] = [1, 3, 5, 6] by decide, m3]; rfl
  unfold topK
  rw [show cond 3 ((5 : Nat) : Int) = 67108864 by decide, show exN.length = 3 from rfl, s2, s1, s0]
  rfl
theorem tex_cases : (∃ q, ((q = 4 ∧ synK 3 5 exF = true ∧ topK 3 5 exF.nodes = none) ∨ (q = 7 ∧ synK 3 5 exF = false))) → False := by
  rintro ⟨q, ⟨_, _, h⟩ | ⟨_, h⟩⟩
  · rw [show exF.nodes = exN from rfl, top_ex] at h; cases h
  · rw [syn_ex] at h; cases h
theorem tex_at (v : Value) (w : World) (hs : ∃ a n c, v = .slice a n c) (hv : NodesAt w v exN) :
    (Calls Try.prog 32 #[.agg #[.int .i64 3, v, .int .i64 5]] w fun e w' => (∃ v', e = .returned (.tuple #[v', .nilIface]) ∧ OwnSets w' 0 v' [1, 6]) ∧ Kept w w') ∧
    Calls Try.prog 34 #[.agg #[.int .i64 3, v, .int .i64 5]] w fun e w' => (∃ v', e = .returned (.tuple #[v', .nilIface]) ∧ OwnInts w' 0 v' (ofN [1, 2, 2])) ∧ Kept w w' := by
  rcases top_cases v exF 3 5 ok_ex chk_ex hs with ⟨q, h, _⟩ | ⟨p, hp, _, h⟩
  · exact (tex_cases ⟨q, h⟩).elim
  · rw [show exF.nodes = exN from rfl, top_ex] at hp
    cases hp
    exact h w hv
theorem three_new (w : World) (x y z : Int) : IntsAt (w.alloc (.cells #[.int .i64 x, .int .i64 y, .int .i64 z] 3)) (.slice (some ⟨w.heap.size, 0, none⟩) 3 3) [x, y, z] := by
  refine ⟨_, 3, rfl, ⟨Nat.le_refl _, fun h => by cases h⟩, by simp, fun i hi => ⟨w.heap.size, 0, rfl, ?_⟩⟩
  match i, hi with
  | 0, _ => exact alloc_cell rfl rfl
  | 1, _ => exact alloc_cell rfl rfl
  | 2, _ => exact alloc_cell rfl rfl
set_option maxRecDepth 100000 in
set_option maxHeartbeats 1000000 in
theorem tawake_ok (w : World) : Calls Try.prog 31 #[] w fun e w' => e = .returned (.bool true) ∧ Kept w w' := by
  go_enter Try.func31, Try.ntmps31
  go_wp2_with (go_at_call 51; refine (example_ok _).mono ?_; rintro e w1 ⟨⟨v1, rfl, ⟨a1, n1, c1, rfl⟩, hn1⟩, hk1⟩; have HN1 := Lib.hid hn1; clear hn1)
  refine (tex_at _ _ ⟨_, _, _, rfl⟩ HN1.out).1.mono ?_
  rintro e w2 ⟨⟨v2, rfl, ho2⟩, hk2⟩
  obtain ⟨a2, n2, c2, rfl⟩ := ho2.1.ints.shape
  have HO2 := Lib.hid ho2
  clear ho2
  go_wp2_with (go_at_call 51; refine (example_ok _).mono ?_; rintro e w3 ⟨⟨v3, rfl, ⟨a3, n3, c3, rfl⟩, hn3⟩, hk3⟩; have HN3 := Lib.hid hn3; clear hn3)
  refine (tex_at _ _ ⟨_, _, _, rfl⟩ HN3.out).2.mono ?_
  rintro e w4 ⟨⟨v4, rfl, ho4⟩, hk4⟩
  obtain ⟨a4, n4, c4, rfl⟩ := ho4.ints.shape
  have HO2' := Lib.hid ((HO2.out.kept hk3).kept hk4)
  have HO4 := Lib.hid ho4
  have HI : Hid (∀ W, Kept w4 W → Calls Try.prog 23 #[.slice a2 n2 c2, .slice (some ⟨w4.heap.size, 0, none⟩) 2 2] (w4.alloc (.cells #[.int .i64 1, .int .i64 6] 3)) fun e w' => e = .returned (.bool true) ∧ Kept (w4.alloc (.cells #[.int .i64 1, .int .i64 6] 3)) w') := Lib.hid fun W hk => ints_true _ _ _ (HO2'.out.1.ints.kept ((Kept.refl _).alloc _)) (pair_new _ _ _)
  have HJ : Hid (∀ W, Kept w4 W → Calls Try.prog 23 #[.slice a4 n4 c4, .slice (some ⟨W.heap.size, 0, none⟩) 3 3] (W.alloc (.cells #[.int .i64 1, .int .i64 2, .int .i64 2] 3)) fun e w' => e = .returned (.bool true) ∧ Kept (W.alloc (.cells #[.int .i64 1, .int .i64 2, .int .i64 2] 3)) w') := Lib.hid fun W hk => ints_true _ _ _ (HO4.out.ints.kept (hk.alloc _)) (three_new _ _ _ _)
  clear ho4 HO2
  go_wp2_with (first
    | (go_at_call 23; with_reducible refine Calls.mono (HI.out w4 (Kept.refl _)) ?_; rintro e w5 ⟨rfl, hk5⟩; have HK5 := Lib.hid (((Kept.refl _).alloc _).trans hk5); clear hk5)
    | (go_at_call 23; with_reducible refine Calls.mono (HJ.out _ HK5.out) ?_; rintro e w6 ⟨rfl, hk6⟩))
  go_ret
  exact ⟨rfl, (((hk1.trans hk2).trans hk3).trans hk4).trans (HK5.out.trans (((Kept.refl _).alloc _).trans hk6))⟩
end Go.Proofs.Ytapniojbnochiaa

/-
  Walks: faultlinebase.Is. The frame of the laws of a formula and a small number.
-/
namespace Go.Proofs.Ytapniojbnochiaa
open Go.RowKit Go.ChangeShapes Go.WideShapes Go.ChangeAt Go.Joins Go.Deep

theorem as_nil (w : World) : (Instr.typeAssert .nilIface 29 45 true).run Try.prog w = .ok (.tuple #[.int .i64 0, .bool false]) w := by kernel_rfl
theorem OwnFams.sliceS {w : World} {B : Nat} {v : Value} {xss : List (List Nat)} (h : OwnFams w B v xss) : ∃ a n c, v = .slice a n c := by
  obtain ⟨us, _, ⟨_, h⟩, _⟩ := h
  rcases h with ⟨rfl, _⟩ | ⟨g, cp, _, rfl, _⟩
  · exact ⟨_, _, _, rfl⟩
  · exact ⟨_, _, _, rfl⟩
set_option maxRecDepth 100000 in
theorem is_any (q c : Nat) (hq : q ≠ 0) (w : World) : Calls Try.prog 28 #[errV q, .int .i64 c] w fun e w' => e = .returned (.bool (q == c)) ∧ w = w' := by
  rw [errV_pos hq]
  have e : ((q : Int) == (c : Int)) = (q == c) := by rw [Bool.eq_iff_iff]; simp; omega
  have HE := Lib.hid e
  clear hq e
  go_enter Try.func28, Try.ntmps28
  go_wp2
  rw [as_errno]
  go_wp2
  go_ret
  exact ⟨by rw [← HE.out]; rfl, rfl⟩
set_option maxRecDepth 100000 in
theorem is_nil (c : Nat) (w : World) : Calls Try.prog 28 #[.nilIface, .int .i64 c] w fun e w' => e = .returned (.bool false) ∧ w = w' := by
  go_enter Try.func28, Try.ntmps28
  go_wp2
  rw [as_nil]
  go_wp2
  go_ret
  exact ⟨rfl, rfl⟩
set_option maxRecDepth 100000 in
/-- A law of a formula and a number: from its walk to its row's step. -/
theorem lift2 {s : ChangeSpec} (F : FuncId) (fn : Func) (t2 : TypeId) (k2 : IntKind) (ht2 : Try.prog.underlying t2 = some (.int k2)) (hr2 : Try.prog.readableRec t2 = true) (hlt2 : t2 < Try.prog.types.size) (hs1 : s.vars = []) (hs2 : ∀ (H : Type) (d1 d2 : DataW H), s.fn H [d1, d2] = { results := [.lit (.bool true)], args := [d1, d2] })
    (hp : fn.params = #[24, t2]) (hr : fn.resultTypes = #[4])
    (walk : ∀ (W : World) (u : Value) (f : Fm) (x : Int), NodesAt W u f.nodes → FmOk f → (Lit.int k2 x).wf = true → Calls Try.prog F #[fmV u f, .int k2 x] W fun e w' => e = .returned (.bool true) ∧ Kept W w')
    {H : Type} {enc : TypeId × Value → H} (W : World) (base : Nat) (args : Array Value) (ds gs : List (DataW H)) (before : List MemPlace)
    (hval : ∀ (j : Nat) t v, fn.params[j]? = some t → args[j]? = some v → Value.okWide Try.prog W .any base t v)
    (hW : DataW.Whole enc Try.prog fn.params.toList s.vars false W args.toList ds gs before)
    (hsz : (DataW.weightsEach Try.prog (fn.params.toList ++ s.plain.varTypes Try.prog) (ds ++ gs)).all (· ≤ reachBytes) = true) :
    Calls Try.prog F args W fun e W' => ∃ v, e = .returned v ∧ s.post enc Try.prog fn false true false false W args v W' := by
  have hW' := hW
  obtain ⟨p, q, hA, hV, rfl, hfz, _⟩ := hW
  rw [hs1] at hV
  obtain ⟨rfl, rfl⟩ := trodVars_none hV
  rw [hp] at hA hval hsz
  obtain ⟨v0, v1, d0, d1, p0, p1, rfl, rfl, rfl, h0, h1⟩ := trodAll_two hA
  have h0k := h0
  have h1k := h1
  obtain ⟨u, f, rfl, hn, hok⟩ := fm_open (hval 0 _ _ rfl rfl) (fun n hn => by
    have := List.all_eq_true.1 hsz n (DataW.weights_mem_each (j := 0) rfl rfl n hn)
    simpa using this) h0
  obtain ⟨x, rfl, rfl, rfl, wx⟩ := open_int ht2 (hval 1 _ _ rfl rfl) h1
  have hlt : ∀ x ∈ p0, x.block < W.heap.size := fun x hx => hW'.lt x (by simp [hx])
  refine (walk W u f x hn hok wx).mono fun e W' ⟨he, hk⟩ => ?_
  subst he
  refine ⟨_, rfl, [d0, .lit (.int k2 x)], [], (p0 ++ []) ++ [], [], p0 ++ [], [], hW', ?_, ?_, ?_, Below.frame hk _, fun h => by cases h⟩
  · rw [hr]
    simp only [List.append_nil, hs2]
    exact trodAll_mk1 (shut_bool Try.underlying4 _)
  · rw [hp]
    simp only [List.append_nil, hs2]
    have := trodAll_mk2 (Below.trod laidOutK (by kernel_rfl) (of_decide_eq_true (by kernel_rfl)) h0k hk hlt) (Below.trod laidOutK hr2 hlt2 h1k hk (fun x hx => by cases hx))
    simpa using this
  · rw [hs1]
    simp only [List.append_nil, hs2]
    rfl
end Go.Proofs.Ytapniojbnochiaa
