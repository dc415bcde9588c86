import Derived.Test.YtiplibgnfcdlkaaQ19
import Derived.Test.YtiplibgnfcdlkaaQ17
import Derived.Test.YtiplibgnfcdlkaaQ21
/-
  Plain: the check of a diagram.
-/
namespace Go.Proofs.Ytiplibgnfcdlkaa

/-- The error of a node. -/
def inErr (L : List INode) (i : Nat) : Nat :=
  let x := L.getD i default
  if x.v < 0 ∨ 24 ≤ x.v ∨ x.lo < 0 ∨ (i : Int) + 1 < x.lo ∨ x.hi < 0 ∨ (i : Int) + 1 < x.hi then 10
  else if x.hi = 0 then 2
  else if (1 < x.lo ∧ (L.getD (x.lo - 2).toNat default).v ≤ x.v) ∨ (1 < x.hi ∧ (L.getD (x.hi - 2).toNat default).v ≤ x.v) then 13
  else if x ∈ L.take i then 6 else 0
/-- The first error of the first n nodes. -/
def inFst (L : List INode) : Nat → Nat
  | 0 => 0
  | n + 1 => if inFst L n = 0 then inErr L n else inFst L n
/-- A node that has been checked. -/
def zo (x : INode) : ZNode := ⟨x.v.toNat, x.lo.toNat, x.hi.toNat⟩
/-- The numbers by a walk. -/
def znum (N : List ZNode) : Nat → Nat → List Nat → List Nat
  | 0, _, l => l
  | k + 1, r, l => if r < 2 ∨ r ∈ l then l else match N[r - 2]? with
    | none => l
    | some n => znum N k n.hi (znum N k n.lo l) ++ [r]
theorem zwalk_num (N : List ZNode) : ∀ k r s, (zwalk N k r s).1 = znum N k r s.1 := by
  intro k
  induction k with
  | zero => intro r s; rfl
  | succ k ih =>
    intro r s
    by_cases h : r < 2 ∨ r ∈ s.1
    · rw [zwalk, znum, if_pos h, if_pos h]
    · rw [zwalk, znum, if_neg h, if_neg h]
      cases N[r - 2]? with
      | none => rfl
      | some n => simp only [ih]
/-- The error of a diagram. -/
def zchk (L : List INode) (root : Int) : Nat :=
  if 4096 < L.length then 4 else if inFst L L.length ≠ 0 then inFst L L.length else if root < 0 ∨ (L.length : Int) + 1 < root then 10
  else if znum (L.map zo) root.toNat root.toNat [] = List.range' 2 L.length then 0 else 2
theorem inFst_zero {L : List INode} : ∀ {n}, inFst L n = 0 → ∀ i, i < n → inErr L i = 0 := by
  intro n
  induction n with
  | zero => intro _ i hi; omega
  | succ n ih =>
    intro h i hi
    unfold inFst at h
    by_cases h0 : inFst L n = 0
    · rw [if_pos h0] at h
      by_cases e : i = n
      · rw [e]; exact h
      · exact ih h0 i (by omega)
    · rw [if_neg h0] at h
      exact absurd h h0
theorem getD_at {α : Type} {L : List α} {d : α} {i : Nat} (h : i < L.length) : L.getD i d = L[i] := by rw [List.getD_eq_getElem?_getD, List.getElem?_eq_getElem h]; rfl
/-- What a node without an error is. -/
theorem inErr_ok {L : List INode} {i : Nat} (hi : i < L.length) (h : inErr L i = 0) : (0 ≤ L[i].v ∧ L[i].v < 24 ∧ 0 ≤ L[i].lo ∧ L[i].lo ≤ i + 1 ∧ 0 < L[i].hi ∧ L[i].hi ≤ i + 1) ∧
    (1 < L[i].lo → L[i].v < (L.getD (L[i].lo - 2).toNat default).v) ∧ (1 < L[i].hi → L[i].v < (L.getD (L[i].hi - 2).toNat default).v) ∧ L[i] ∉ L.take i := by
  unfold inErr at h
  simp only [getD_at hi] at h
  split at h
  · cases h
  · rename_i h1
    split at h
    · cases h
    · rename_i h2
      split at h
      · cases h
      · rename_i h3
        split at h
        · cases h
        · rename_i h4
          refine ⟨⟨by omega, by omega, by omega, by omega, by omega, by omega⟩, fun h5 => ?_, fun h5 => ?_, h4⟩
          · exact Int.not_le.1 fun h6 => h3 (.inl ⟨h5, h6⟩)
          · exact Int.not_le.1 fun h6 => h3 (.inr ⟨h5, h6⟩)
/-- Nodes without an error are a table. -/
theorem inFst_good {L : List INode} (h : inFst L L.length = 0) : ZGood (L.map zo) ∧ L = (L.map zo).map zi := by
  have he := fun i hi => inErr_ok hi (inFst_zero h i hi)
  have hz : ∀ i (hi : i < L.length), zi (zo L[i]) = L[i] := fun i hi => by
    obtain ⟨⟨a1, a2, a3, a4, a5, a6⟩, _⟩ := he i hi
    cases hx : L[i] with
    | mk v lo hi' =>
      rw [hx] at a1 a2 a3 a4 a5 a6
      simp only at a1 a2 a3 a4 a5 a6
      simp only [zi, zo, INode.mk.injEq]
      omega
  have hg : ∀ i (hi : i < (L.map zo).length), (L.map zo)[i] = zo (L[i]'(by simpa using hi)) := fun i hi => by rw [List.getElem_map]
  have hev : ∀ (x : Int) (i : Nat), 0 ≤ x → x ≤ i + 1 → i < L.length → zev (L.map zo) x.toNat = if 1 < x then (L.getD (x - 2).toNat default).v.toNat else 24 := fun x i h0 h1 hi => by
    by_cases h2 : 1 < x
    · rw [if_pos h2]
      have hk : (x - 2).toNat < L.length := by omega
      rw [show x.toNat = (x - 2).toNat + 2 by omega, zev_node (by simpa using hk), hg _ (by simpa using hk), getD_at hk]
      rfl
    · rw [if_neg h2]
      unfold zev
      rw [if_pos (by omega)]
  refine ⟨⟨fun i hi => ?_, fun i hi => ?_, fun i hi => ?_, fun i j hi hj e => ?_⟩, ?_⟩
  · have hi' : i < L.length := by simpa using hi
    obtain ⟨⟨a1, a2, a3, a4, a5, a6⟩, _⟩ := he i hi'
    rw [hg i hi]
    show (L[i].v).toNat < 24
    omega
  · have hi' : i < L.length := by simpa using hi
    obtain ⟨⟨a1, a2, a3, a4, a5, a6⟩, b1, b2, _⟩ := he i hi'
    rw [hg i hi]
    refine ⟨by show L[i].lo.toNat ≤ _; omega, ?_⟩
    show L[i].v.toNat < zev (L.map zo) L[i].lo.toNat
    rw [hev L[i].lo i a3 a4 hi']
    split
    · rename_i h2; have := b1 h2; omega
    · omega
  · have hi' : i < L.length := by simpa using hi
    obtain ⟨⟨a1, a2, a3, a4, a5, a6⟩, b1, b2, _⟩ := he i hi'
    rw [hg i hi]
    refine ⟨by show L[i].hi.toNat ≤ _; omega, by show L[i].hi.toNat ≠ 0; omega, ?_⟩
    show L[i].v.toNat < zev (L.map zo) L[i].hi.toNat
    rw [hev L[i].hi i (by omega) a6 hi']
    split
    · rename_i h2; have := b2 h2; omega
    · omega
  · have hi' : i < L.length := by simpa using hi
    have hj' : j < L.length := by simpa using hj
    rw [hg i hi, hg j hj] at e
    have e2 : L[i] = L[j] := by rw [← hz i hi', ← hz j hj', e]
    rcases Nat.lt_trichotomy i j with hij | hij | hij
    · exfalso
      refine (he j hj').2.2.2 ?_
      rw [← e2]
      exact List.mem_take_iff_getElem.2 ⟨i, by omega, rfl⟩
    · exact hij
    · exfalso
      refine (he i hi').2.2.2 ?_
      rw [e2]
      exact List.mem_take_iff_getElem.2 ⟨j, by omega, rfl⟩
  · apply List.ext_getElem
    · simp
    · intro i h1 h2
      rw [List.getElem_map, List.getElem_map, hz i h1]
/-- Numbered by the walk: just then the diagram is the one that is made anew. -/
theorem znum_same {M : List ZNode} (hg : ZGood M) {root : Nat} (hr : root ≤ 1 + M.length) : znum M root root [] = List.range' 2 M.length ↔ zadd 24 [] (zm M root) = (M, root) := by
  have h := zwalk_ok hg root hr root (Nat.le_refl _) ([], []) (ZSt.start M)
  have ha := h.add 24 (Nat.le_refl _) (by omega)
  have hn := zwalk_num M root root ([], [])
  simp only at hn ha
  rw [ha, ← hn]
  obtain ⟨s, hs⟩ : ∃ s, s = zwalk M root root ([], []) := ⟨_, rfl⟩
  rw [← hs] at h ⊢
  have hst := h.st
  have hzx : ∀ l : List Nat, l = List.range' 2 M.length → ∀ r, r ≤ 1 + M.length → zx l r = r := fun l hl r hr2 => by
    unfold zx
    by_cases h2 : r < 2
    · rw [if_pos h2]
    · rw [if_neg h2, hl]
      have hi : r - 2 < (List.range' 2 M.length).length := by simp; omega
      have e : (List.range' 2 M.length)[r - 2] = r := by simp; omega
      have hnd : (List.range' 2 M.length).Nodup := List.nodup_range'
      have := hnd.idxOf_getElem (r - 2) hi
      rw [e] at this
      omega
  constructor
  · intro hl
    have hlen : s.2.length = M.length := by rw [hst.len, hl]; simp
    rw [Prod.mk.injEq]
    refine ⟨?_, hzx s.1 hl root hr⟩
    apply List.ext_getElem hlen
    intro i h1 h2
    have h1' : i < s.1.length := by rw [← hst.len]; exact h1
    obtain ⟨n, n1, n2, _, _⟩ := hst.node i h1' h1
    have e : s.1[i] = 2 + i := by simp only [hl]; simp
    rw [e, show 2 + i - 2 = i by omega, List.getElem?_eq_getElem h2] at n1
    cases n1
    have hlo := (hg.lo i h2).1
    have hhi := (hg.hi i h2).1
    rw [n2, hzx s.1 hl _ (by omega), hzx s.1 hl _ (by omega)]
  · intro he
    rw [Prod.mk.injEq] at he
    obtain ⟨e1, e2⟩ := he
    apply List.ext_getElem
    · rw [← hst.len, e1]; simp
    · intro i h1 h2
      have hi : i < M.length := by simpa using h2
      have hm := hst.mem i h1
      rw [e1] at hm
      have := zm_inj hg (2 + i) (by omega) s.1[i] (hst.rng _ (List.getElem_mem h1)).2 hm
      rw [← this]
      simp
end Go.Proofs.Ytiplibgnfcdlkaa

/-
  Walks: slices.Equal at nodes; the reference's Same. Printed by gen_ZP1.py.
-/
namespace Go.Proofs.Ytiplibgnfcdlkaa
open Go.RowKit

theorem DnsAt.shape {w : World} {v : Value} {L : List INode} (h : DnsAt w v L) : ∃ a c, v = .slice a L.length c := by obtain ⟨a, c, e, _⟩ := h; exact ⟨a, c, e⟩
theorem DnsAt.read {w : World} {a : Option Addr} {n c : Nat} {L : List INode} (h : DnsAt w (.slice a n c) L) (i : Nat) (hi : i < L.length) : ∃ b o, a = some ⟨b, o, none⟩ ∧ w.cell? ⟨b, o + i * 3, none⟩ = some (.int .i64 L[i].v) ∧ w.cell? ⟨b, o + i * 3 + 1, none⟩ = some (.int .i64 L[i].lo) ∧ w.cell? ⟨b, o + i * 3 + 2, none⟩ = some (.int .i64 L[i].hi) := by
  obtain ⟨a', c', e, _, _, h4⟩ := h
  cases e
  exact h4 i hi
theorem DnsAt.le {w : World} {v : Value} {L : List INode} (h : DnsAt w v L) : L.length ≤ 140737488355328 := by obtain ⟨_, _, _, _, h, _⟩ := h; exact h
theorem DnsAt.cap {w : World} {a : Option Addr} {n c : Nat} {L : List INode} (h : DnsAt w (.slice a n c) L) : L.length ≤ c ∧ (a = none → c = 0) := by
  obtain ⟨a', c', e, h2, _⟩ := h
  cases e
  exact h2
theorem take_eq {L K : List INode} {k : Nat} (h : L.take k = K.take k) (h1 : k < L.length) (h2 : k < K.length) (e : L[k] = K[k]) : L.take (k + 1) = K.take (k + 1) := by
  rw [List.take_succ_eq_append_getElem h1, List.take_succ_eq_append_getElem h2, h, e]
theorem node_ne {x y : INode} (h : x ≠ y) : ((x.v == y.v) = false) ∨ (x.v = y.v ∧ (x.lo == y.lo) = false) ∨ (x.v = y.v ∧ x.lo = y.lo ∧ (x.hi == y.hi) = false) := by
  by_cases h1 : x.v = y.v
  · by_cases h2 : x.lo = y.lo
    · refine .inr (.inr ⟨h1, h2, beq_eq_false_iff_ne.2 fun h3 => h ?_⟩)
      cases x; cases y; simp only at h1 h2 h3; rw [h1, h2, h3]
    · exact .inr (.inl ⟨h1, beq_eq_false_iff_ne.2 h2⟩)
  · exact .inl (beq_eq_false_iff_ne.2 h1)
set_option maxRecDepth 100000 in
set_option maxHeartbeats 4000000 in
theorem zequal_any (u v : Value) (L K : List INode) (W : World) (hL : DnsAt W u L) (hK : DnsAt W v K) :
    Calls Try.prog 49 #[u, v] W fun e w' => e = .returned (.bool (decide (L = K))) ∧ Kept W w' := by
  obtain ⟨a, c, rfl⟩ := hL.shape
  obtain ⟨b, d, rfl⟩ := hK.shape
  obtain ⟨n, hn⟩ : ∃ n, n = L.length := ⟨_, rfl⟩
  obtain ⟨m, hm⟩ : ∃ n, n = K.length := ⟨_, rfl⟩
  have hln := hL.le
  have hlm := hK.le
  have hcn := hL.cap.1
  have hcm := hK.cap.1
  rw [← hn] at hL hln hcn ⊢
  rw [← hm] at hK hlm hcm ⊢
  have HL := Lib.hid hL
  have HK := Lib.hid hK
  have HN := Lib.hid hn
  have HM := Lib.hid hm
  by_cases hnm : n = m
  · have hnmi : ((n : Int) == (m : Int)) = true := by rw [beq_iff_eq]; omega
    have hnmi2 : (n : Int) = (m : Int) := by omega
    have HNM := Lib.hid hnm
    obtain ⟨Q, hQ⟩ : ∃ q, q = decide (L = K) := ⟨_, rfl⟩
    rw [← hQ]
    have HQ : Hid (Q = decide (L = K)) := Lib.hid hQ
    obtain rfl := hnm
    clear hL hK hn hm hQ
    go_enter Try.func49, Try.ntmps49
    go_wp2_with fail
    go_loopg [13] n (fun kx s13 wr => ∃ k : Nat, s13 = .int .i64 k ∧ k ≤ n ∧ n - k ≤ kx ∧ Hid (L.take k = K.take k) ∧ Hid (Kept W wr))
    case atStart => exact ⟨0, rfl, Nat.zero_le _, by omega, Lib.hid rfl, Lib.hid (Kept.refl _)⟩
    case round =>
      obtain ⟨k, rfl, hk, hkx, HT, HKr⟩ := hrel
      obtain ⟨wi, rfl⟩ : ∃ wi : World, wi = wr := ⟨_, rfl⟩
      by_cases hlt : k < n
      · have hlti : (k : Int) < (n : Int) := by omega
        have hk0 : (0 : Int) ≤ (k : Int) := by omega
        have hkL : k < L.length := by rw [← HN.out]; exact hlt
        have hkK : k < K.length := by rw [← HM.out]; exact hlt
        have kd := HKr.out.drew
        obtain ⟨b1, o1, rfl, p0, p1, p2⟩ := (HL.out.kept kd).read k hkL
        obtain ⟨b2, o2, rfl, q0, q1, q2⟩ := (HK.out.kept kd).read k hkK
        obtain ⟨x, hx⟩ : ∃ x, x = L[k] := ⟨_, rfl⟩
        obtain ⟨y, hy⟩ : ∃ y, y = K[k] := ⟨_, rfl⟩
        rw [← hx] at p0 p1 p2
        rw [← hy] at q0 q1 q2
        by_cases hxy : x = y
        · have HT2 := Lib.hid (take_eq HT.out hkL hkK (by rw [← hx, ← hy, hxy]))
          obtain rfl := hxy
          obtain ⟨xv, xl, xh⟩ := x
          simp only at p0 p1 p2 q0 q1 q2
          clear hx hy hkL hkK kd
          go_upto_region 6 with fail
          go_region
          all_goals
            go_wp2_with fail
            go_roundg (n - (k + 1))
            case measure => omega
            case rel => exact ⟨k + 1, by go_num, by omega, Nat.le_refl _, HT2, Lib.hid HKr.out.drew⟩
        · have HF : Hid (Q = false) := Lib.hid (by
            rw [HQ.out, decide_eq_false]
            intro e
            apply hxy
            rw [hx, hy]
            simp only [e])
          obtain ⟨xv, xl, xh⟩ := x
          obtain ⟨yv, yl, yh⟩ := y
          have hne := node_ne hxy
          simp only at p0 p1 p2 q0 q1 q2 hne
          clear hx hy hkL hkK kd hxy
          rcases hne with b0 | ⟨rfl, b0⟩ | ⟨rfl, rfl, b0⟩
          all_goals
            go_upto_region 6 with fail
            go_region
            all_goals
              go_wp2_with fail
              go_ret
              exact ⟨by rw [HF.out]; rfl, HKr.out.drew⟩
      · have hlti : ¬ (k : Int) < (n : Int) := by omega
        have HF : Hid (Q = true) := Lib.hid (by
          rw [HQ.out]
          have h := HT.out
          have hke : k = n := by omega
          rw [hke] at h
          have h1 : L.take n = L := by rw [HN.out, List.take_length]
          have h2 : K.take n = K := by rw [HM.out, List.take_length]
          rw [h1, h2] at h
          exact decide_eq_true h)
        go_wp2_with fail
        go_ret
        exact ⟨by rw [HF.out]; rfl, HKr.out⟩
  · have hnmi : ((n : Int) == (m : Int)) = false := by rw [beq_eq_false_iff_ne]; omega
    have hnmi2 : ¬ (n : Int) = (m : Int) := by omega
    have HF : Hid (decide (L = K) = false) := Lib.hid (decide_eq_false fun e => hnm (by rw [hn, hm, e]))
    rw [HF.out]
    clear hL hK hn hm hnm
    go_enter Try.func49, Try.ntmps49
    go_wp2_with fail
    go_ret
    exact ⟨rfl, Kept.refl _⟩
set_option maxRecDepth 100000 in
set_option maxHeartbeats 4000000 in
theorem zsame_any (u v : Value) (L K : List INode) (r s : Int) (W : World) (hL : ZeroAt W u L r) (hK : ZeroAt W v K s) :
    Calls Try.prog 23 #[u, v] W fun e w' => e = .returned (.bool (decide (L = K ∧ r = s))) ∧ Kept W w' := by
  obtain ⟨u, rfl, hL⟩ := hL
  obtain ⟨v, rfl, hK⟩ := hK
  obtain ⟨a, c, rfl⟩ := hL.shape
  obtain ⟨b, d, rfl⟩ := hK.shape
  obtain ⟨n, hn⟩ : ∃ n, n = L.length := ⟨_, rfl⟩
  obtain ⟨m, hm⟩ : ∃ n, n = K.length := ⟨_, rfl⟩
  have hln := hL.le
  have hlm := hK.le
  have hcn := hL.cap.1
  have hcm := hK.cap.1
  rw [← hn] at hL hln hcn ⊢
  rw [← hm] at hK hlm hcm ⊢
  have HL := Lib.hid hL
  have HK := Lib.hid hK
  have HN := Lib.hid hn
  have HM := Lib.hid hm
  by_cases hrs : ¬ r = s
  · have hrsi : (r == s) = false := beq_eq_false_iff_ne.2 hrs
    have HF : Hid (decide (L = K ∧ r = s) = false) := Lib.hid (decide_eq_false fun e => hrs e.2)
    rw [HF.out]
    clear hL hK hn hm hrs
    go_enter Try.func23, Try.ntmps23
    go_wp2_with fail
    go_ret
    exact ⟨rfl, ((Kept.refl _).alloc _).alloc _⟩
  obtain rfl := Classical.not_not.1 hrs
  clear hrs
  have hrsi : (r == r) = true := beq_self_eq_true r
  by_cases hnm : n = m
  · have HNM := Lib.hid hnm
    obtain ⟨Q, hQ⟩ : ∃ q, q = decide (L = K ∧ r = r) := ⟨_, rfl⟩
    rw [← hQ]
    have HQ : Hid (Q = decide (L = K)) := Lib.hid (by rw [hQ]; exact decide_eq_decide.2 (by simp))
    obtain rfl := hnm
    have hnmi : ((n : Int) == (n : Int)) = true := beq_self_eq_true _
    obtain ⟨w1, hw1⟩ : ∃ w1, w1 = (W.alloc (.cells #[.slice a n c, .int .i64 r] 24)).alloc (.cells #[.slice b n d, .int .i64 r] 24) := ⟨_, rfl⟩
    have hk1 : Kept W w1 := by rw [hw1]; exact ((Kept.refl _).alloc _).alloc _
    have hx1 := (RowAt.made W #[.slice a n c, .int .i64 r] 24).kept ((Kept.refl _).alloc (.cells #[.slice b n d, .int .i64 r] 24))
    have hx2 := RowAt.made (W.alloc (.cells #[.slice a n c, .int .i64 r] 24)) #[.slice b n d, .int .i64 r] 24
    rw [← hw1] at hx1 hx2
    have y1 := hx1.cell (i := 0) (by simp)
    have y2 := hx2.cell (i := 0) (by simp)
    simp only [List.getElem_cons_zero, World.size_alloc] at y1 y2
    have HY1 := Lib.hid y1
    have HY2 := Lib.hid y2
    have HK1 := Lib.hid hk1
    have HW1 := Lib.hid hw1
    clear hL hK hn hm hQ hw1 hk1 hx1 hx2 y1 y2
    go_enter Try.func23, Try.ntmps23
    go_upto_region 3 with fail
    rw [← HW1.out]
    go_wp2_with fail
    go_loopg [5] n (fun kx s5 wr => ∃ k : Nat, s5 = .int .i64 k ∧ k ≤ n ∧ n - k ≤ kx ∧ Hid (L.take k = K.take k) ∧ Hid (Kept w1 wr))
    case atStart => exact ⟨0, rfl, Nat.zero_le _, by omega, Lib.hid rfl, Lib.hid (Kept.refl _)⟩
    case round =>
      obtain ⟨k, rfl, hk, hkx, HT, HKr⟩ := hrel
      obtain ⟨wi, rfl⟩ : ∃ wi : World, wi = wr := ⟨_, rfl⟩
      have z1 := HKr.out.cell HY1.out
      have z2 := HKr.out.cell HY2.out
      by_cases hlt : k < n
      · have hlti : (k : Int) < (n : Int) := by omega
        have hk0 : (0 : Int) ≤ (k : Int) := by omega
        have hkL : k < L.length := by rw [← HN.out]; exact hlt
        have hkK : k < K.length := by rw [← HM.out]; exact hlt
        have kd := HKr.out.drew
        have z3 := kd.cell HY1.out
        have z4 := kd.cell HY2.out
        obtain ⟨b1, o1, rfl, p0, p1, p2⟩ := (HL.out.kept (HK1.out.trans kd)).read k hkL
        obtain ⟨b2, o2, rfl, q0, q1, q2⟩ := (HK.out.kept (HK1.out.trans kd)).read k hkK
        obtain ⟨x, hx⟩ : ∃ x, x = L[k] := ⟨_, rfl⟩
        obtain ⟨y, hy⟩ : ∃ y, y = K[k] := ⟨_, rfl⟩
        rw [← hx] at p0 p1 p2
        rw [← hy] at q0 q1 q2
        by_cases hxy : x = y
        · have HT2 := Lib.hid (take_eq HT.out hkL hkK (by rw [← hx, ← hy, hxy]))
          obtain rfl := hxy
          obtain ⟨xv, xl, xh⟩ := x
          simp only at p0 p1 p2 q0 q1 q2
          clear hx hy hkL hkK kd
          go_upto_region 6 with fail
          go_region
          all_goals
            go_wp2_with fail
            go_roundg (n - (k + 1))
            case measure => omega
            case rel => exact ⟨k + 1, by go_num, by omega, Nat.le_refl _, HT2, Lib.hid HKr.out.drew⟩
        · have HF : Hid (Q = false) := Lib.hid (by
            rw [HQ.out, decide_eq_false]
            intro e
            apply hxy
            rw [hx, hy]
            simp only [e])
          obtain ⟨xv, xl, xh⟩ := x
          obtain ⟨yv, yl, yh⟩ := y
          have hne := node_ne hxy
          simp only at p0 p1 p2 q0 q1 q2 hne
          clear hx hy hkL hkK kd hxy
          rcases hne with b0 | ⟨rfl, b0⟩ | ⟨rfl, rfl, b0⟩
          all_goals
            go_upto_region 6 with fail
            go_region
            all_goals
              go_wp2_with fail
              go_ret
              exact ⟨by rw [HF.out]; rfl, HK1.out.trans HKr.out.drew⟩
      · have hlti : ¬ (k : Int) < (n : Int) := by omega
        have HF : Hid (Q = true) := Lib.hid (by
          rw [HQ.out]
          have h := HT.out
          have hke : k = n := by omega
          rw [hke] at h
          have h1 : L.take n = L := by rw [HN.out, List.take_length]
          have h2 : K.take n = K := by rw [HM.out, List.take_length]
          rw [h1, h2] at h
          exact decide_eq_true h)
        go_wp2_with fail
        go_ret
        exact ⟨by rw [HF.out]; rfl, HK1.out.trans HKr.out⟩
  · have hnmi : ((n : Int) == (m : Int)) = false := by rw [beq_eq_false_iff_ne]; omega
    have hnmi2 : ¬ (n : Int) = (m : Int) := by omega
    have HF : Hid (decide (L = K ∧ r = r) = false) := Lib.hid (decide_eq_false fun e => hnm (by rw [hn, hm, e.1]))
    rw [HF.out]
    clear hL hK hn hm hnm
    go_enter Try.func23, Try.ntmps23
    go_wp2_with fail
    go_ret
    exact ⟨rfl, ((Kept.refl _).alloc _).alloc _⟩
end Go.Proofs.Ytiplibgnfcdlkaa
