import Derived.Test.YtiplibgnfcdlkaaQ24
import Derived.Test.YtiplibgnfcdlkaaQ20
/-
  Walks: the reference's Place, number.
-/
namespace Go.Proofs.Ytiplibgnfcdlkaa
open Go.RowKit

/-- The call's own slice v has become v'; nothing else has changed. -/
structure SFrm (v v' : Value) (w w' : World) : Prop where
  os : w'.os = w.os
  tape : w'.tape = w.tape
  output : w'.output = w.output
  size : w.heap.size ≤ w'.heap.size
  block : ∀ k, k < w.heap.size → v.ownBlock ≠ some k → w'.heap[k]? = w.heap[k]?
  own : ∀ k, v'.ownBlock = some k → v.ownBlock = some k ∨ w.heap.size ≤ k
theorem SFrm.kept {w w' : World} (h : Kept w w') (v : Value) : SFrm v v w w' := ⟨h.os, h.tape, h.output, h.size, fun k hk _ => h.block k hk, fun _ hk => .inl hk⟩
theorem SFrm.refl (v : Value) (w : World) : SFrm v v w w := SFrm.kept (Kept.refl _) v
theorem SFrm.trans {v v1 v2 : Value} {a b c : World} (h : SFrm v v1 a b) (k : SFrm v1 v2 b c) : SFrm v v2 a c := by
  refine ⟨k.os.trans h.os, k.tape.trans h.tape, k.output.trans h.output, Nat.le_trans h.size k.size, fun i hi hn => ?_, fun i hi => ?_⟩
  · refine (k.block i (Nat.lt_of_lt_of_le hi h.size) fun hb => ?_).trans (h.block i hi hn)
    rcases h.own i hb with h1 | h1
    · exact hn h1
    · omega
  · rcases k.own i hi with h1 | h1
    · exact h.own i h1
    · exact .inr (Nat.le_trans h.size h1)
theorem SFrm.toKept {v v' : Value} {w0 w w' : World} (h : SFrm v v' w w') (hk : Kept w0 w) (hn : ∀ k, v.ownBlock = some k → w0.heap.size ≤ k) : Kept w0 w' :=
  ⟨h.os.trans hk.os, h.tape.trans hk.tape, h.output.trans hk.output, Nat.le_trans hk.size h.size, fun k hlt => (h.block k (Nat.lt_of_lt_of_le hlt hk.size) fun ho => by have := hn k ho; omega).trans (hk.block k hlt)⟩
theorem SFrm.above {v v' : Value} {w w' : World} {B : Nat} (h : SFrm v v' w w') (hB : B ≤ w.heap.size) (hn : ∀ k, v.ownBlock = some k → B ≤ k) : ∀ k, v'.ownBlock = some k → B ≤ k := fun k hk => by
  rcases h.own k hk with h1 | h1
  · exact hn k h1
  · omega
theorem SFrm.cell {v v' : Value} {w w' : World} (h : SFrm v v' w w') {b i : Nat} {x : Value} (hc : w.cell? ⟨b, i, none⟩ = some x) (hne : v.ownBlock ≠ some b) : w'.cell? ⟨b, i, none⟩ = some x :=
  (World.cell?_of_block (w := w) (h.block b (World.block_lt_of_cell? w _ hc) hne)).trans hc
theorem OwnInts.blt {w : World} {B : Nat} {v : Value} {xs : List Int} (h : OwnInts w B v xs) {k : Nat} (hk : v.ownBlock = some k) : k < w.heap.size := by
  obtain ⟨cur, h1⟩ := own_lt h.1 hk
  exact (Array.getElem?_eq_some_iff.1 h1).1
section
variable {ops : Array Oper} {rest : List Oper} {o : Oper} {a : Act} {Q : Exit → Act → World → Prop} {w : World}
theorem app_sf (hgd : o.guard = none) (s x : Operand)
    (ho : o.op = .call { callee := .builtin .append, args := #[s, x], argTypes := #[25, 25] }) (v : Value) (xs : List Int) (hs : a.eval s = v) (hown : OwnInts w 0 v xs)
    (ad : Addr) (y : Int) (hx : a.eval x = .slice (some ad) 1 1) (hc : w.cell? ad = some (.int .i64 y)) (hl : xs.length < 17592186044416)
    (h : ∀ v' w', OwnInts w' 0 v' (xs ++ [y]) → SFrm v v' w w' → wpList Try.prog ops Q rest (a.put o.dst v') w') : wpList Try.prog ops Q (o :: rest) a w := by
  obtain ⟨i0, hi0, hz0, hz1, hz2⟩ := info_parts info_int
  refine wpList_append_lies w hgd s x 25 ho 0 3 i0 _ 1 8 Try.underlying25 hi0 hz0 hz1 hz2 rfl (by omega) v xs.length _ hs hown.1 ad 1 1 [.int .i64 y] hx rfl ?_ (by simp [Value.oneCell']) (by omega) (by unfold maxLen; omega) (by omega) (Nat.zero_le _) w.heap.size rfl ?_
  · intro j u hj
    match j, hj with
    | 0, hj => simp at hj; subst hj; simpa [Addr.add] using hc
  · intro g cap w' h2 h3 h4 h5
    refine h _ w' ⟨by simpa using h2, by simp; omega⟩ ⟨h3.os, h3.tape, h3.output, h3.size, fun k hk hn => h3.block k hk (fun e => hn e.symm), fun k hk => ?_⟩
    obtain rfl : g = k := by simpa [Value.ownBlock] using hk
    exact h4.imp id (fun e => by omega)
end
theorem place_any (v : Value) (xs : List Int) (x : Int) (W : World) (h : IntsAt W v xs) :
    Calls Try.prog 65 #[v, .int .i64 x] W fun e w' => (∃ p : Int, e = .returned (.int .i64 p) ∧ (0 ≤ p ↔ x ∈ xs)) ∧ W = w' := by
  obtain ⟨a, cp, rfl, ⟨hc, hcn⟩, hl2, hx⟩ := h
  obtain ⟨n, hn⟩ : ∃ n, n = xs.length := ⟨_, rfl⟩
  have HN := Lib.hid hn
  have HX := Lib.hid hx
  rw [← hn] at hc hl2 ⊢
  clear hx hn
  go_enter Try.func65, Try.ntmps65
  go_wp2_with fail
  go_loopg [5] n (fun kx s5 wr => ∃ k : Nat, s5 = .int .i64 k ∧ k ≤ n ∧ n - k ≤ kx ∧ Hid (x ∉ xs.take k) ∧ Hid (wr = W))
  case atStart => exact ⟨0, by first | rfl | go_num, Nat.zero_le _, by omega, Lib.hid (by simp), Lib.hid rfl⟩
  case round =>
    obtain ⟨k, rfl, hk, hkx, HT, HW⟩ := hrel
    obtain rfl := HW.out
    clear HW
    by_cases hlt : k < n
    · have hlti : (k : Int) < (n : Int) := by omega
      have hk0 : (0 : Int) ≤ (k : Int) := by omega
      have hkx2 : k < xs.length := by rw [← HN.out]; exact hlt
      obtain ⟨b, o, rfl, p0⟩ := HX.out k hkx2
      obtain ⟨y, hy⟩ : ∃ y, y = xs[k] := ⟨_, rfl⟩
      rw [← hy] at p0
      by_cases hxy : y = x
      · have HM : Hid (x ∈ xs) := Lib.hid (by rw [← hxy, hy]; exact List.getElem_mem _)
        subst hxy
        have hb : (y == y) = true := beq_self_eq_true _
        clear hy
        go_wp2_with fail
        go_ret
        exact ⟨⟨_, rfl, fun _ => HM.out, fun _ => by omega⟩, rfl⟩
      · have hb : (y == x) = false := beq_eq_false_iff_ne.2 hxy
        have HT2 : Hid (x ∉ xs.take (k + 1)) := Lib.hid (by
          rw [List.take_succ_eq_append_getElem hkx2]
          intro h
          rcases List.mem_append.1 h with h | h
          · exact HT.out h
          · rw [List.mem_singleton] at h; exact hxy (by rw [hy, h]))
        clear hy hxy hkx2
        go_wp2_with fail
        go_roundg (n - (k + 1))
        case measure => omega
        case rel => exact ⟨k + 1, by go_num, by omega, Nat.le_refl _, HT2, Lib.hid rfl⟩
    · have hlti : ¬ (k : Int) < (n : Int) := by omega
      have HNM : Hid (x ∉ xs) := Lib.hid (by
        have h := HT.out
        rwa [show k = n by omega, HN.out, List.take_length] at h)
      go_wp2_with fail
      go_ret
      exact ⟨⟨_, rfl, fun h => by omega, fun h => absurd h HNM.out⟩, rfl⟩
theorem natI_mem {l : List Nat} {r : Nat} : (r : Int) ∈ natI l ↔ r ∈ l := by
  unfold natI
  rw [List.mem_map]
  constructor
  · rintro ⟨a, h, e⟩
    have : a = r := by omega
    rw [← this]; exact h
  · exact fun h => ⟨r, h, rfl⟩
set_option maxRecDepth 100000 in
set_option maxHeartbeats 4000000 in
theorem znumber_any {N : List ZNode} (hg : ZGood N) (w0 : World) (zv : Value) (root : Int) (hz : ZeroAt w0 zv (N.map zi) root) (hN : N.length ≤ 4096) : ∀ r, r ≤ 1 + N.length → ∀ (W : World) (v : Value) (s : List Nat × List ZNode), Kept w0 W → (∀ k, v.ownBlock = some k → w0.heap.size ≤ k) → OwnInts W 0 v (natI s.1) → ZSt N s →
    Calls Try.prog 51 #[zv, .int .i64 r, v] W fun e w' => ∃ v', e = .returned v' ∧ OwnInts w' 0 v' (natI (zwalk N r r s).1) ∧ SFrm v v' W w' := by
  intro r
  induction r using Nat.strongRecOn with
  | ind r ih =>
    intro hr W v s hk0 hab hv hS
    obtain ⟨sv, rfl, hd⟩ := id hz
    obtain ⟨ad, cp, rfl⟩ := hd.shape
    obtain ⟨n, hn⟩ : ∃ n, n = (N.map zi).length := ⟨_, rfl⟩
    have hcap := hd.cap
    rw [← hn] at hz hd hcap ⊢
    have hPL := fun w (hw : Kept W w) => place_any v (natI s.1) (r : Int) w (hv.kept hw).ints
    obtain ⟨w1, hw1⟩ : ∃ w1, w1 = W.alloc (.cells #[.slice ad n cp, .int .i64 root] 24) := ⟨_, rfl⟩
    have hk1 : Kept W w1 := by rw [hw1]; exact (Kept.refl _).alloc _
    have HW1 := Lib.hid hw1
    have HK1 := Lib.hid hk1
    have HV := Lib.hid hv
    have HAB := Lib.hid hab
    by_cases hdone : r < 2 ∨ r ∈ s.1
    · have e : zwalk N r r s = s := by
        cases r with
        | zero => rfl
        | succ k => unfold zwalk; rw [if_pos hdone]
      rw [e]
      have HFIN : Hid (∃ v', Ending.returned v = .returned v' ∧ OwnInts w1 0 v' (natI s.1) ∧ SFrm v v' W w1) := Lib.hid ⟨v, rfl, hv.kept hk1, SFrm.kept hk1 v⟩
      by_cases h2 : r < 2
      · have h2i : (r : Int) < 2 := by omega
        clear e hdone hPL hw1 hk1 hv hab hS hz hd hk0 ih hr hn hcap
        go_enter Try.func51, Try.ntmps51
        go_upto_region 1 with fail
        rw [← HW1.out]
        go_wp2_with fail
        go_ret
        exact HFIN.out
      · have h2i : ¬ (r : Int) < 2 := by omega
        have HPL : Hid (Calls Try.prog 65 #[v, .int .i64 (r : Nat)] w1 fun e w' => (∃ p : Int, e = .returned (.int .i64 p) ∧ 0 ≤ p) ∧ w1 = w') := Lib.hid ((hPL w1 hk1).mono fun e w' ⟨⟨p, h1, h2'⟩, h3⟩ => ⟨⟨p, h1, h2'.2 (natI_mem.2 (hdone.resolve_left h2))⟩, h3⟩)
        clear e hdone hPL hw1 hk1 hv hab hS hz hd hk0 ih hr h2 hn hcap
        go_enter Try.func51, Try.ntmps51
        go_upto_region 1 with fail
        rw [← HW1.out]
        go_wp2_with ((go_at_call 65; refine HPL.out.mono ?_; rintro e w2 ⟨⟨p, rfl, hp⟩, rfl⟩))
        go_ret
        exact HFIN.out
    · have h2 : ¬ r < 2 := fun h => hdone (.inl h)
      have hnm : r ∉ s.1 := fun h => hdone (.inr h)
      obtain ⟨i, hi⟩ : ∃ i, r = i + 2 := ⟨r - 2, by omega⟩
      have hiN : i < N.length := by omega
      have hlo := hg.lo i hiN
      have hhi := hg.hi i hiN
      obtain ⟨bb, oo, rfl, y0, y1, y2⟩ := hd.read i (by rw [List.length_map]; exact hiN)
      have hin : i < n := by rw [hn, List.length_map]; exact hiN
      rw [List.getElem_map] at y0 y1 y2
      have hstep := zwalk_step hg hiN (s := s) (by rw [← hi]; exact hnm)
      rw [← hi] at hstep
      obtain ⟨nv, hnv⟩ : ∃ l, l = N[i].v := ⟨_, rfl⟩
      obtain ⟨l0, hl0⟩ : ∃ l, l = N[i].lo := ⟨_, rfl⟩
      obtain ⟨l1, hl1⟩ : ∃ l, l = N[i].hi := ⟨_, rfl⟩
      rw [show (zi N[i]).v = (nv : Int) by rw [hnv]; rfl] at y0
      rw [show (zi N[i]).lo = (l0 : Int) by rw [hl0]; rfl] at y1
      rw [show (zi N[i]).hi = (l1 : Int) by rw [hl1]; rfl] at y2
      rw [← hnv, ← hl0, ← hl1] at hstep
      rw [← hl0] at hlo
      rw [← hl1] at hhi
      have k1 := zwalk_ok hg l0 (by omega) l0 (Nat.le_refl _) s hS
      obtain ⟨s1, hs1⟩ : ∃ s1, s1 = zwalk N l0 l0 s := ⟨_, rfl⟩
      have hi0 := ih l0 (by omega) (by omega)
      have hi1 := ih l1 (by omega) (by omega)
      rw [← hn] at hi0 hi1
      rw [← hs1] at k1 hstep
      have k2 := zwalk_ok hg l1 (by omega) l1 (Nat.le_refl _) s1 k1.st
      obtain ⟨s2, hs2⟩ : ∃ s2, s2 = zwalk N l1 l1 s1 := ⟨_, rfl⟩
      rw [← hs2] at k2 hstep
      have hlens : s2.1.length ≤ 4096 := by have := k2.st.short; have := k2.st.len; omega
      rw [hstep]
      have h2i : ¬ (r : Int) < 2 := by omega
      have hri : (r : Int) - 2 = (i : Int) := by omega
      have hii : (i : Int) < (n : Int) := by omega
      have hi00 : (0 : Int) ≤ (i : Int) := by omega
      have hib : i ≤ 4096 := by omega
      have HPL : Hid (Calls Try.prog 65 #[v, .int .i64 (r : Nat)] w1 fun e w' => (∃ p : Int, e = .returned (.int .i64 p) ∧ ¬ 0 ≤ p) ∧ w1 = w') := Lib.hid ((hPL w1 hk1).mono fun e w' ⟨⟨p, h1, h2'⟩, h3⟩ => ⟨⟨p, h1, fun h => hnm (natI_mem.1 (h2'.1 h))⟩, h3⟩)
      have hx1 : RowAt w1 W.heap.size 24 [.slice (some ⟨bb, oo, none⟩) n cp, .int .i64 root] := by rw [hw1]; exact RowAt.made W #[.slice (some ⟨bb, oo, none⟩) n cp, .int .i64 root] 24
      have x0 := hx1.cell (i := 0) (by simp)
      have x1 := hx1.cell (i := 1) (by simp)
      simp only [List.getElem_cons_succ, List.getElem_cons_zero] at x0 x1
      have hk01 := hk0.trans hk1
      have z0 := hk01.cell y0
      have z1 := hk01.cell y1
      have z2 := hk01.cell y2
      obtain ⟨w2, hw2⟩ : ∃ w2, w2 = w1.alloc (.cells #[.int .i64 nv, .int .i64 l0, .int .i64 l1] 63) := ⟨_, rfl⟩
      have hk2 : Kept w1 w2 := by rw [hw2]; exact (Kept.refl _).alloc _
      have hx2 : RowAt w2 w1.heap.size 63 [.int .i64 nv, .int .i64 l0, .int .i64 l1] := by rw [hw2]; exact RowAt.made w1 #[.int .i64 nv, .int .i64 l0, .int .i64 l1] 63
      have u0 := hx2.cell (i := 0) (by simp)
      have u1 := hx2.cell (i := 1) (by simp)
      have u2 := hx2.cell (i := 2) (by simp)
      simp only [List.getElem_cons_succ, List.getElem_cons_zero] at u0 u1 u2
      have t0 := hk2.cell x0
      have t1 := hk2.cell x1
      have hvl : ∀ k, v.ownBlock = some k → k < W.heap.size := fun k hk => hv.blt hk
      have hs1w : w1.heap.size = W.heap.size + 1 := by rw [hw1]; simp
      have HA : Hid (Calls Try.prog 51 #[.agg #[.slice (some ⟨bb, oo, none⟩) n cp, .int .i64 root], .int .i64 (l0 : Nat), v] w2 fun e w' => ∃ v', e = .returned v' ∧ OwnInts w' 0 v' (natI s1.1) ∧ SFrm v v' w2 w') := Lib.hid (by
        have := hi0 w2 v s (hk01.trans hk2) hab ((hv.kept hk1).kept hk2) hS
        rw [← hs1] at this
        exact this)
      have HB : Hid (∀ w v1, Kept w0 w → (∀ k, v1.ownBlock = some k → w0.heap.size ≤ k) → OwnInts w 0 v1 (natI s1.1) → Calls Try.prog 51 #[.agg #[.slice (some ⟨bb, oo, none⟩) n cp, .int .i64 root], .int .i64 (l1 : Nat), v1] w fun e w' => ∃ v', e = .returned v' ∧ OwnInts w' 0 v' (natI s2.1) ∧ SFrm v1 v' w w') := Lib.hid fun w v1 h1 h2 h3 => by
        have := hi1 w v1 s1 h1 h2 h3 k1.st
        rw [← hs2] at this
        exact this
      have HK02 := Lib.hid (hk01.trans hk2)
      have HK12 := Lib.hid (hk1.trans hk2)
      have HT := Lib.hid (And.intro t0 (And.intro t1 u2))
      have HVL : Hid (∀ k, v.ownBlock = some k → k < W.heap.size) := Lib.hid hvl
      have HS1W := Lib.hid hs1w
      have HW2 := Lib.hid hw2
      have HLEN : Hid ((natI s2.1).length < 17592186044416) := Lib.hid (by rw [natI_len]; omega)
      clear hdone h2 hnm hlo hhi y0 y1 y2 hstep hnv hl0 hl1 k1 hs1 k2 hs2 hlens hPL hw1 hk1 hv hab hS hz hd hk0 ih hr hi0 hi1 hk01 hx1 hk2 hx2 hvl hs1w hw2 hi hiN hn
      go_enter Try.func51, Try.ntmps51
      go_upto_region 1 with fail
      rw [← HW1.out]
      go_upto_region 4 with ((go_at_call 65; refine HPL.out.mono ?_; rintro e w3 ⟨⟨p, rfl, hp⟩, rfl⟩))
      rw [← HW2.out]
      clear x0 x1 z0 z1 z2
      go_wp2_with fail
      refine HA.out.mono ?_
      rintro e w4 ⟨v1, rfl, ho4, hf4⟩
      have hne : v.ownBlock ≠ some W.heap.size := fun e => by have := HVL.out _ e; omega
      have hne2 : v.ownBlock ≠ some w1.heap.size := fun e => by have := HVL.out _ e; have := HS1W.out; omega
      have q0 := hf4.cell HT.out.1 hne
      have q1 := hf4.cell HT.out.2.1 hne
      have q2 := hf4.cell HT.out.2.2 hne2
      have HB4 := Lib.hid (HB.out w4 v1 (hf4.toKept HK02.out HAB.out) (hf4.above HK02.out.size HAB.out) ho4)
      have HF4 := Lib.hid hf4
      clear ho4 hf4 hne hne2 t0 t1 u0 u1 u2
      go_wp2_with fail
      refine HB4.out.mono ?_
      rintro e w5 ⟨v2, rfl, ho5, hf5⟩
      have HO5 := Lib.hid ho5
      have HF5 := Lib.hid (HF4.out.trans hf5)
      have HKA : Hid (Kept w5 (w5.alloc (.cells #[.int .i64 (r : Nat)] 3))) := Lib.hid ((Kept.refl _).alloc _)
      have HCA : Hid ((w5.alloc (.cells #[.int .i64 (r : Nat)] 3)).cell? ⟨w5.heap.size, 0, none⟩ = some (.int .i64 (r : Nat))) := Lib.hid (by simp)
      clear ho5 hf5 q0 q1 q2
      go_wp2_with (at_builtin; (refine app_sf rfl _ _ rfl v2 (natI s2.1) rfl (HO5.out.kept HKA.out) ⟨w5.heap.size, 0, none⟩ (r : Int) rfl HCA.out HLEN.out ?_); intro v3 w7 hown7 hf7; have HO7 := Lib.hid hown7; have HF7 := Lib.hid hf7; clear hown7 hf7)
      go_ret
      refine ⟨v3, rfl, ?_, ((SFrm.kept HK12.out v).trans HF5.out).trans ((SFrm.kept HKA.out v2).trans HF7.out)⟩
      have e : natI (s2.1 ++ [r]) = natI s2.1 ++ [(r : Int)] := by unfold natI; rw [List.map_append]; rfl
      rw [e]; exact HO7.out
end Go.Proofs.Ytiplibgnfcdlkaa
