import Derived.Test.YtiplibgnfcdlkaaQ17
import Derived.Laws.EntriesVeiled
/-
  Walk: Export of decision.Sets: the diagram of a reference, its nodes numbered anew.
-/
namespace Go.Proofs.Ytiplibgnfcdlkaa
open Go.RowKit

theorem TFrm.app {t : ZT} {W W1 w5 : World} {v v5 : Value} (c0 : W.cell? ⟨t.tb, 0, none⟩ = some v) (hk : Kept W W1) (hg : W1.grownBy w5 v.ownBlock) (hat : v.ownBlock = v5.ownBlock ∨ ∀ g, v5.ownBlock = some g → W.heap.size ≤ g)
    (c6 : (w5.setCell ⟨t.tb, 0, none⟩ v5).cell? ⟨t.tb, 0, none⟩ = some v5) : TFrm t W (w5.setCell ⟨t.tb, 0, none⟩ v5) := by
  have hoth : ∀ k, k ≠ t.tb → (w5.setCell ⟨t.tb, 0, none⟩ v5).heap[k]? = w5.heap[k]? := fun k hk => Below.heap_setCell w5 ⟨t.tb, 0, none⟩ v5 k hk
  have hsz : (w5.setCell ⟨t.tb, 0, none⟩ v5).heap.size = w5.heap.size := by simp [World.setCell]
  refine ⟨?_, ?_, ?_, ?_, fun k hk1 hn => ?_, fun k hk1 => ?_⟩
  · exact (show (w5.setCell ⟨t.tb, 0, none⟩ v5).os = w5.os from rfl).trans (hg.os.trans hk.os)
  · exact (show (w5.setCell ⟨t.tb, 0, none⟩ v5).tape = w5.tape from rfl).trans (hg.tape.trans hk.tape)
  · exact (show (w5.setCell ⟨t.tb, 0, none⟩ v5).output = w5.output from rfl).trans (hg.output.trans hk.output)
  · rw [hsz]; exact Nat.le_trans hk.size hg.size
  · have h1 : k ≠ t.tb := fun e => hn (.inl e)
    have h2 : some k ≠ v.ownBlock := fun e => hn (.inr (.inr (.inr ⟨v, c0, e.symm⟩)))
    exact (hoth k h1).trans ((hg.block k (Nat.lt_of_lt_of_le hk1 hk.size) h2).trans (hk.block k hk1))
  · rcases hk1 with h1 | h1 | h1 | ⟨u, h1, h2⟩
    · exact .inl (.inl h1)
    · exact .inl (.inr (.inl h1))
    · exact .inl (.inr (.inr (.inl h1)))
    · rw [c6] at h1
      cases h1
      rcases hat with h3 | h3
      · exact .inl (.inr (.inr (.inr ⟨v, c0, by rw [h3]; exact h2⟩)))
      · exact .inr (h3 k h2)
/-- What Export changes: the result's nodes and the map of the numbers. -/
def expT (xb rb : Nat) : ZT := ⟨xb, rb, rb⟩
def ExpAt (w : World) (xb rb : Nat) (l : List Nat) (M : List ZNode) : Prop :=
  ∃ (v : Value) (L : List (Nat × Value)), RowAt w xb 24 [v, .int .i64 0] ∧ w.ownsRow 0 63 3 v M.length (M.flatMap znC) ∧ MapK ikV w rb L ∧ ∀ r, findK r L = if r < 2 ∨ r ∈ l then some (.int .i64 ((zx l r : Nat) : Int)) else none
theorem ExpAt.kept {w w' : World} {xb rb : Nat} {l : List Nat} {M : List ZNode} (h : ExpAt w xb rb l M) (hk : Kept w w') : ExpAt w' xb rb l M := by
  obtain ⟨v, L, h1, h2, h3, h4⟩ := h
  exact ⟨v, L, h1.kept hk, own_kept h2 hk, h3.same (hk.block _ h3.lt), h4⟩
theorem ExpAt.lt {w : World} {xb rb : Nat} {l : List Nat} {M : List ZNode} (h : ExpAt w xb rb l M) : xb < w.heap.size := by obtain ⟨_, _, h1, _⟩ := h; exact h1.lt
theorem ExpAt.frm {w w' : World} {xb rb : Nat} {l : List Nat} {M : List ZNode} (h : ExpAt w xb rb l M) (hk : Kept w w') : TFrm (expT xb rb) w w' := TFrm.kept hk h.lt
theorem ExpAt.own_lt {w : World} {xb rb : Nat} {l : List Nat} {M : List ZNode} (h : ExpAt w xb rb l M) {k : Nat} (hk : (expT xb rb).own w k) : k < w.heap.size := by
  obtain ⟨v, L, h1, h2, h3, _⟩ := h
  rcases hk with rfl | rfl | rfl | ⟨u, e1, e2⟩
  · exact h1.lt
  · exact h3.lt
  · exact h3.lt
  · have := h1.cell (i := 0) (by simp)
    rw [show (expT xb rb).tb = xb from rfl] at e1
    rw [e1] at this
    obtain rfl : u = v := by simpa using this
    obtain ⟨cur, hc⟩ := Go.Proofs.Ytiplibgnfcdlkaa.own_lt h2 e2
    rcases Nat.lt_or_ge k w.heap.size with h | h
    · exact h
    · simp [Array.getElem?_eq_none h] at hc
theorem ExpAt.box {w : World} {xb rb : Nat} {l : List Nat} {M : List ZNode} (h : ExpAt w xb rb l M) {b i : Nat} {w' : World} {v : Value} (hk : Kept w w') (hb : w.heap.size ≤ b) (hc : w'.cell? ⟨b, i, none⟩ = some v) : Box (expT xb rb) w' b i v :=
  ⟨hc, fun ho => by have := h.own_lt (ZT.own_same (hk.block _ h.lt) ho); omega⟩
/-- One node more. -/
theorem exp_node {W w5 : World} {xb rb m : Nat} {M : List ZNode} {n : ZNode} {v v5 r0 : Value} {L : List (Nat × Value)} (hr : RowAt W xb 24 [v, r0]) (hv : W.ownsRow 0 63 3 v m (M.flatMap znC)) (hu : MapK ikV W rb L)
    {W1 : World} (hk : Kept W W1) (hg : W1.grownBy w5 v.ownBlock) (hown : w5.ownsRow 0 63 3 v5 (m + 1) (M.flatMap znC ++ znC n)) (hat : v.ownBlock = v5.ownBlock ∨ ∀ g, v5.ownBlock = some g → W.heap.size ≤ g)
    {w6 : World} (h6 : w6 = w5.setCell ⟨xb, 0, none⟩ v5) :
    RowAt w6 xb 24 [v5, r0] ∧ w6.ownsRow 0 63 3 v5 (m + 1) (M.flatMap znC ++ znC n) ∧ MapK ikV w6 rb L ∧ TFrm (expT xb rb) W w6 := by
  subst h6
  have hne1 : some xb ≠ v.ownBlock := fun e => by
    obtain ⟨cur, h1⟩ := own_lt hv e.symm
    obtain ⟨cur2, h2, _⟩ := hr
    rw [h1] at h2
    cases h2
  have hb1 : w5.heap[xb]? = W.heap[xb]? := (hg.block _ (Nat.lt_of_lt_of_le hr.lt hk.size) hne1).trans (hk.block _ hr.lt)
  have hr5 := hr.same hb1
  have hne2 : some xb ≠ v5.ownBlock := fun e => by
    obtain ⟨cur, h1⟩ := own_lt hown e.symm
    obtain ⟨cur2, h2, _⟩ := hr5
    rw [h1] at h2
    cases h2
  have hr6 : RowAt (w5.setCell ⟨xb, 0, none⟩ v5) xb 24 [v5, r0] := by
    have := hr5.store 0 v5
    simpa using this
  have hoth : ∀ k, k ≠ xb → (w5.setCell ⟨xb, 0, none⟩ v5).heap[k]? = w5.heap[k]? := fun k hk => Below.heap_setCell w5 ⟨xb, 0, none⟩ v5 k hk
  have htu : rb ≠ xb := fun e => by obtain ⟨cur, h1, _⟩ := hr; rw [← e] at h1; exact hu.notCells h1
  have hvu : some rb ≠ v.ownBlock := fun e => by obtain ⟨cur, h1⟩ := own_lt hv e.symm; exact hu.notCells h1
  have hbu : (w5.setCell ⟨xb, 0, none⟩ v5).heap[rb]? = W.heap[rb]? := (hoth _ htu).trans ((hg.block _ (Nat.lt_of_lt_of_le hu.lt hk.size) hvu).trans (hk.block _ hu.lt))
  have c6 := hr6.cell (i := 0) (by simp)
  simp only [List.getElem_cons_zero] at c6
  have cW := hr.cell (i := 0) (by simp)
  simp only [List.getElem_cons_zero] at cW
  exact ⟨hr6, own_block hown fun k hk => hoth k fun e => hne2 (by rw [← e]; exact hk.symm), hu.same hbu, TFrm.app (t := expT xb rb) cW hk hg hat c6⟩
/-- The number of the node that was left last. -/
theorem exp_done {w6 w7 : World} {xb rb : Nat} {l : List Nat} {M : List ZNode} {n : ZNode} {m r : Nat} {v5 : Value} {L : List (Nat × Value)} (hmn : m = M.length) (hml : M.length = l.length) (h2 : ¬ r < 2) (hl : r ∉ l)
    (hr : RowAt w6 xb 24 [v5, .int .i64 0]) (hv : w6.ownsRow 0 63 3 v5 (m + 1) (M.flatMap znC ++ znC n)) (hu : MapK ikV w6 rb L) (hL : ∀ r, findK r L = if r < 2 ∨ r ∈ l then some (.int .i64 ((zx l r : Nat) : Int)) else none)
    (hm7 : MapK ikV w7 rb (putK r (.int .i64 ((2 + m : Nat) : Int)) L)) (hg7 : w6.grownBy w7 (some rb)) : ExpAt w7 xb rb (l ++ [r]) (M ++ [n]) ∧ TFrm (expT xb rb) w6 w7 ∧ zx (l ++ [r]) r = 2 + m := by
  have htu : xb ≠ rb := fun e => by obtain ⟨cur, h1, _⟩ := hr; rw [e] at h1; exact hu.notCells h1
  have hb : ∀ k, k < w6.heap.size → k ≠ rb → w7.heap[k]? = w6.heap[k]? := fun k hk hne2 => hg7.block k hk fun e => hne2 (by cases e; rfl)
  have hz : zx (l ++ [r]) r = 2 + m := by rw [zx_new h2 hl, hmn, hml]
  refine ⟨⟨v5, _, hr.same (hb _ hr.lt htu), ?_, hm7, fun k => ?_⟩, TFrm.grown (t := expT xb rb) hg7 (.inr (.inl rfl)) hr.lt htu, hz⟩
  · rw [List.length_append, List.flatMap_append]
    have h9 : w6.ownsRow 0 63 3 v5 (M.length + 1) (M.flatMap znC ++ znC n) := by rw [← hmn]; exact hv
    have h10 := own_block (w' := w7) h9 fun k hk => by
      obtain ⟨cur, h1⟩ := own_lt hv hk
      refine hb k ?_ fun e => ?_
      · rcases Nat.lt_or_ge k w6.heap.size with h | h
        · exact h
        · simp [Array.getElem?_eq_none h] at h1
      · rw [e] at h1; exact hu.notCells h1
    simpa using h10
  · rw [findK_put, hL]
    by_cases h : k = r
    · subst h
      rw [if_pos rfl, if_pos (.inr (by simp)), hz]
    · rw [if_neg h]
      by_cases h3 : k < 2 ∨ k ∈ l
      · rw [if_pos h3, if_pos (h3.imp id fun h => List.mem_append_left _ h), zx_app h3]
      · rw [if_neg h3, if_neg]
        intro h4
        rcases h4 with h4 | h4
        · exact h3 (.inl h4)
        · rcases List.mem_append.1 h4 with h4 | h4
          · exact h3 (.inr h4)
          · simp at h4; exact h h4
theorem zwalk_fuel {N : List ZNode} (hg : ZGood N) : ∀ r, r ≤ 1 + N.length → ∀ k k', r ≤ k → r ≤ k' → ∀ s, zwalk N k r s = zwalk N k' r s := by
  intro r
  induction r using Nat.strongRecOn with
  | ind r ih =>
    intro hr k k' hk hk' s
    by_cases h0 : r < 2 ∨ r ∈ s.1
    · have e : ∀ k, zwalk N k r s = s := fun k => by
        cases k with
        | zero => rfl
        | succ k => unfold zwalk; rw [if_pos h0]
      rw [e, e]
    · have h2 : ¬ r < 2 := fun h => h0 (.inl h)
      obtain ⟨k, rfl⟩ : ∃ x, k = x + 1 := ⟨k - 1, by omega⟩
      obtain ⟨k', rfl⟩ : ∃ x, k' = x + 1 := ⟨k' - 1, by omega⟩
      obtain ⟨i, rfl⟩ : ∃ i, r = i + 2 := ⟨r - 2, by omega⟩
      have hi : i < N.length := by omega
      have hlo := (hg.lo i hi).1
      have hhi := (hg.hi i hi).1
      rw [zwalk, if_neg h0, zwalk, if_neg h0, show i + 2 - 2 = i by omega, List.getElem?_eq_getElem hi]
      simp only [ih N[i].lo (by omega) (by omega) k k' (by omega) (by omega), ih N[i].hi (by omega) (by omega) k k' (by omega) (by omega)]
theorem zwalk_step {N : List ZNode} (hg : ZGood N) {i : Nat} (hi : i < N.length) {s : List Nat × List ZNode} (hm : i + 2 ∉ s.1) :
    zwalk N (i + 2) (i + 2) s = ((zwalk N N[i].hi N[i].hi (zwalk N N[i].lo N[i].lo s)).1 ++ [i + 2], (zwalk N N[i].hi N[i].hi (zwalk N N[i].lo N[i].lo s)).2 ++ [⟨N[i].v, zx (zwalk N N[i].hi N[i].hi (zwalk N N[i].lo N[i].lo s)).1 N[i].lo, zx (zwalk N N[i].hi N[i].hi (zwalk N N[i].lo N[i].lo s)).1 N[i].hi⟩]) := by
  have hlo := (hg.lo i hi).1
  have hhi := (hg.hi i hi).1
  rw [show zwalk N (i + 2) (i + 2) s = zwalk N (i + 1 + 1) (i + 2) s from rfl, zwalk, if_neg (fun h => h.elim (fun h => by omega) hm), show i + 2 - 2 = i by omega, List.getElem?_eq_getElem hi]
  simp only [zwalk_fuel hg N[i].lo (by omega) (i + 1) N[i].lo (by omega) (Nat.le_refl _), zwalk_fuel hg N[i].hi (by omega) (i + 1) N[i].hi (by omega) (Nat.le_refl _)]
/-- How many nodes a walk visits at most. -/
theorem zwalk_len {N : List ZNode} (hg : ZGood N) : ∀ r, r ≤ 1 + N.length → ∀ s : List Nat × List ZNode, s.2.length = s.1.length → (zwalk N r r s).1.length ≤ s.1.length + (24 - zev N r) * zct N r := by
  intro r
  induction r using Nat.strongRecOn with
  | ind r ih =>
    intro hr s hs
    by_cases h0 : r < 2 ∨ r ∈ s.1
    · have e : zwalk N r r s = s := by
        cases r with
        | zero => rfl
        | succ k => unfold zwalk; rw [if_pos h0]
      rw [e]
      omega
    · have h2 : ¬ r < 2 := fun h => h0 (.inl h)
      obtain ⟨i, rfl⟩ : ∃ i, r = i + 2 := ⟨r - 2, by omega⟩
      have hi : i < N.length := by omega
      have hlo := hg.lo i hi
      have hhi := hg.hi i hi
      have hv := hg.ev i hi
      have w1len : ∀ r s, (s : List Nat × List ZNode).2.length = s.1.length → (zwalk N r r s).2.length = (zwalk N r r s).1.length := by
        have gen : ∀ k r s, (s : List Nat × List ZNode).2.length = s.1.length → (zwalk N k r s).2.length = (zwalk N k r s).1.length := by
          intro k
          induction k with
          | zero => intro r s h; exact h
          | succ k ihk =>
            intro r s h
            unfold zwalk
            split
            · exact h
            · split
              · exact h
              · simp only [List.length_append, List.length_singleton]
                rw [ihk _ _ (ihk _ _ h)]
        exact fun r => gen r r
      rw [zwalk_step hg hi (fun h => h0 (.inr h))]
      have i1 := ih N[i].lo (by omega) (by omega) s hs
      have i2 := ih N[i].hi (by omega) (by omega) (zwalk N N[i].lo N[i].lo s) (w1len _ _ hs)
      rw [zev_node hi, zct_node hg hi, List.length_append, List.length_singleton]
      have p1 := zct_pos hg N[i].hi (by omega) hhi.2.1
      have b1 : (24 - zev N N[i].lo) * zct N N[i].lo ≤ (23 - N[i].v) * zct N N[i].lo := Nat.mul_le_mul_right _ (by omega)
      have b2 : (24 - zev N N[i].hi) * zct N N[i].hi ≤ (23 - N[i].v) * zct N N[i].hi := Nat.mul_le_mul_right _ (by omega)
      have e : (24 - N[i].v) * (zct N N[i].lo + zct N N[i].hi) = (23 - N[i].v) * zct N N[i].lo + (23 - N[i].v) * zct N N[i].hi + (zct N N[i].lo + zct N N[i].hi) := by
        rw [show 24 - N[i].v = (23 - N[i].v) + 1 by omega, Nat.add_mul, Nat.one_mul, Nat.mul_add]
      rw [e]
      omega
end Go.Proofs.Ytiplibgnfcdlkaa

/-
  Walk: Export of decision.Sets: the closure and the whole.
-/
namespace Go.Proofs.Ytiplibgnfcdlkaa
open Go.RowKit

theorem zero_int_ik (w : World) : (zeroValue 3).run Try.prog w = .ok (.int .i64 0) w := zero_int_run w
/-- The function value of a walk. -/
def expV (b1 b2 b3 xb : Nat) : Value := .func (.func 80) #[] #[.pointer (some ⟨b1, 0, none⟩), .pointer (some ⟨b2, 0, none⟩), .pointer (some ⟨b3, 0, none⟩), .pointer (some ⟨xb, 0, none⟩)]
/-- What the closure wants of memory. -/
structure ExpC (t : ZT) (b1 b2 b3 xb rb : Nat) (w0 W : World) (s : List Nat × List ZNode) : Prop where
  kept : Kept w0 W
  own : ∀ k, (expT xb rb).own W k → w0.heap.size ≤ k
  exp : ExpAt W xb rb s.1 s.2
  bx1 : Box (expT xb rb) W b1 0 (.map (some rb))
  bx2 : Box (expT xb rb) W b2 0 t.val
  bx3 : Box (expT xb rb) W b3 0 (expV b1 b2 b3 xb)
theorem ExpC.frm {t : ZT} {b1 b2 b3 xb rb : Nat} {w0 W w' : World} {s s' : List Nat × List ZNode} (h : ExpC t b1 b2 b3 xb rb w0 W s) (hf : TFrm (expT xb rb) W w') (ha : ExpAt w' xb rb s'.1 s'.2) : ExpC t b1 b2 b3 xb rb w0 w' s' :=
  ⟨hf.toKept h.kept h.own, hf.above h.kept.size h.own, ha, h.bx1.frm hf, h.bx2.frm hf, h.bx3.frm hf⟩
theorem zlen_le {α : Type} [DecidableEq α] : ∀ {a b : List α}, a.Nodup → (∀ x ∈ a, x ∈ b) → a.length ≤ b.length := by
  intro a
  induction a with
  | nil => intro b _ _; exact Nat.zero_le _
  | cons x a ih =>
    intro b hn h
    rw [List.nodup_cons] at hn
    have hx := h x List.mem_cons_self
    have h2 := ih (b := b.erase x) hn.2 fun y hy => (List.mem_erase_of_ne (fun e => hn.1 (by rw [← e]; exact hy))).2 (h y (List.mem_cons_of_mem _ hy))
    have h3 := List.length_erase_of_mem hx
    have h4 : 0 < b.length := List.length_pos_of_mem hx
    rw [List.length_cons]
    omega
theorem ZSt.nodup {N : List ZNode} {s : List Nat × List ZNode} (h : ZSt N s) : s.1.Nodup := by
  rw [List.nodup_iff_pairwise_ne, List.pairwise_iff_getElem]
  intro a b ha hb hab e
  have e2 := h.len
  have := zm_inj h.good (2 + a) (by omega) (2 + b) (by omega) fun t => by rw [h.mem a ha, h.mem b hb, e]
  omega
theorem ZSt.short {N : List ZNode} {s : List Nat × List ZNode} (h : ZSt N s) : s.2.length ≤ N.length := by
  have hsub : s.1.length ≤ ((List.range N.length).map (· + 2)).length := zlen_le h.nodup fun x hx => by
    have h9 := h.rng x hx
    exact List.mem_map.2 ⟨x - 2, List.mem_range.2 (by omega), by omega⟩
  rw [List.length_map, List.length_range] at hsub
  rw [h.len]
  exact hsub
/-- What the closure leaves. -/
def ExpPost (N : List ZNode) (xb rb r : Nat) (s : List Nat × List ZNode) (W : World) (e : Ending) (w' : World) : Prop :=
  e = .returned (.int .i64 ((zx (zwalk N r r s).1 r : Nat) : Int)) ∧ ExpAt w' xb rb (zwalk N r r s).1 (zwalk N r r s).2 ∧ TFrm (expT xb rb) W w'
set_option maxRecDepth 100000 in
set_option maxHeartbeats 8000000 in
theorem zexp_any (t : ZT) (N : List ZNode) (b1 b2 b3 xb rb : Nat) (w0 : World) (h0 : TblAt w0 t N) : ∀ r, r ≤ 1 + N.length → ∀ (W : World) (s : List Nat × List ZNode), ExpC t b1 b2 b3 xb rb w0 W s → ZSt N s →
    Calls Try.prog 80 #[.int .i64 r, .pointer (some ⟨b1, 0, none⟩), .pointer (some ⟨b2, 0, none⟩), .pointer (some ⟨b3, 0, none⟩), .pointer (some ⟨xb, 0, none⟩)] W (ExpPost N xb rb r s W) := by
  intro r
  induction r using Nat.strongRecOn with
  | ind r ih =>
    intro hr W s hC hS
    have hg := h0.good
    have hE := hC.exp
    obtain ⟨v, L, hrow, hv, hm, hL⟩ := id hE
    have d1 := hC.bx1.1
    have d2 := hC.bx2.1
    have d3 := hC.bx3.1
    unfold expV at d3
    have eg : ∀ args w, (callFunc 80 args).run Try.prog w = .ok (.enter 80 args) w := enters_of Try.func80 (by kernel_rfl) rfl
    unfold ZT.val at *
    by_cases hdone : r < 2 ∨ r ∈ s.1
    · have e : zwalk N r r s = s := by
        cases r with
        | zero => rfl
        | succ k => unfold zwalk; rw [if_pos hdone]
      have hf := hL r
      rw [if_pos hdone] at hf
      have HF : Hid ((findK r L).getD (.int .i64 0) = .int .i64 ((zx s.1 r : Nat) : Int) ∧ (findK r L).isSome = true) := Lib.hid (by rw [hf]; exact ⟨rfl, rfl⟩)
      have HM := Lib.hid hm
      have HE := Lib.hid hE
      have HEE := Lib.hid e
      obtain ⟨q, hq⟩ : ∃ q, q = zx s.1 r := ⟨_, rfl⟩
      rw [← hq] at HF
      have HQ := Lib.hid hq
      clear hq e hf hdone hrow hv hm hL hE hS hC ih hr d2 d3 h0 hg
      unfold ExpPost
      rw [HEE.out, ← HQ.out]
      go_enter Try.func80, Try.ntmps80
      go_wp2_with (at_lookup; refine look_ok_K ikKey Try.underlying99 (.int .i64 0) zero_int_ik rfl _ _ rfl rb L rfl HM.out r rfl ?_; rw [HF.out.1, HF.out.2])
      go_ret
      exact ⟨rfl, HE.out, TFrm.refl _ _⟩
    · have h2 : ¬ r < 2 := fun h => hdone (.inl h)
      have hnm : r ∉ s.1 := fun h => hdone (.inr h)
      obtain ⟨i, hi⟩ : ∃ i, r = i + 2 := ⟨r - 2, by omega⟩
      have hiN : i < N.length := by omega
      have hlo := hg.lo i hiN
      have hhi := hg.hi i hiN
      have hlen := h0.len
      obtain ⟨ad, cp, c0, _, _, ⟨hc, hcn⟩, hx⟩ := h0.cells
      obtain ⟨bb, oo, rfl, y0, y1, y2⟩ := hx i hiN
      obtain ⟨nn, hn⟩ : ∃ n, n = N.length := ⟨_, rfl⟩
      have hi' : i < nn := by omega
      rw [← hn] at c0 hc hlen
      have hstep := zwalk_step hg hiN (s := s) (by rw [← hi]; exact hnm)
      rw [← hi] at hstep
      obtain ⟨nv, hnv⟩ : ∃ l, l = N[i].v := ⟨_, rfl⟩
      obtain ⟨l0, hl0⟩ : ∃ l, l = N[i].lo := ⟨_, rfl⟩
      obtain ⟨l1, hl1⟩ : ∃ l, l = N[i].hi := ⟨_, rfl⟩
      rw [← hnv, ← hl0, ← hl1] at hstep
      rw [← hl0] at hlo y1
      rw [← hl1] at hhi y2
      rw [← hnv] at y0
      have k1 := zwalk_ok hg l0 (by omega) l0 (Nat.le_refl _) s hS
      obtain ⟨s1, hs1⟩ : ∃ s1, s1 = zwalk N l0 l0 s := ⟨_, rfl⟩
      rw [← hs1] at k1 hstep
      have k2 := zwalk_ok hg l1 (by omega) l1 (Nat.le_refl _) s1 k1.st
      obtain ⟨s2, hs2⟩ : ∃ s2, s2 = zwalk N l1 l1 s1 := ⟨_, rfl⟩
      rw [← hs2] at k2 hstep
      have hnm2 : r ∉ s2.1 := by
        obtain ⟨e1, he1, hb1⟩ := k1.ext
        obtain ⟨e2, he2, hb2⟩ := k2.ext
        rw [he2, he1]
        intro h
        rcases List.mem_append.1 h with h | h
        · rcases List.mem_append.1 h with h | h
          · exact hnm h
          · have := hb1 _ h; omega
        · have := hb2 _ h; omega
      have hxlo : zx s1.1 l0 = zx s2.1 l0 := by
        obtain ⟨e2, he2, _⟩ := k2.ext
        rw [he2]; exact (zx_app k1.done e2).symm
      have hlens : s2.2.length ≤ nn := by rw [hn]; exact k2.st.short
      have hf := hL r
      rw [if_neg hdone] at hf
      have HFN : Hid ((findK r L).getD (.int .i64 0) = .int .i64 0 ∧ (findK r L).isSome = false) := Lib.hid (by rw [hf]; exact ⟨rfl, rfl⟩)
      obtain ⟨q0, hq0⟩ : ∃ q, q = zx s2.1 l0 := ⟨_, rfl⟩
      obtain ⟨q1, hq1⟩ : ∃ q, q = zx s2.1 l1 := ⟨_, rfl⟩
      have HIH0 : Hid (∀ W', ExpC t b1 b2 b3 xb rb w0 W' s → Calls Try.prog 80 #[.int .i64 l0, .pointer (some ⟨b1, 0, none⟩), .pointer (some ⟨b2, 0, none⟩), .pointer (some ⟨b3, 0, none⟩), .pointer (some ⟨xb, 0, none⟩)] W' fun e w' => e = .returned (.int .i64 q0) ∧ ExpAt w' xb rb s1.1 s1.2 ∧ TFrm (expT xb rb) W' w') := Lib.hid fun W' hC' => by
        have h := ih l0 (by omega) (by omega) W' s hC' hS
        unfold ExpPost at h
        rw [← hs1, hxlo, ← hq0] at h
        exact h
      have HIH1 : Hid (∀ W', ExpC t b1 b2 b3 xb rb w0 W' s1 → Calls Try.prog 80 #[.int .i64 l1, .pointer (some ⟨b1, 0, none⟩), .pointer (some ⟨b2, 0, none⟩), .pointer (some ⟨b3, 0, none⟩), .pointer (some ⟨xb, 0, none⟩)] W' fun e w' => e = .returned (.int .i64 q1) ∧ ExpAt w' xb rb s2.1 s2.2 ∧ TFrm (expT xb rb) W' w') := Lib.hid fun W' hC' => by
        have h := ih l1 (by omega) (by omega) W' s1 hC' k1.st
        unfold ExpPost at h
        rw [← hs2, ← hq1] at h
        exact h
      have HFIN : Hid (zwalk N r r s = (s2.1 ++ [r], s2.2 ++ [⟨nv, q0, q1⟩])) := Lib.hid (by rw [hstep, hq0, hq1])
      have HM := Lib.hid hm
      have HC := Lib.hid hC
      have HG := Lib.hid hg
      have HNM2 : Hid (s2.2.length = s2.1.length ∧ ¬ r < 2 ∧ r ∉ s2.1) := Lib.hid ⟨k2.st.len, h2, hnm2⟩
      have ei : (r : Int) - 2 = (i : Int) := by omega
      have hri : (0 : Int) ≤ (i : Int) := by omega
      have HK0 := Lib.hid hC.kept
      have c0' := hC.kept.cell c0
      have y0' := hC.kept.cell y0
      have y1' := hC.kept.cell y1
      have y2' := hC.kept.cell y2
      obtain ⟨w4, hw4⟩ : ∃ w4, w4 = W.alloc (.cells #[.int .i64 nv, .int .i64 l0, .int .i64 l1] 63) := ⟨_, rfl⟩
      have hk4 : Kept W w4 := by rw [hw4]; exact (Kept.refl _).alloc _
      have hx4 : RowAt w4 W.heap.size 63 [.int .i64 nv, .int .i64 l0, .int .i64 l1] := by rw [hw4]; exact RowAt.made W #[.int .i64 nv, .int .i64 l0, .int .i64 l1] 63
      have m0 := hx4.cell (i := 0) (by simp)
      have m1 := hx4.cell (i := 1) (by simp)
      have m2 := hx4.cell (i := 2) (by simp)
      simp only [List.getElem_cons_succ, List.getElem_cons_zero] at m0 m1 m2
      have g3 := hk4.cell d3
      have HBX : Hid (Box (expT xb rb) w4 W.heap.size 0 (.int .i64 nv) ∧ Box (expT xb rb) w4 W.heap.size 2 (.int .i64 l1)) := Lib.hid ⟨hE.box hk4 (Nat.le_refl _) m0, hE.box hk4 (Nat.le_refl _) m2⟩
      have HF4 := Lib.hid (hE.frm hk4)
      have HC4 : Hid (ExpC t b1 b2 b3 xb rb w0 w4 s) := Lib.hid (hC.frm HF4.out (hE.kept hk4))
      have HW4 := Lib.hid hw4
      have HEG := Lib.hid eg
      clear hi hq0 hq1 hs1 hs2 k1 k2 hstep hnm2 hnm hxlo hlo hhi hiN hx hn hf hdone h2 hL hm hrow hv hE hC hS ih hr hg h0 hnv hl0 hl1 hw4 hk4 hx4 m0 m2 c0 y0 y1 y2
      unfold ExpPost
      rw [HFIN.out]
      go_enter Try.func80, Try.ntmps80
      go_upto_region 4 with (at_lookup; refine look_ok_K ikKey Try.underlying99 (.int .i64 0) zero_int_ik rfl _ _ rfl rb L rfl HM.out r rfl ?_; rw [HFN.out.1, HFN.out.2])
      go_upto_region 5 with fail
      rw [← HW4.out]
      clear c0' y0' y1' y2' d1 d2 d3
      go_wp2_with fail
      refine (HIH0.out _ HC4.out).mono ?_
      rintro e w5 ⟨rfl, ha5, hf5⟩
      have HC5 := Lib.hid (HC4.out.frm hf5 ha5)
      have HF5 := Lib.hid (HF4.out.trans hf5)
      have n2 := (HBX.out.2.frm hf5).1
      have g5 := HC5.out.bx3.1
      unfold expV at g5
      have HB5 := Lib.hid (HBX.out.1.frm hf5)
      clear ha5 hf5 m1 g3
      go_upto_region 6 with fail
      go_wp2_with fail
      refine (HIH1.out _ HC5.out).mono ?_
      rintro e w6 ⟨rfl, ha6, hf6⟩
      have HC6 := Lib.hid (HC5.out.frm hf6 ha6)
      have HF6 := Lib.hid (HF5.out.trans hf6)
      have n0 := (HB5.out.frm hf6).1
      obtain ⟨v6, L6, r6, o6, M6, hL6⟩ := ha6
      obtain ⟨aa, cc, hvs⟩ : ∃ a cp, v6 = .slice a s2.2.length cp := by
        rcases o6.2 with ⟨e1, e2⟩ | ⟨g, cap, cur, e1, _⟩
        · exact ⟨none, 0, by rw [e1, e2]⟩
        · exact ⟨_, _, e1⟩
      obtain ⟨m, hm⟩ : ∃ m, m = s2.2.length := ⟨_, rfl⟩
      rw [← hm] at hvs o6 hlens
      subst hvs
      have x0 := r6.cell (i := 0) (by simp)
      simp only [List.getElem_cons_zero] at x0
      have f6 := r6.free 0
      have hml : m < 4398046511104 + 1 := by omega
      have hap : some xb ≠ (Value.slice aa m cc).ownBlock := fun e => by
        obtain ⟨cur, h1⟩ := own_lt o6 e.symm
        obtain ⟨cur2, h2, _⟩ := r6
        rw [h1] at h2
        cases h2
      have hxl := r6.lt
      obtain ⟨i0, hi0, hz0, hz1, hz2⟩ := info_parts info_zn
      have R6 := Lib.hid r6
      have O6 := Lib.hid o6
      have HM6 := Lib.hid M6
      have HL6 := Lib.hid hL6
      have HMM := Lib.hid hm
      have HAP := Lib.hid hap
      have I0 := Lib.hid hi0
      have I1 := Lib.hid hz0
      have I2 := Lib.hid hz1
      have I3 := Lib.hid hz2
      have q1b := HC6.out.bx1.1
      have HO2 : Hid (∀ O, (w6.alloc O).ownsRow 0 63 3 (.slice aa m cc) m (s2.2.flatMap znC)) := Lib.hid fun O => own_kept o6 ((Kept.refl w6).alloc O)
      have cB : ∀ O, (w6.alloc O).cell? ⟨xb, 0, none⟩ = some (.slice aa m cc) := fun O => ((Kept.refl w6).alloc O).cell x0
      clear r6 o6 M6 hL6 hm hap hi0 hz0 hz1 hz2 n2 g5 hf6
      go_upto_region 8 with (at_builtin; (refine wpList_append_lies _ rfl _ _ 22 rfl 0 63 i0 _ 3 24 Try.underlying22 I0.out I1.out I2.out I3.out rfl (by omega) (.slice aa m cc) m _ rfl (HO2.out _) ⟨w6.heap.size, 0, none⟩ 1 1 [.int .i64 nv, .int .i64 q0, .int .i64 q1] rfl rfl (World.news_of_block (cs := #[.int .i64 nv, .int .i64 q0, .int .i64 q1]) (t := 63) (fr := (0, 0)) (heap_alloc_new w6 _)) (by simp [Value.oneCell']) (by omega) (by unfold maxLen; omega) (by omega) (Nat.zero_le _) (w6.heap.size + 1) (by simp) ?_); intro gg cap w7 hown7 hgrow hat hlt7; have st7 := hgrow.cell (a := ⟨xb, 0, none⟩) (v := .slice aa m cc) (cB _) HAP.out; have sf7 := (World.frozen?_of_block (a := ⟨xb, 0, none⟩) (hgrow.block xb (by simp; omega) HAP.out)).trans ((Below.frozen ((Kept.refl w6).alloc _) (p := ⟨xb, 0, none⟩) hxl).trans f6))
      obtain ⟨w8, hw8⟩ : ∃ w8, w8 = w7.setCell ⟨xb, 0, none⟩ (.slice (some ⟨gg, 0, none⟩) (m + 1) cap) := ⟨_, rfl⟩
      obtain ⟨r8, o8, u8, f8⟩ := exp_node (n := ⟨nv, q0, q1⟩) R6.out O6.out HM6.out ((Kept.refl w6).alloc (.cells #[.int .i64 nv, .int .i64 q0, .int .i64 q1] 63)) hgrow hown7 (by
        rcases hat with h | h
        · exact .inl h
        · exact .inr fun g hg => by
            have : gg = g := by simpa [Value.ownBlock] using hg
            omega) hw8
      have p0 := r8.cell (i := 0) (by simp)
      simp only [List.getElem_cons_zero] at p0
      have p1 := (HC6.out.bx1.frm f8).1
      rw [← hw8]
      have R8 := Lib.hid r8
      have O8 := Lib.hid o8
      have U8 := Lib.hid u8
      have F8 := Lib.hid f8
      have HB8 := Lib.hid (HC6.out.bx1.frm f8)
      obtain ⟨m1, hm1⟩ : ∃ m1, m1 = m + 1 := ⟨_, rfl⟩
      rw [← hm1] at p0 ⊢
      obtain ⟨m2, hm2⟩ : ∃ m2, m2 = 2 + m := ⟨_, rfl⟩
      have em : (1 : Int) + (m1 : Int) = (m2 : Int) := by omega
      have HM2 := Lib.hid hm2
      have hm2b : m2 < 4398046511110 := by omega
      clear hw8 r8 o8 u8 f8 hm1 hm2 hown7 hgrow hat hlt7 st7 sf7 x0 f6 cB q1b n0
      go_wp2_with (first
        | (at_mapUpdate; refine store_K ikKey Try.underlying99 rfl _ _ _ rfl rb L6 rfl U8.out r rfl (.int .i64 (m2 : Int)) rfl ?_; intro w9 hm9 hg9; have HM9 := Lib.hid hm9; have HG9 := Lib.hid hg9; have HDN := Lib.hid (exp_done (n := ⟨nv, q0, q1⟩) HMM.out HNM2.out.1 HNM2.out.2.1 HNM2.out.2.2 R8.out O8.out U8.out HL6.out (by rw [← HM2.out]; exact hm9) hg9); have p9 := (HB8.out.frm HDN.out.2.1).1; have HFD : Hid ((findK r (putK r (.int .i64 (m2 : Int)) L6)).getD (.int .i64 0) = .int .i64 m2) := Lib.hid (by rw [findK_put, if_pos rfl]; rfl); clear hm9 hg9)
        | (at_lookup; refine look_K ikKey Try.underlying99 (.int .i64 0) zero_int_ik rfl _ _ rfl rb _ rfl HM9.out r rfl ?_; rw [HFD.out]))
      go_ret
      refine ⟨?_, HDN.out.1, HF6.out.trans (F8.out.trans HDN.out.2.1)⟩
      rw [HDN.out.2.2, ← HM2.out]
      rfl
end Go.Proofs.Ytiplibgnfcdlkaa

/-
  Walk: Export of decision.Sets, whole.
-/
namespace Go.Proofs.Ytiplibgnfcdlkaa
open Go.RowKit

theorem own_dns {w : World} {v : Value} {M : List ZNode} (h : w.ownsRow 0 63 3 v M.length (M.flatMap znC)) (hl : M.length ≤ 140737488355328) : DnsAt w v (M.map zi) := by
  obtain ⟨h3, h4⟩ := h
  have el : (M.map zi).length = M.length := List.length_map ..
  rcases h4 with ⟨rfl, h6⟩ | ⟨g, cap, cur, rfl, h6, h7, h8, h9, h10, h11⟩
  · have : M = [] := List.eq_nil_of_length_eq_zero h6
    subst this
    exact DnsAt.nil w
  · refine ⟨some ⟨g, 0, none⟩, cap, by rw [el], ⟨by rw [el]; exact h8, fun h => by cases h⟩, by rw [el]; exact hl, fun i hi => ⟨g, 0, rfl, ?_⟩⟩
    have hi' : i < M.length := by rw [el] at hi; exact hi
    have e : ∀ j u, j < 3 → (znC M[i])[j]? = some u → w.cell? ⟨g, i * 3 + j, none⟩ = some u := fun j u hj hu => by
      have e1 : (cur.toList.take (M.length * 3))[i * 3 + j]? = (M.flatMap znC)[i * 3 + j]? := by rw [h11]
      rw [List.getElem?_take_of_lt (by omega), zn_get M i hi' j hj, hu] at e1
      simp only [World.cell?, h7]
      simpa using e1
    rw [List.getElem_map]
    refine ⟨?_, ?_, ?_⟩
    · have := e 0 _ (by omega) rfl
      simpa [zi] using this
    · have := e 1 _ (by omega) rfl
      simpa [zi] using this
    · have := e 2 _ (by omega) rfl
      simpa [zi] using this
set_option maxRecDepth 100000 in
set_option maxHeartbeats 8000000 in
theorem zexport_any (t : ZT) (N : List ZNode) (r : Nat) (W : World) (h : TblAt W t N) (hr : r ≤ 1 + N.length) :
    Calls Try.prog 47 #[t.val, .int .i64 r] W fun e w' => (∃ v, e = .returned v ∧ ZeroAt w' v ((zadd 24 [] (zm N r)).1.map zi) (zadd 24 [] (zm N r)).2) ∧ Kept W w' := by
  have eg : ∀ args w, (callFunc 80 args).run Try.prog w = .ok (.enter 80 args) w := enters_of Try.func80 (by kernel_rfl) rfl
  have hmm := @run_makeMap Try.prog
  obtain ⟨Z, hZ⟩ : ∃ Z, Z = zadd 24 [] (zm N r) := ⟨_, rfl⟩
  rw [← hZ]
  have HZ := Lib.hid hZ
  clear hZ
  obtain ⟨g, hgw⟩ : ∃ g, g = W.heap.size := ⟨_, rfl⟩
  obtain ⟨w3, hw3⟩ : ∃ w3, w3 = ((W.alloc (.cells #[.pointer (some ⟨t.tb, 0, none⟩)] 64)).alloc (.cells #[.slice none 0 0, .int .i64 0] 24)).alloc (.cells #[.slice none 0 0, .int .i64 0] 24) := ⟨_, rfl⟩
  have hk3 : Kept W w3 := by rw [hw3]; exact (((Kept.refl _).alloc _).alloc _).alloc _
  have hs3 : w3.heap.size = W.heap.size + 1 + 1 + 1 := by rw [hw3]; simp
  have x3 : RowAt w3 (W.heap.size + 1 + 1) 24 [.slice none 0 0, .int .i64 0] := by
    rw [hw3]
    have := RowAt.made ((W.alloc (.cells #[.pointer (some ⟨t.tb, 0, none⟩)] 64)).alloc (.cells #[.slice none 0 0, .int .i64 0] 24)) #[.slice none 0 0, .int .i64 0] 24
    simpa using this
  have y3 : RowAt w3 (W.heap.size + 1) 24 [.slice none 0 0, .int .i64 0] := by
    rw [hw3]
    have := (RowAt.made (W.alloc (.cells #[.pointer (some ⟨t.tb, 0, none⟩)] 64)) #[.slice none 0 0, .int .i64 0] 24).kept ((Kept.refl _).alloc (.cells #[.slice none 0 0, .int .i64 0] 24))
    simpa using this
  have z3 : w3.cell? ⟨W.heap.size, 0, none⟩ = some (.pointer (some ⟨t.tb, 0, none⟩)) := by
    rw [hw3]
    have := (RowAt.made W #[.pointer (some ⟨t.tb, 0, none⟩)] 64).kept (((Kept.refl _).alloc (.cells #[.slice none 0 0, .int .i64 0] 24)).alloc (.cells #[.slice none 0 0, .int .i64 0] 24))
    have := this.cell (i := 0) (by simp)
    simpa using this
  have hk4 : Kept w3 (w3.alloc (.map #[] 0)) := (Kept.refl _).alloc _
  obtain ⟨w5, hrun5, hm5, hg5⟩ := run_updateK ikKey Try.underlying99 (MapK.made ikV w3) 0 (.int .i64 0)
  obtain ⟨w6, hrun6, hm6, hg6⟩ := run_updateK ikKey Try.underlying99 hm5 1 (.int .i64 1)
  have hr5 : (Instr.mapUpdate 99 (.map (some w3.heap.size)) (.int .i64 0) (.int .i64 0)).run Try.prog (w3.alloc (.map #[] 0)) = .ok () w5 := hrun5
  have hr6 : (Instr.mapUpdate 99 (.map (some w3.heap.size)) (.int .i64 1) (.int .i64 1)).run Try.prog w5 = .ok () w6 := hrun6
  have hb6 : ∀ k, k < w3.heap.size → w6.heap[k]? = w3.heap[k]? := fun k hk => (hg6.block k (by have := hg5.size; simp at this; omega) (fun e => by cases e; omega)).trans ((hg5.block k (by simp; omega) (fun e => by cases e; omega)).trans (hk4.block k hk))
  have hk6 : Kept w3 w6 := ⟨hg6.os.trans (hg5.os.trans hk4.os), hg6.tape.trans (hg5.tape.trans hk4.tape), hg6.output.trans (hg5.output.trans hk4.output), by have := hg5.size; have := hg6.size; simp at *; omega, hb6⟩
  have hm6s : w3.heap.size < w6.heap.size := hm6.lt
  have HW3 := Lib.hid hw3
  have HS3 := Lib.hid hs3
  have HK3 := Lib.hid hk3
  have HX3 := Lib.hid x3
  have HY3 := Lib.hid y3
  have HZ3 := Lib.hid z3
  have HM6 := Lib.hid hm6
  have HK6 := Lib.hid hk6
  have HR5 := Lib.hid hr5
  have HR6 := Lib.hid hr6
  have H := Lib.hid h
  have HR := Lib.hid hr
  clear hw3 hk3 hs3 x3 y3 z3 hk4 hrun5 hrun6 hm5 hm6 hg5 hg6 hr5 hr6 hb6 hk6 h hr hgw g
  unfold ZT.val
  go_enter Try.func47, Try.ntmps47
  go_upto_region 2 with fail
  rw [← HW3.out]
  have hr5 := HR5.out
  have hr6 := HR6.out
  go_upto_region 5 with fail
  clear hr5 hr6
  obtain ⟨w9, hw9⟩ : ∃ w9, w9 = (w6.alloc (.cells #[.map (some w3.heap.size)] 99)).alloc (.cells #[expV w6.heap.size W.heap.size (w6.heap.size + 1) (W.heap.size + 1 + 1)] 67) := ⟨_, rfl⟩
  have hb9 := boxes2 hw9
  have hk9 : Kept w6 w9 := by rw [hw9]; exact ((Kept.refl _).alloc _).alloc _
  have hx9 : RowAt w9 (w6.heap.size + 1) 67 [expV w6.heap.size W.heap.size (w6.heap.size + 1) (W.heap.size + 1 + 1)] := by
    rw [hw9]
    have := RowAt.made (w6.alloc (.cells #[.map (some w3.heap.size)] 99)) #[expV w6.heap.size W.heap.size (w6.heap.size + 1) (W.heap.size + 1 + 1)] 67
    simpa using this
  have hs3 := HS3.out
  have c9 := hx9.cell (i := 0) (by simp)
  simp only [List.getElem_cons_zero] at c9
  have k39 := HK6.out.trans hk9
  have kW9 := HK3.out.trans k39
  have hb1 := hb9.1
  have hE : ExpAt w9 (W.heap.size + 1 + 1) w3.heap.size [] [] := by
    refine ⟨_, _, HX3.out.kept k39, World.ownsRow_nil _ _ _ _, HM6.out.same (hk9.block _ HM6.out.lt), fun x => ?_⟩
    rw [findK_put, findK_put]
    by_cases h1 : x = 1
    · rw [if_pos h1, h1]; rfl
    · rw [if_neg h1]
      by_cases h2 : x = 0
      · rw [if_pos h2, h2]; rfl
      · rw [if_neg h2, if_neg (fun h => h.elim (fun h => by omega) (fun h => by cases h))]; rfl
  have nob : ∀ b, b < w9.heap.size → b ≠ W.heap.size + 1 + 1 → b ≠ w3.heap.size → ¬ (expT (W.heap.size + 1 + 1) w3.heap.size).own w9 b := fun b _ h1 h2 ho => by
    have hc := (HX3.out.kept k39).cell (i := 0) (by simp)
    simp only [List.getElem_cons_zero] at hc
    rcases ho with h | h | h | ⟨v, e1, e2⟩
    · exact h1 h
    · exact h2 h
    · exact h2 h
    · rw [show (expT (W.heap.size + 1 + 1) w3.heap.size).tb = W.heap.size + 1 + 1 from rfl, hc] at e1
      cases e1
      cases e2
  have hsz6 := HK6.out.size
  have hC : ExpC t w6.heap.size W.heap.size (w6.heap.size + 1) (W.heap.size + 1 + 1) w3.heap.size W w9 ([], []) := by
    refine ⟨kW9, fun k ho => ?_, hE, ⟨hb1, nob _ (World.block_lt_of_cell? w9 _ hb1) (by omega) (by omega)⟩, ⟨k39.cell HZ3.out, nob _ (World.block_lt_of_cell? w9 _ (k39.cell HZ3.out)) (by omega) (by omega)⟩, ⟨c9, nob _ hx9.lt (by omega) (by omega)⟩⟩
    have hc := (HX3.out.kept k39).cell (i := 0) (by simp)
    simp only [List.getElem_cons_zero] at hc
    rcases ho with rfl | rfl | rfl | ⟨v, e1, e2⟩
    · show _ ≤ W.heap.size + 1 + 1; omega
    · show _ ≤ w3.heap.size; omega
    · show _ ≤ w3.heap.size; omega
    · rw [show (expT (W.heap.size + 1 + 1) w3.heap.size).tb = W.heap.size + 1 + 1 from rfl, hc] at e1
      cases e1
      cases e2
  have hcall := zexp_any t N w6.heap.size W.heap.size (w6.heap.size + 1) (W.heap.size + 1 + 1) w3.heap.size W H.out r HR.out w9 ([], []) hC (ZSt.start N)
  have hwk := zwalk_ok H.out.good r HR.out r (Nat.le_refl _) ([], []) (ZSt.start N)
  have hadd := hwk.add 24 (Nat.le_refl _) (by omega)
  have hshort := hwk.st.short
  have hlen := H.out.len
  unfold ExpPost at hcall
  obtain ⟨M, hM⟩ : ∃ M, M = (zwalk N r r ([], [])).2 := ⟨_, rfl⟩
  obtain ⟨q, hq⟩ : ∃ q, q = zx (zwalk N r r ([], [])).1 r := ⟨_, rfl⟩
  obtain ⟨ll, hll⟩ : ∃ l, l = (zwalk N r r ([], [])).1 := ⟨_, rfl⟩
  rw [← hM, ← hq] at hadd
  rw [← hM, ← hq, ← hll] at hcall
  rw [← hM] at hshort
  have HADD : Hid (Z = (M, q)) := Lib.hid (HZ.out.trans hadd)
  have HCALL := Lib.hid hcall
  have HLEN : Hid (M.length ≤ 140737488355328) := Lib.hid (by omega)
  have HYB : Hid (Box (expT (W.heap.size + 1 + 1) w3.heap.size) w9 (W.heap.size + 1) 0 (.slice none 0 0)) := Lib.hid ⟨by have := (HY3.out.kept k39).cell (i := 0) (by simp); simpa using this, nob _ (by have := HY3.out.lt; have := k39.size; omega) (by omega) (by omega)⟩
  have HY9 := Lib.hid (HY3.out.kept k39)
  have HKW9 := Lib.hid kW9
  have HOWN := Lib.hid hC.own
  have hw9' : w9 = (w6.alloc (.cells #[.map (some w3.heap.size)] 99)).alloc (.cells #[.func (.func 80) #[] #[.pointer (some ⟨w6.heap.size, 0, none⟩), .pointer (some ⟨W.heap.size, 0, none⟩), .pointer (some ⟨w6.heap.size + 1, 0, none⟩), .pointer (some ⟨W.heap.size + 1 + 1, 0, none⟩)]] 67) := hw9
  rw [← hw9']
  unfold expV at c9
  clear hw9 hw9' hb9 hx9 hk9 k39 kW9 hb1 hE nob hC hcall hwk hadd hshort hlen hM hq hll hm6s hsz6 hs3
  go_wp2_with fail
  refine HCALL.out.mono ?_
  rintro e w10 ⟨rfl, ⟨v, L, hrx, hov, _, _⟩, hf⟩
  have hK10 := hf.toKept HKW9.out HOWN.out
  have hy10 := HY9.out.same (hf.block _ HYB.out.lt HYB.out.2)
  obtain ⟨aa, cc, rfl⟩ : ∃ a cp, v = .slice a M.length cp := by
    rcases hov.2 with ⟨e1, e2⟩ | ⟨g, cap, cur, e1, _⟩
    · exact ⟨none, 0, by rw [e1, e2]⟩
    · exact ⟨_, _, e1⟩
  obtain ⟨m, hm⟩ : ∃ m, m = M.length := ⟨_, rfl⟩
  rw [← hm] at hrx hov
  have u0 := hrx.cell (i := 0) (by simp)
  have u1 := hrx.cell (i := 1) (by simp)
  have v0 := hy10.cell (i := 0) (by simp)
  have v1 := hy10.cell (i := 1) (by simp)
  simp only [List.getElem_cons_succ, List.getElem_cons_zero] at u0 u1 v0 v1
  have fu1 := hrx.free 1
  have fv0 := hy10.free 0
  have fv1 := hy10.free 1
  have HRX := Lib.hid hrx
  have HOV := Lib.hid hov
  have HY10 := Lib.hid hy10
  have HK10 := Lib.hid hK10
  have HM := Lib.hid hm
  clear hrx hov hy10 hK10 hm hf
  go_upto_region 6 with fail
  obtain ⟨w11, hw11⟩ : ∃ w11, w11 = w10.setCell ⟨W.heap.size + 1 + 1, 1, none⟩ (.int .i64 q) := ⟨_, rfl⟩
  rw [← hw11]
  have hrx := HRX.out.store 1 (.int .i64 (q : Int))
  rw [← hw11] at hrx
  have hy11 : RowAt w11 (W.heap.size + 1) 24 [.slice none 0 0, .int .i64 0] := by rw [hw11]; exact HY10.out.other (by omega) _ _
  have hov : w11.ownsRow 0 63 3 (.slice aa m cc) m (M.flatMap znC) := by
    rw [hw11]
    refine own_block HOV.out fun k hk => Below.heap_setCell w10 ⟨W.heap.size + 1 + 1, 1, none⟩ _ k fun e => ?_
    obtain ⟨cur, h1⟩ := own_lt HOV.out hk
    obtain ⟨cur2, h2, _⟩ := HRX.out
    have e : k = W.heap.size + 1 + 1 := e
    rw [e, h2] at h1
    cases h1
  have hK11 : Kept W w11 := by rw [hw11]; exact HK10.out.store (by omega) _ _
  have u0 := hrx.cell (i := 0) (by simp)
  have u1 := hrx.cell (i := 1) (by simp)
  have v0 := hy11.cell (i := 0) (by simp)
  have v1 := hy11.cell (i := 1) (by simp)
  simp only [List.set_cons_zero, List.set_cons_succ, List.getElem_cons_succ, List.getElem_cons_zero] at u0 u1 v0 v1
  have fv0 := hy11.free 0
  have fv1 := hy11.free 1
  have HOV := Lib.hid hov
  have HY11 := Lib.hid hy11
  have HK11 := Lib.hid hK11
  clear hrx hov hy11 hK11 hw11
  go_wp2_with fail
  have hF := (HY11.out.store 0 (.slice aa m cc)).store 1 (.int .i64 (q : Int))
  have y0 := hF.cell (i := 0) (by simp)
  have y1 := hF.cell (i := 1) (by simp)
  simp only [List.set_cons_zero, List.set_cons_succ, List.getElem_cons_succ, List.getElem_cons_zero] at y0 y1
  have hD : DnsAt ((w11.setCell ⟨W.heap.size + 1, 0, none⟩ (.slice aa m cc)).setCell ⟨W.heap.size + 1, 1, none⟩ (.int .i64 (q : Int))) (.slice aa m cc) (M.map zi) := by
    refine own_dns (own_block (w := w11) (by rw [← HM.out]; exact HOV.out) fun k hk => ?_) HLEN.out
    have hne : k ≠ W.heap.size + 1 := fun e => by
      obtain ⟨cur, h1⟩ := own_lt HOV.out hk
      obtain ⟨cur2, h2, _⟩ := HY11.out
      rw [e, h2] at h1
      cases h1
    exact (Below.heap_setCell _ ⟨W.heap.size + 1, 1, none⟩ _ k hne).trans (Below.heap_setCell w11 ⟨W.heap.size + 1, 0, none⟩ _ k hne)
  refine bodyPost_ret (v := .agg #[.slice aa m cc, .int .i64 q]) ?_ rfl ⟨⟨_, rfl, ?_⟩, ?_⟩
  · simp [results, Try.results47, go_sem, y0, y1]
  · rw [HADD.out]
    exact ⟨_, rfl, hD⟩
  · exact (HK11.out.store (by omega) _ _).store (by omega) _ _
end Go.Proofs.Ytiplibgnfcdlkaa
