import Derived.Test.YtngbjdaaogbjmaaGreatX1m
import Derived.Test.YtngbjdaaogbjmaaGreatK4
/-
  Slices of the reference's rows: an int and a slice of ints each.
-/
namespace Go.Proofs.YtngbjdaaogbjmaaGreat
open Go.RowKit
variable {Z : Option Nat}

theorem info_rrow : (Tryz.prog.info? 118).map (fun i => (i.zero, i.size, i.bytes)) = some (some (.agg #[.int .i64 0, .slice none 0 0]), 2, 32) := by kernel_rfl
/-- The nodes of a row, as a slice of the call's own. -/
def NdsAt (Z : Option Nat) (w : World) (u : Value) (r : Nat) : Prop := OwnInts w 0 u (ofN (nodesOf r)) ∧ ∀ g, u.ownBlock = some g → Z ≠ some g
theorem NdsAt.kept {w w' : World} {u : Value} {r : Nat} (h : NdsAt Z w u r) (hk : Kept w w') : NdsAt Z w' u r := ⟨OwnInts.kept h.1 hk, h.2⟩
theorem NdsAt.shape {w : World} {u : Value} {r : Nat} (h : NdsAt Z w u r) : ∃ a c, u = .slice a (nodesOf r).length c := by
  obtain ⟨a, c, h, _⟩ := OwnInts.ints h.1
  exact ⟨a, c, by rw [h]; simp [ofN]⟩
theorem NdsAt.get {w : World} {a : Option Addr} {n c : Nat} {r : Nat} (h : NdsAt Z w (.slice a n c) r) (i : Nat) (hi : i < (nodesOf r).length) : ∃ b o, a = some ⟨b, o, none⟩ ∧ w.cell? ⟨b, o + i, none⟩ = some (.int .i64 ((nodesOf r)[i] : Nat)) := by
  obtain ⟨a', c', h1, _, _, h4⟩ := OwnInts.ints h.1
  injection h1 with h1 h2 h3
  subst h1
  obtain ⟨b, o, h5, h6⟩ := h4 i (by simpa [ofN] using hi)
  exact ⟨b, o, h5, by simpa [ofN] using h6⟩
/-- A slice of rows of the call's own. -/
def OwnRfs (Z : Option Nat) (w : World) (B : Nat) (v : Value) (L : List Nat) : Prop :=
  ∃ cells : List Value, w.ownsRow B 118 2 v L.length cells ∧ (L.length ≤ 20000 ∧ ∀ c ∈ L, RowLt 152 c) ∧
    ∀ i (h : i < L.length), ∃ u, cells[i * 2]? = some (.int .i64 (evW L[i])) ∧ cells[i * 2 + 1]? = some u ∧ NdsAt Z w u L[i]
theorem OwnRfs.kept {w w' : World} {B : Nat} {v : Value} {L : List Nat} (h : OwnRfs Z w B v L) (hk : Kept w w') : OwnRfs Z w' B v L := by
  obtain ⟨cells, h1, h2, h3⟩ := h
  exact ⟨cells, own_kept h1 hk, h2, fun i hi => let ⟨u, a, b, c⟩ := h3 i hi; ⟨u, a, b, c.kept hk⟩⟩
theorem OwnRfs.mono {w : World} {B B' : Nat} {v : Value} {L : List Nat} (h : OwnRfs Z w B v L) (hb : B' ≤ B) : OwnRfs Z w B' v L := by
  obtain ⟨cells, h1, h2, h3⟩ := h
  exact ⟨cells, own_mono h1 hb, h2, h3⟩
theorem OwnRfs.nil (w : World) (B : Nat) : OwnRfs Z w B (.slice none 0 0) [] := ⟨[], World.ownsRow_nil _ _ _ _, ⟨by simp, by simp⟩, fun i h => by simp at h⟩
theorem OwnRfs.lt {w : World} {B : Nat} {v : Value} {L : List Nat} (h : OwnRfs Z w B v L) : ∀ c ∈ L, RowLt 152 c := by obtain ⟨_, _, h, _⟩ := h; exact h.2
theorem OwnRfs.len {w : World} {B : Nat} {v : Value} {L : List Nat} (h : OwnRfs Z w B v L) : L.length ≤ 20000 := by obtain ⟨_, _, h, _⟩ := h; exact h.1
theorem OwnRfs.slice {w : World} {B : Nat} {v : Value} {L : List Nat} (h : OwnRfs Z w B v L) : ∃ a c, v = .slice a L.length c ∧ (a = none → c = 0) := by
  obtain ⟨cells, ⟨_, h⟩, _⟩ := h
  rcases h with ⟨rfl, h0⟩ | ⟨g, cp, _, rfl, _⟩
  · exact ⟨none, 0, by rw [h0], fun _ => rfl⟩
  · exact ⟨_, _, rfl, fun h => by cases h⟩
theorem two_range {w : World} {b o : Nat} {x u : Value} (h1 : w.cell? ⟨b, o, none⟩ = some x) (h2 : w.cell? ⟨b, o + 1, none⟩ = some u) : w.rangeAt b o [x, u] := by
  intro j v hj
  match j, hj with
  | 0, hj => simp at hj; subst hj; exact h1
  | 1, hj => simp at hj; subst hj; exact h2
/-- One row of a slice. -/
theorem OwnRfs.get {w : World} {B : Nat} {a : Option Addr} {n c : Nat} {L : List Nat} (h : OwnRfs Z w B (.slice a n c) L) (i : Nat) (hi : i < L.length) :
    ∃ b ua un uc, a = some ⟨b, 0, none⟩ ∧ un = (nodesOf L[i]).length ∧ NdsAt Z w (.slice ua un uc) L[i] ∧ w.rangeAt b (i * 2) [.int .i64 (evW L[i]), .slice ua un uc] := by
  obtain ⟨cells, ⟨h1, h2⟩, h3, h4⟩ := h
  rcases h2 with ⟨_, h6⟩ | ⟨g, cap, cur, hv, h6, h7, h8, h9, h10, h11⟩
  · omega
  · injection hv with hv1 hv2 hv3
    obtain ⟨u, e0, e1, e2⟩ := h4 i hi
    obtain ⟨ua, uc, rfl⟩ := e2.shape
    have hc : ∀ j, j < L.length * 2 → w.cell? ⟨g, j, none⟩ = cells[j]? := by
      intro j hj
      have e1 : (cur.toList.take (L.length * 2))[j]? = cells[j]? := by rw [h11]
      rw [List.getElem?_take_of_lt hj] at e1
      simp only [World.cell?, h7]
      simpa using e1
    exact ⟨g, ua, _, uc, hv1, rfl, e2, two_range (by rw [hc _ (by omega)]; exact e0) (by rw [hc _ (by omega)]; exact e1)⟩
theorem OwnRfs.own_ge {w : World} {B : Nat} {v : Value} {L : List Nat} (h : OwnRfs Z w B v L) {g : Nat} (hg : v.ownBlock = some g) : B ≤ g ∧ g < w.heap.size := by
  obtain ⟨_, h1, _⟩ := h
  exact h1.lt g hg
theorem OwnRfs.cells_len {w : World} {B : Nat} {v : Value} {n : Nat} {cells : List Value} (h : w.ownsRow B 118 2 v n cells) : cells.length = n * 2 := h.1
/-- append of a whole slice of rows to one of the call's own. -/
theorem wp_rfs {o : Oper} {a : Act} {K : Act → World → Prop} {Q : Exit → Act → World → Prop} {w : World} (s x : Operand)
    (ho : o.op = .call { callee := .builtin .append, args := #[s, x], argTypes := #[119, 119] }) (B : Nat) (v : Value) (L : List Nat) (hs : a.eval s = v) (hown : OwnRfs Z w B v L)
    (u : Value) (M : List Nat) (hx : a.eval x = u) (hu : OwnRfs Z w 0 u M) (hl : L.length + M.length ≤ 20000) (hB : B ≤ w.heap.size)
    (h : ∀ v' w', OwnRfs Z w' B v' (L ++ M) → Below B w w' → K (a.put o.dst v') w') : Oper.wp Tryz.prog o a w K Q := by
  obtain ⟨i0, hi0, hz0, hz1, hz2⟩ := info_parts info_rrow
  have hown0 := hown
  obtain ⟨cells, hown1, ⟨hkl, hlt⟩, hcell⟩ := hown
  obtain ⟨cs, ⟨hu1, hu2⟩, ⟨hul, hult⟩, huc⟩ := hu
  rcases hu2 with ⟨rfl, hu3⟩ | ⟨g, cap, cur, rfl, h6, h7, h8, h9, h10, h11⟩
  · have hM : M = [] := List.eq_nil_of_length_eq_zero hu3
    subst hM
    have hrun := run_append_owned_none (P := Tryz.prog) (w := w) B 119 o.type 118 i0 2 Tryz.underlying119 hi0 v L.length _ hown1
    unfold Oper.wp
    simp [execOp, ho, resolve, invoke, builtin, hs, hx, hrun, Result.andThen]
    exact h v w (by simpa using hown0) (Below.refl _ _)
  · refine wp_append_own _ s x 119 ho B 118 i0 _ 2 32 Tryz.underlying119 hi0 hz0 hz1 hz2 rfl (by decide) v L.length cells hs hown1 ⟨g, 0, none⟩ M.length cap cs hx hu1 ?_ ?_ (by unfold maxLen; omega) (by omega) hB ?_
    · intro j y hj
      have hj' : j < M.length * 2 := by rw [← hu1]; exact (List.getElem?_eq_some_iff.1 hj).1
      have e1 : (cur.toList.take (M.length * 2))[j]? = cs[j]? := by rw [h11]
      rw [List.getElem?_take_of_lt hj', hj] at e1
      rw [addr_add]
      simp only [World.cell?, h7, Nat.zero_add]
      simpa using e1
    · intro y hy
      obtain ⟨j, hj⟩ := List.getElem?_of_mem hy
      have hj' : j < M.length * 2 := by rw [← hu1]; exact (List.getElem?_eq_some_iff.1 hj).1
      obtain ⟨u, e0, e1, e2⟩ := huc (j / 2) (by omega)
      obtain ⟨ua, uc, rfl⟩ := e2.shape
      by_cases hp : j % 2 = 0
      · rw [show j / 2 * 2 = j by omega, hj] at e0
        rw [Option.some.inj e0]; simp [Value.oneCell']
      · rw [show j / 2 * 2 + 1 = j by omega, hj] at e1
        rw [Option.some.inj e1]; simp [Value.oneCell']
    · intro v' w' h3 h4 _
      have hg : ∀ k, k < w.heap.size → some k ≠ v.ownBlock → w'.heap[k]? = w.heap[k]? := fun k hk hne => h4.block k hk hne
      refine h v' w' ⟨cells ++ cs, by rw [List.length_append]; exact h3, ⟨by simp; omega, fun c hc => ?_⟩, ?_⟩ (grown_below h4 hown1 hB)
      · rcases List.mem_append.1 hc with hc | hc
        · exact hlt c hc
        · exact hult c hc
      · intro i hi
        have hcl : cells.length = L.length * 2 := hown1.1
        by_cases hik : i < L.length
        · obtain ⟨u, e0, e1, e2⟩ := hcell i hik
          rw [List.getElem_append_left hik]
          refine ⟨u, ?_, ?_, ⟨⟨own_tag e2.1.1 hown1 (by decide) hg, e2.1.2⟩, e2.2⟩⟩
          · rw [List.getElem?_append_left (by omega), e0]
          · rw [List.getElem?_append_left (by omega), e1]
        · rw [List.length_append] at hi
          obtain ⟨u, e0, e1, e2⟩ := huc (i - L.length) (by omega)
          rw [List.getElem_append_right (by omega)]
          refine ⟨u, ?_, ?_, ⟨⟨own_tag e2.1.1 hown1 (by decide) hg, e2.1.2⟩, e2.2⟩⟩
          · rw [List.getElem?_append_right (by omega), hcl, show i * 2 - L.length * 2 = (i - L.length) * 2 by omega, e0]
          · rw [List.getElem?_append_right (by omega), hcl, show i * 2 + 1 - L.length * 2 = (i - L.length) * 2 + 1 by omega, e1]
theorem app_rfs {ops : Array Oper} {rest : List Oper} {o : Oper} {a : Act} {Q : Exit → Act → World → Prop} {w : World} (hgd : o.guard = none) (s x : Operand)
    (ho : o.op = .call { callee := .builtin .append, args := #[s, x], argTypes := #[119, 119] }) (B : Nat) (v : Value) (L : List Nat) (hs : a.eval s = v) (hown : OwnRfs Z w B v L)
    (u : Value) (M : List Nat) (hx : a.eval x = u) (hu : OwnRfs Z w 0 u M) (hl : L.length + M.length ≤ 20000) (hB : B ≤ w.heap.size)
    (h : ∀ v' w', OwnRfs Z w' B v' (L ++ M) → Below B w w' → wpList Tryz.prog ops Q rest (a.put o.dst v') w') : wpList Tryz.prog ops Q (o :: rest) a w :=
  wpList_plain hgd fun _ hK => wp_rfs s x ho B v L hs hown u M hx hu hl hB fun v' w' h1 h2 => hK _ _ (h v' w' h1 h2)
/-- The same at a step of a region that draws its order. -/
theorem step_rfs {ops : Array Oper} {o : Oper} {a : Act} {K : Act → World → Prop} {Q : Exit → Act → World → Prop} {E : Prop} {w : World} (hgd : o.guard = none) (s x : Operand)
    (ho : o.op = .call { callee := .builtin .append, args := #[s, x], argTypes := #[119, 119] }) (B : Nat) (v : Value) (L : List Nat) (hs : a.eval s = v) (hown : OwnRfs Z w B v L)
    (u : Value) (M : List Nat) (hx : a.eval x = u) (hu : OwnRfs Z w 0 u M) (hl : L.length + M.length ≤ 20000) (hB : B ≤ w.heap.size)
    (h : ∀ v' w', OwnRfs Z w' B v' (L ++ M) → Below B w w' → K (a.put o.dst v') w') : if Region.wanted o (yielded ops a.tmps) = true then Oper.wp Tryz.prog o a w K Q else E := by
  have hw : Region.wanted o (yielded ops a.tmps) = true := by simp [Region.wanted, hgd]
  rw [if_pos hw]
  exact wp_rfs s x ho B v L hs hown u M hx hu hl hB h
theorem OwnRfs.one {w : World} {g B r : Nat} {u : Value} (h : w.heap[g]? = some (.cells #[.int .i64 (evW r), u] 118 (0, 0))) (hu : NdsAt Z w u r) (hr : RowLt 152 r) (hB : B ≤ g) : OwnRfs Z w B (.slice (some ⟨g, 0, none⟩) 1 1) [r] :=
  ⟨[.int .i64 (evW r), u], ⟨rfl, .inr ⟨g, 1, #[.int .i64 (evW r), u], rfl, hB, h, Nat.le_refl _, by unfold maxLen; omega, rfl, rfl⟩⟩, ⟨by simp, by simpa using hr⟩, fun i hi => by
    have : i = 0 := by simpa using hi
    subst this
    exact ⟨u, rfl, rfl, hu⟩⟩
/-- append of one row that lies in a block of its own. -/
theorem app_rf {ops : Array Oper} {rest : List Oper} {o : Oper} {a : Act} {Q : Exit → Act → World → Prop} {w : World} (hgd : o.guard = none) (s x : Operand)
    (ho : o.op = .call { callee := .builtin .append, args := #[s, x], argTypes := #[119, 119] }) (B : Nat) (v : Value) (L : List Nat) (hs : a.eval s = v) (hown : OwnRfs Z w B v L)
    (g r : Nat) (u : Value) (hx : a.eval x = .slice (some ⟨g, 0, none⟩) 1 1) (hc : w.rangeAt g 0 [.int .i64 (evW r), u]) (hu : NdsAt Z w u r) (hr : RowLt 152 r) (hl : L.length < 20000) (hB : B ≤ w.heap.size)
    (h : ∀ v' w', OwnRfs Z w' B v' (L ++ [r]) → Below B w w' → wpList Tryz.prog ops Q rest (a.put o.dst v') w') : wpList Tryz.prog ops Q (o :: rest) a w := by
  obtain ⟨i0, hi0, hz0, hz1, hz2⟩ := info_parts info_rrow
  obtain ⟨cells, hown1, ⟨hkl, hlt⟩, hcell⟩ := hown
  obtain ⟨sa, sc, rfl⟩ := hu.shape
  refine wpList_append_own _ hgd s x 119 ho B 118 i0 _ 2 32 Tryz.underlying119 hi0 hz0 hz1 hz2 rfl (by decide) v L.length cells hs hown1 ⟨g, 0, none⟩ 1 1 [.int .i64 (evW r), .slice sa (nodesOf r).length sc] hx rfl ?_ ?_ (by unfold maxLen; omega) (by omega) hB ?_
  · intro j u hj
    have := hc j u hj
    rw [addr_add]; exact this
  · intro u hu
    simp at hu
    rcases hu with rfl | rfl <;> rfl
  · intro v' w' h3 h4 _
    have hg : ∀ k, k < w.heap.size → some k ≠ v.ownBlock → w'.heap[k]? = w.heap[k]? := fun k hk hne => h4.block k hk hne
    refine h v' w' ⟨cells ++ [.int .i64 (evW r), .slice sa (nodesOf r).length sc], by simpa using h3, ⟨by simp; omega, fun c hc => ?_⟩, ?_⟩ (grown_below h4 hown1 hB)
    · rcases List.mem_append.1 hc with hc | hc
      · exact hlt c hc
      · simp at hc; subst hc; exact hr
    · intro i hi
      simp at hi
      have hcl : cells.length = L.length * 2 := hown1.1
      by_cases hik : i < L.length
      · obtain ⟨u, e0, e1, e2⟩ := hcell i hik
        rw [List.getElem_append_left hik]
        refine ⟨u, ?_, ?_, ⟨⟨own_tag e2.1.1 hown1 (by decide) hg, e2.1.2⟩, e2.2⟩⟩
        · rw [List.getElem?_append_left (by omega), e0]
        · rw [List.getElem?_append_left (by omega), e1]
      · have e : i = L.length := by omega
        subst e
        rw [List.getElem_append_right (Nat.le_refl _)]
        simp only [Nat.sub_self, List.getElem_cons_zero]
        refine ⟨.slice sa (nodesOf r).length sc, ?_, ?_, ⟨⟨own_tag hu.1.1 hown1 (by decide) hg, hu.1.2⟩, hu.2⟩⟩
        · rw [List.getElem?_append_right (by omega), hcl]; simp
        · rw [List.getElem?_append_right (by omega), hcl]; simp
/-- The nodes of a row without its greatest one, in the same memory. -/
theorem NdsAt.prefix {w : World} {a : Option Addr} {n c r q x : Nat} (h : NdsAt Z w (.slice a n c) r) (he : nodesOf r = nodesOf q ++ [x]) : NdsAt Z w (.slice a (n - 1) c) q := by
  obtain ⟨⟨⟨h1, h2⟩, h3⟩, hz⟩ := h
  rw [he] at h2 h3
  simp only [ofN, List.map_append, List.length_append, List.map_cons, List.map_nil, List.length_cons, List.length_nil, List.length_map] at h2 h3
  rcases h2 with ⟨_, h4⟩ | ⟨g, cap, cur, hv, h5, h6, h7, h8, h9, h10⟩
  · omega
  · injection hv with hv1 hv2 hv3
    refine ⟨⟨⟨by simp [ofN], .inr ⟨g, cap, cur, ?_, h5, h6, ?_, h8, h9, ?_⟩⟩, ?_⟩, fun g hg => hz g (by rw [hv1] at hg ⊢; exact hg)⟩
    · rw [hv1, hv2, hv3]; simp [ofN]
    · simp [ofN]; omega
    · simp only [ofN, List.length_map, Nat.mul_one, List.map_map] at h10 ⊢
      have e := congrArg (fun l => l.take (nodesOf q).length) h10
      simp only [List.take_take] at e
      rw [Nat.min_eq_left (by omega)] at e
      rw [e, List.take_append_of_le_length (by simp), List.take_of_length_le (by simp)]
    · simp [ofN]; omega
end Go.Proofs.YtngbjdaaogbjmaaGreat
