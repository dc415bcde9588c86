import Derived.Test.YtapniojbnochiaaZ3m
import Derived.Test.YtapniojbnochiaaK5
/-
  The frame of a law of a formula and two small numbers; append of a node to a copy of a formula's nodes; what Cuts answers.
-/
namespace Go.Proofs.Ytapniojbnochiaa
open Go.RowKit Go.ChangeShapes Go.WideShapes Go.ChangeAt Go.Joins Go.Deep

set_option maxRecDepth 100000 in
/-- A law of a formula and two numbers: from its walk to its row's step. -/
theorem lift3 {s : ChangeSpec} (F : FuncId) (fn : Func) (t2 : TypeId) (k2 : IntKind) (ht2 : Try.prog.underlying t2 = some (.int k2)) (hr2 : Try.prog.readableRec t2 = true) (hlt2 : t2 < Try.prog.types.size) (hs1 : s.vars = []) (hs2 : ∀ (H : Type) (d1 d2 d3 : DataW H), s.fn H [d1, d2, d3] = { results := [.lit (.bool true)], args := [d1, d2, d3] })
    (hp : fn.params = #[24, t2, t2]) (hr : fn.resultTypes = #[4])
    (walk : ∀ (W : World) (u : Value) (f : Fm) (x y : Int), NodesAt W u f.nodes → FmOk f → (Lit.int k2 x).wf = true → (Lit.int k2 y).wf = true → Calls Try.prog F #[fmV u f, .int k2 x, .int k2 y] W fun e w' => e = .returned (.bool true) ∧ Kept W w')
    {H : Type} {enc : TypeId × Value → H} (W : World) (base : Nat) (args : Array Value) (ds gs : List (DataW H)) (before : List MemPlace)
    (hval : ∀ (j : Nat) t v, fn.params[j]? = some t → args[j]? = some v → Value.okWide Try.prog W .any base t v)
    (hW : DataW.Whole enc Try.prog fn.params.toList s.vars false W args.toList ds gs before)
    (hsz : (DataW.weightsEach Try.prog (fn.params.toList ++ s.plain.varTypes Try.prog) (ds ++ gs)).all (· ≤ reachBytes) = true) :
    Calls Try.prog F args W fun e W' => ∃ v, e = .returned v ∧ s.post enc Try.prog fn false true false false W args v W' := by
  have hW' := hW
  obtain ⟨p, q, hA, hV, rfl, hfz, _⟩ := hW
  rw [hs1] at hV
  obtain ⟨rfl, rfl⟩ := trodVars_none hV
  rw [hp] at hA hval hsz
  obtain ⟨v0, v1, v2, d0, d1, d2, p0, p1, p2, rfl, rfl, rfl, h0, h1, h2⟩ := trodAll_three hA
  have h0k := h0
  have h1k := h1
  have h2k := h2
  obtain ⟨u, f, rfl, hn, hok⟩ := fm_open (hval 0 _ _ rfl rfl) (fun n hn => by
    have := List.all_eq_true.1 hsz n (DataW.weights_mem_each (j := 0) rfl rfl n hn)
    simpa using this) h0
  obtain ⟨x, rfl, rfl, rfl, wx⟩ := open_int ht2 (hval 1 _ _ rfl rfl) h1
  obtain ⟨y, rfl, rfl, rfl, wy⟩ := open_int ht2 (hval 2 _ _ rfl rfl) h2
  have hlt : ∀ x ∈ p0, x.block < W.heap.size := fun x hx => hW'.lt x (by simp [hx])
  refine (walk W u f x y hn hok wx wy).mono fun e W' ⟨he, hk⟩ => ?_
  subst he
  refine ⟨_, rfl, [d0, .lit (.int k2 x), .lit (.int k2 y)], [], ((p0 ++ []) ++ []) ++ [], [], p0 ++ ([] ++ []), [], hW', ?_, ?_, ?_, Below.frame hk _, fun h => by cases h⟩
  · rw [hr]
    simp only [List.append_nil, hs2]
    exact trodAll_mk1 (shut_bool Try.underlying4 _)
  · rw [hp]
    simp only [List.append_nil, hs2]
    have := trodAll_mk3 (Below.trod laidOutK (by kernel_rfl) (of_decide_eq_true (by kernel_rfl)) h0k hk hlt) (Below.trod laidOutK hr2 hlt2 h1k hk (fun x hx => by cases hx)) (Below.trod laidOutK hr2 hlt2 h2k hk (fun x hx => by cases hx))
    simpa using this
  · rw [hs1]
    simp only [List.append_nil, hs2]
    rfl
/-- The answers of Cuts: the error's number and the sets. -/
def CRes (V T : Nat) (f : Fm) (q : Nat) (X : List Nat) : Prop := (q = 0 ∧ synK V T f = true ∧ ∃ p, topK V T f.nodes = some p ∧ X = p.1) ∨ (q = 4 ∧ synK V T f = true) ∨ (q = 7 ∧ synK V T f = false)
/-- What Cuts answers to a formula that Check accepts. -/
theorem tcut_any (v : Value) (f : Fm) (V T : Nat) (hok : Ok f V T) (hs : ∃ a n c, v = .slice a n c) :
    ∃ (q : Nat) (X : List Nat), CRes V T f q X ∧ ∀ W, NodesAt W v f.nodes → Calls Try.prog 32 #[.agg #[.int .i64 V, v, .int .i64 T]] W fun e w' => (∃ v', e = .returned (.tuple #[v', errV q]) ∧ SetsAt w' v' X) ∧ Kept W w' := by
  rcases top_cases v f V T hok (chk_of_ok hok) hs with ⟨q, hq, hfc⟩ | ⟨p, hl, hsy, hfc⟩
  · refine ⟨q, [], ?_, fun W hW => (hfc W hW).1.mono fun _ w' ⟨h1, h2⟩ => ⟨⟨_, h1, IntsAt.nil w', by simp⟩, h2⟩⟩
    rcases hq with ⟨h1, h2, _⟩ | ⟨h1, h2⟩
    · exact .inr (.inl ⟨h1, h2⟩)
    · exact .inr (.inr ⟨h1, h2⟩)
  · exact ⟨0, p.1, .inl ⟨rfl, hsy, p, hl, rfl⟩, fun W hW => (hfc W hW).1.mono fun _ w' ⟨⟨v', h1, h2⟩, h3⟩ => ⟨⟨v', h1, h2.sets⟩, h3⟩⟩
theorem cres_q {V T q : Nat} {f : Fm} {X : List Nat} (h : CRes V T f q X) : (q = 7 ∧ synK V T f = false) ∨ ((q = 0 ∨ q = 4) ∧ synK V T f = true) := by
  rcases h with ⟨h1, h2, _⟩ | ⟨h1, h2⟩ | ⟨h1, h2⟩
  · exact .inr ⟨.inl h1, h2⟩
  · exact .inr ⟨.inr h1, h2⟩
  · exact .inl ⟨h1, h2⟩
theorem gates_q {V T x y q1 q2 q3 q4 : Nat} {f : Fm} {X1 X2 X3 X4 : List Nat} (h : Ok f V T) (hx : x < V + f.nodes.length) (hy : y < V + f.nodes.length) (hn : f.nodes.length ≤ 100)
    (c1 : CRes V x (topF V x f.nodes) q1 X1) (c2 : CRes V y (topF V y f.nodes) q2 X2) (c3 : CRes V (V + f.nodes.length) (gateF V 2 x y f.nodes) q3 X3) (c4 : CRes V (V + f.nodes.length) (gateF V 3 x y f.nodes) q4 X4) :
    ((q1 = 7 ∨ q2 = 7) ∧ q3 = 7 ∧ q4 = 7 ∧ (q1 = 0 ∨ q1 = 4 ∨ q1 = 7) ∧ (q2 = 0 ∨ q2 = 4 ∨ q2 = 7)) ∨ ((q1 = 0 ∨ q1 = 4) ∧ (q2 = 0 ∨ q2 = 4) ∧ (q3 = 0 ∨ q3 = 4) ∧ (q4 = 0 ∨ q4 = 4)) := by
  have s3 := gate_syn h 2 (.inl rfl) x y hx hy hn
  have s4 := gate_syn h 3 (.inr rfl) x y hx hy hn
  rcases cres_q c1 with ⟨a1, b1⟩ | ⟨a1, b1⟩ <;> rcases cres_q c2 with ⟨a2, b2⟩ | ⟨a2, b2⟩ <;> rcases cres_q c3 with ⟨a3, b3⟩ | ⟨a3, b3⟩ <;> rcases cres_q c4 with ⟨a4, b4⟩ | ⟨a4, b4⟩ <;> rw [b1, b2, b3] at s3 <;> rw [b1, b2, b4] at s4 <;> first | (cases s3; done) | (cases s4; done) | (left; refine ⟨?_, a3, a4, ?_, ?_⟩ <;> omega) | (right; exact ⟨a1, a2, a3, a4⟩)
theorem gates_ops {V T x y : Nat} {f : Fm} {X1 X2 X3 X4 : List Nat} (h : Ok f V T) (hx : x < V + f.nodes.length) (hy : y < V + f.nodes.length) (hn : f.nodes.length ≤ 100)
    (c1 : CRes V x (topF V x f.nodes) 0 X1) (c2 : CRes V y (topF V y f.nodes) 0 X2) (c3 : CRes V (V + f.nodes.length) (gateF V 2 x y f.nodes) 0 X3) (c4 : CRes V (V + f.nodes.length) (gateF V 3 x y f.nodes) 0 X4) : productK X1 X2 = some X3 ∧ plusK X1 X2 = some X4 := by
  have out : ∀ {V T : Nat} {f : Fm} {X : List Nat}, CRes V T f 0 X → synK V T f = true ∧ ∃ p, topK V T f.nodes = some p ∧ X = p.1 := by
    intro V T f X hc
    rcases hc with ⟨_, h1, h2⟩ | ⟨h1, _⟩ | ⟨h1, _⟩
    · exact ⟨h1, h2⟩
    · omega
    · omega
  obtain ⟨s1, p1, t1, rfl⟩ := out c1
  obtain ⟨s2, p2, t2, rfl⟩ := out c2
  obtain ⟨_, p3, t3, rfl⟩ := out c3
  obtain ⟨_, p4, t4, rfl⟩ := out c4
  exact ⟨gates_product h hx hy hn t1 t2 t3 s1 s2, gates_plus h hx hy hn t1 t2 t4 s1 s2⟩
/-- Blocks below A and from B on are as they were. -/
def Apart (A B : Nat) (w w' : World) : Prop := w.heap.size ≤ w'.heap.size ∧ ∀ k, k < w.heap.size → (k < A ∨ B ≤ k) → w'.heap[k]? = w.heap[k]?
theorem Apart.trans {A B : Nat} {a b c : World} (h : Apart A B a b) (k : Apart A B b c) : Apart A B a c :=
  ⟨Nat.le_trans h.1 k.1, fun i hi hr => (k.2 i (Nat.lt_of_lt_of_le hi h.1) hr).trans (h.2 i hi hr)⟩
theorem Apart.of_kept {A B : Nat} {a b : World} (h : Kept a b) : Apart A B a b := ⟨h.size, fun i hi _ => h.block i hi⟩
theorem Apart.store {A B : Nat} {a b : World} (h : Apart A B a b) {g : Nat} (h1 : A ≤ g) (h2 : g < B) (i : Nat) (u : Value) : Apart A B a (b.setCell ⟨g, i, none⟩ u) :=
  h.trans ⟨by simp [World.setCell], fun k _ hr => Below.heap_setCell b ⟨g, i, none⟩ u k (show k ≠ g by omega)⟩
/-- Nodes that can be read, and stay so. -/
def NodesFar (A B : Nat) (w : World) (v : Value) (xs : List Nd) : Prop := ∀ W, Apart A B w W → NodesAt W v xs
theorem NodesFar.step {A B : Nat} {w w' : World} {v : Value} {xs : List Nd} (h : NodesFar A B w v xs) (hk : Apart A B w w') : NodesFar A B w' v xs := fun W hW => h W (hk.trans hW)
theorem NodesFar.at {A B : Nat} {w : World} {v : Value} {xs : List Nd} (h : NodesFar A B w v xs) : NodesAt w v xs := h w ⟨Nat.le_refl _, fun _ _ _ => rfl⟩
theorem IntsAt.agree {w W : World} {v : Value} {xs : List Int} (h : IntsAt w v xs) (hW : ∀ k, k < w.heap.size → W.heap[k]? = w.heap[k]?) : IntsAt W v xs := by
  obtain ⟨a, c, h1, h0, h2, h3⟩ := h
  refine ⟨a, c, h1, h0, h2, fun i hi => ?_⟩
  obtain ⟨b, o, h4, h5⟩ := h3 i hi
  have hb : b < w.heap.size := World.block_lt_of_cell? w _ h5
  exact ⟨b, o, h4, (World.cell?_of_block (w := w) (a := ⟨b, o + i, none⟩) (hW b hb)).trans h5⟩
/-- The cells of some nodes, their arguments in an older world. -/
def NdCells (w0 : World) (cells : List Value) (xs : List Nd) : Prop :=
  ∀ i (h : i < xs.length), ∃ ua un uc, cells[i * 3]? = some (.int .i64 xs[i].kind) ∧ cells[i * 3 + 1]? = some (.int .i64 xs[i].k) ∧ cells[i * 3 + 2]? = some (.slice ua un uc) ∧ IntsAt w0 (.slice ua un uc) xs[i].args
theorem app_nds {ops : Array Oper} {rest : List Oper} {o : Oper} {a : Act} {Q : Exit → Act → World → Prop} {w : World} (hgd : o.guard = none) (s x : Operand)
    (ho : o.op = .call { callee := .builtin .append, args := #[s, x], argTypes := #[22, 22] }) (B : Nat) (v0 : Value) (hs : a.eval s = v0) (hown : w.ownsRow B 47 3 v0 0 [])
    (w0 : World) (v : Value) (xs : List Nd) (hx : a.eval x = v) (hv : NodesAt w0 v xs) (hk : Kept w0 w) (hl : xs.length ≤ 1000) (hB : B ≤ w.heap.size)
    (h : ∀ v1 w1 cells, w1.ownsRow B 47 3 v1 xs.length cells → NdCells w0 cells xs → Below B w w1 → wpList Try.prog ops Q rest (a.put o.dst v1) w1) : wpList Try.prog ops Q (o :: rest) a w := by
  obtain ⟨i0, hi0, hz0, hz1, hz2⟩ := info_parts info_node
  obtain ⟨ad, c, rfl, ⟨_, hcn⟩, _, hcell⟩ := hv
  by_cases hxs : xs = []
  · subst hxs
    cases ad with
    | none =>
      rw [hcn rfl] at hx
      refine wpList_append_own_none hgd s x 22 ho B 47 i0 3 Try.underlying22 hi0 v0 0 _ hs hown hx ?_
      exact h v0 w [] hown (fun i hi => by simp at hi) (Below.refl _ _)
    | some ad =>
      refine wpList_append_own _ hgd s x 22 ho B 47 i0 _ 3 40 Try.underlying22 hi0 hz0 hz1 hz2 rfl (by decide) v0 0 [] hs hown ad 0 c [] hx rfl (fun j u hj => by simp at hj) (by simp) (by unfold maxLen; omega) (by omega) hB ?_
      intro v1 w1 h3 h4 _
      exact h v1 w1 [] (by simpa using h3) (fun i hi => by simp at hi) (grown_below h4 hown hB)
  · have hpos : 0 < xs.length := List.length_pos_iff.2 hxs
    clear hxs
    obtain ⟨b, o0, rfl, _⟩ := hcell 0 hpos
    obtain ⟨news, hnews⟩ : ∃ news, news = (List.range (xs.length * 3)).map fun j => (w0.cell? ⟨b, o0 + j, none⟩).getD (.int .i64 0) := ⟨_, rfl⟩
    have hnl : news.length = xs.length * 3 := by rw [hnews]; simp
    have hget : ∀ j u, j < xs.length * 3 → w0.cell? ⟨b, o0 + j, none⟩ = some u → news[j]? = some u := fun j u hj hc => by
      rw [hnews, List.getElem?_map, List.getElem?_range hj]
      simp [hc]
    have hnd : ∀ i (hi : i < xs.length), ∃ ua un uc, w0.cell? ⟨b, o0 + i * 3, none⟩ = some (.int .i64 xs[i].kind) ∧ w0.cell? ⟨b, o0 + (i * 3 + 1), none⟩ = some (.int .i64 xs[i].k) ∧ w0.cell? ⟨b, o0 + (i * 3 + 2), none⟩ = some (.slice ua un uc) ∧ IntsAt w0 (.slice ua un uc) xs[i].args := fun i hi => by
      obtain ⟨b', o', h5, u, e0, e1, e2, e3⟩ := hcell i hi
      injection h5 with h5
      injection h5 with h6 h7
      subst h6 h7
      obtain ⟨ua, un, uc, rfl⟩ := e3.shape
      exact ⟨ua, un, uc, e0, by rw [← Nat.add_assoc]; exact e1, by rw [← Nat.add_assoc]; exact e2, e3⟩
    have hsome : ∀ j, j < xs.length * 3 → ∃ u, w0.cell? ⟨b, o0 + j, none⟩ = some u ∧ u.oneCell' = true := fun j hj => by
      obtain ⟨ua, un, uc, e0, e1, e2, _⟩ := hnd (j / 3) (by omega)
      have h3 : j % 3 < 3 := Nat.mod_lt _ (by omega)
      by_cases c0 : j % 3 = 0
      · exact ⟨_, by rw [show j = j / 3 * 3 by omega]; exact e0, rfl⟩
      · by_cases c1 : j % 3 = 1
        · exact ⟨_, by rw [show j = j / 3 * 3 + 1 by omega]; exact e1, rfl⟩
        · exact ⟨_, by rw [show j = j / 3 * 3 + 2 by omega]; exact e2, rfl⟩
    refine wpList_append_own _ hgd s x 22 ho B 47 i0 _ 3 40 Try.underlying22 hi0 hz0 hz1 hz2 rfl (by decide) v0 0 [] hs hown ⟨b, o0, none⟩ xs.length c news hx hnl ?_ ?_ (by unfold maxLen; omega) (by omega) hB ?_
    · intro j u hj
      have hj' : j < xs.length * 3 := by rw [← hnl]; exact (List.getElem?_eq_some_iff.1 hj).1
      obtain ⟨u2, h1, _⟩ := hsome j hj'
      have hj2 := Option.some.inj ((hget j u2 hj' h1).symm.trans hj)
      subst hj2
      rw [addr_add]
      exact hk.cell h1
    · intro u hu
      obtain ⟨j, hj⟩ := List.getElem?_of_mem hu
      have hj' : j < xs.length * 3 := by rw [← hnl]; exact (List.getElem?_eq_some_iff.1 hj).1
      obtain ⟨u2, h1, h2⟩ := hsome j hj'
      have hj2 := Option.some.inj ((hget j u2 hj' h1).symm.trans hj)
      subst hj2
      exact h2
    · intro v1 w1 h3 h4 _
      refine h v1 w1 news (by simpa using h3) (fun i hi => ?_) (grown_below h4 hown hB)
      obtain ⟨ua, un, uc, e0, e1, e2, e3⟩ := hnd i hi
      exact ⟨ua, un, uc, hget _ _ (by omega) e0, hget _ _ (by omega) e1, hget _ _ (by omega) e2, e3⟩
theorem app_gate {ops : Array Oper} {rest : List Oper} {o : Oper} {a : Act} {Q : Exit → Act → World → Prop} {w : World} (hgd : o.guard = none) (s x : Operand)
    (ho : o.op = .call { callee := .builtin .append, args := #[s, x], argTypes := #[22, 22] }) (B : Nat) (v1 : Value) (xs : List Nd) (cells : List Value) (hs : a.eval s = v1) (hown : w.ownsRow B 47 3 v1 xs.length cells)
    (w0 : World) (hcs : NdCells w0 cells xs) (hk : Kept w0 w) (gn ga : Nat) (kd : Int) (p q : Nat) (hx : a.eval x = .slice (some ⟨gn, 0, none⟩) 1 1) (hc : w.rangeAt gn 0 [.int .i64 kd, .int .i64 0, .slice (some ⟨ga, 0, none⟩) 2 2])
    (hga : RowAt w ga 3 [.int .i64 p, .int .i64 q]) (hne : v1.ownBlock ≠ some ga) (hgB : B ≤ ga) (hl : xs.length ≤ 1000) (hB : B ≤ w.heap.size) (hwB : w0.heap.size ≤ B)
    (h : ∀ v2 w2, NodesFar w0.heap.size B w2 v2 (xs ++ [gateNd kd p q]) → (∃ a c, v2 = .slice a (xs.length + 1) c) → Below B w w2 → wpList Try.prog ops Q rest (a.put o.dst v2) w2) : wpList Try.prog ops Q (o :: rest) a w := by
  obtain ⟨i0, hi0, hz0, hz1, hz2⟩ := info_parts info_node
  refine wpList_append_own _ hgd s x 22 ho B 47 i0 _ 3 40 Try.underlying22 hi0 hz0 hz1 hz2 rfl (by decide) v1 xs.length cells hs hown ⟨gn, 0, none⟩ 1 1 [.int .i64 kd, .int .i64 0, .slice (some ⟨ga, 0, none⟩) 2 2] hx rfl ?_ ?_ (by unfold maxLen; omega) (by omega) hB ?_
  · intro j u hj
    have := hc j u hj
    rw [addr_add]; simpa using this
  · intro u hu
    simp at hu
    rcases hu with rfl | rfl | rfl <;> rfl
  · intro v2 w2 h3 h4 _
    have hb := grown_below h4 hown hB
    have hga2 : RowAt w2 ga 3 [.int .i64 p, .int .i64 q] := hga.same (h4.block ga hga.lt fun e => hne e.symm)
    have hcl : cells.length = xs.length * 3 := hown.1
    have hk2 : Kept w0 w2 := hk.app (hb.mono hwB)
    obtain ⟨_, h5⟩ := h3
    rcases h5 with ⟨_, h6⟩ | ⟨g, cap, cur, rfl, h6, h7, h8, h9, h10, h11⟩
    · omega
    · refine h _ w2 (fun W hW => ?_) ⟨_, _, rfl⟩ hb
      have hcur : W.heap[g]? = some (.cells cur 47 (0, 0)) := (hW.2 g (heap_lt h7) (.inr h6)).trans h7
      have hgaW : RowAt W ga 3 [.int .i64 p, .int .i64 q] := hga2.same (hW.2 ga hga2.lt (.inr hgB))
      have hcell : ∀ j, j < (xs.length + 1) * 3 → W.cell? ⟨g, 0 + j, none⟩ = (cells ++ [.int .i64 kd, .int .i64 0, .slice (some ⟨ga, 0, none⟩) 2 2])[j]? := by
        intro j hj
        have e1 : (cur.toList.take ((xs.length + 1) * 3))[j]? = (cells ++ [.int .i64 kd, .int .i64 0, .slice (some ⟨ga, 0, none⟩) 2 2])[j]? := by rw [h11]
        rw [List.getElem?_take_of_lt hj] at e1
        simp only [World.cell?, hcur, Nat.zero_add]
        simpa using e1
      refine ⟨some ⟨g, 0, none⟩, cap, by simp, ⟨by simpa using h8, fun h => by cases h⟩, by simp; omega, fun i hi => ⟨g, 0, rfl, ?_⟩⟩
      simp only [List.length_append, List.length_cons, List.length_nil] at hi
      by_cases hik : i < xs.length
      · obtain ⟨ua, un, uc, e0, e1, e2, e3⟩ := hcs i hik
        rw [List.getElem_append_left hik]
        refine ⟨.slice ua un uc, ?_, ?_, ?_, e3.agree fun k hk => (hW.2 k (Nat.lt_of_lt_of_le hk hk2.size) (.inl hk)).trans (hk2.block k hk)⟩
        · rw [hcell _ (by omega), List.getElem?_append_left (by omega)]; exact e0
        · rw [Nat.add_assoc, hcell _ (by omega), List.getElem?_append_left (by omega)]; exact e1
        · rw [Nat.add_assoc, hcell _ (by omega), List.getElem?_append_left (by omega)]; exact e2
      · have e : i = xs.length := by omega
        subst e
        rw [List.getElem_append_right (Nat.le_refl _)]
        simp only [Nat.sub_self, List.getElem_cons_zero]
        refine ⟨.slice (some ⟨ga, 0, none⟩) 2 2, ?_, ?_, ?_, RowAt.ints (xs := [(p : Int), (q : Int)]) hgaW (by simp) (by simp)⟩
        · rw [hcell _ (by omega), List.getElem?_append_right (by omega), hcl]; simp [gateNd]
        · rw [Nat.add_assoc, hcell _ (by omega), List.getElem?_append_right (by omega), hcl]; simp [gateNd]
        · rw [Nat.add_assoc, hcell _ (by omega), List.getElem?_append_right (by omega), hcl]; simp
theorem own_emptyNd (w : World) (B : Nat) (hB : B ≤ w.heap.size) : (w.alloc (.cells #[] 47)).ownsRow B 47 3 (.slice (some ⟨w.heap.size, 0, none⟩) 0 0) 0 [] :=
  ⟨by simp, .inr ⟨w.heap.size, 0, #[], rfl, hB, heap_alloc_new w _, Nat.le_refl _, by unfold maxLen; omega, by simp, by simp⟩⟩
theorem range3 (w : World) (o : Obj) (x0 x1 x2 : Value) (e : TypeId) : ((w.alloc o).alloc (.cells #[x0, x1, x2] e)).rangeAt (w.heap.size + 1) 0 [x0, x1, x2] := by
  have := range_row (w.alloc o) x0 x1 x2 e
  simpa using this
theorem rowAt_first (w : World) (x0 x1 : Value) (e : TypeId) (o : Obj) : RowAt ((w.alloc (.cells #[x0, x1] e)).alloc o) w.heap.size e [x0, x1] := (RowAt.made w #[x0, x1] e).kept ((Kept.refl _).alloc o)
theorem rowAt_below {w w' : World} {B g : Nat} {e : TypeId} {xs : List Value} (h : RowAt w g e xs) (hb : Below B w w') (hg : g < B) : RowAt w' g e xs := h.same (hb.block g hg)
theorem two_rows (w : World) (cs : Array Value) (e : TypeId) : RowAt ((w.alloc (.cells cs e)).alloc (.cells cs e)).drew w.heap.size e cs.toList ∧ RowAt ((w.alloc (.cells cs e)).alloc (.cells cs e)).drew (w.heap.size + 1) e cs.toList ∧ Kept w ((w.alloc (.cells cs e)).alloc (.cells cs e)).drew ∧ ((w.alloc (.cells cs e)).alloc (.cells cs e)).drew.heap.size = w.heap.size + 2 := by
  refine ⟨(RowAt.made w cs e).kept ((Kept.refl _).alloc _).drew, ?_, (((Kept.refl _).alloc _).alloc _).drew, by simp⟩
  have := (RowAt.made (w.alloc (.cells cs e)) cs e).kept (Kept.refl _).drew
  simpa using this
end Go.Proofs.Ytapniojbnochiaa
