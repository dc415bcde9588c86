import Derived.Test.YtiplibgnfcdlkaaQ01
import Derived.Maps.RangeWalk
import Derived.Test.YtiplibgnfcdlkaaQ04
import Derived.Deep.AppendLies
import Derived.Deep.RegionLaw
import Derived.Deep.RegionHeld3
import Derived.Deep.LoopGhost
import Derived.Deep.DeepCutAuto
import Derived.Deep.Slices
import Derived.Deep.QuietTactic
import Derived.IntWalk
import Derived.StillTailTactics
import Derived.Carry
import Derived.BigRegion
/-
  Maps of the call's own, whatever the keys and the values: look-up, store.
-/
namespace Go.Proofs.Ytiplibgnfcdlkaa
open Go.RowKit

section
variable {κ : Type}
/-- Block b is a map whose entries are L, in the order in which they came. -/
def MapK (enc : κ → Value) (w : World) (b : Nat) (L : List (κ × Value)) : Prop :=
  ∃ es clock, w.heap[b]? = some (.map es clock) ∧ es.toList.map (fun e => (e.key, e.val)) = L.map (fun p => (enc p.1, p.2)) ∧ (L.map Prod.fst).Nodup
theorem MapK.made (enc : κ → Value) (w : World) : MapK enc (w.alloc (.map #[] 0)) w.heap.size [] := ⟨#[], 0, heap_alloc_new w _, rfl, by simp⟩
theorem MapK.same {enc : κ → Value} {w w' : World} {b : Nat} {L : List (κ × Value)} (h : MapK enc w b L) (hk : w'.heap[b]? = w.heap[b]?) : MapK enc w' b L := by
  obtain ⟨es, c, h1, h2⟩ := h
  exact ⟨es, c, hk.trans h1, h2⟩
theorem MapK.lt {enc : κ → Value} {w : World} {b : Nat} {L : List (κ × Value)} (h : MapK enc w b L) : b < w.heap.size := by
  obtain ⟨es, c, h1, _⟩ := h
  rcases Nat.lt_or_ge b w.heap.size with h2 | h2
  · exact h2
  · simp [Array.getElem?_eq_none h2] at h1
/-- The entries of a map are not cells. -/
theorem MapK.notCells {enc : κ → Value} {w : World} {b : Nat} {L : List (κ × Value)} (h : MapK enc w b L) {cur : Array Value} {e : TypeId} {fr : Nat × Nat} : w.heap[b]? ≠ some (.cells cur e fr) := by
  obtain ⟨es, c, h1, _⟩ := h
  rw [h1]
  intro h2
  cases h2
end
section
variable {κ : Type} [DecidableEq κ]
def findK (k : κ) : List (κ × Value) → Option Value
  | [] => none
  | p :: L => if k = p.1 then some p.2 else findK k L
def putK (k : κ) (v : Value) : List (κ × Value) → List (κ × Value)
  | [] => [(k, v)]
  | p :: L => if k = p.1 then (k, v) :: L else p :: putK k v L
def idxK (k : κ) : List (κ × Value) → Option Nat
  | [] => none
  | p :: L => if k = p.1 then some 0 else (idxK k L).map (· + 1)
theorem idxK_find {k : κ} : ∀ {L : List (κ × Value)}, (idxK k L = none ↔ findK k L = none) := by
  intro L
  induction L with
  | nil => simp [idxK, findK]
  | cons p L ih =>
    unfold idxK findK
    split
    · simp
    · rw [← ih]; cases idxK k L <;> simp
theorem findK_none {k : κ} : ∀ {L : List (κ × Value)}, findK k L = none ↔ k ∉ L.map Prod.fst := by
  intro L
  induction L with
  | nil => simp [findK]
  | cons p L ih =>
    unfold findK
    by_cases e : k = p.1
    · simp [e]
    · simp [e, ih]
theorem findK_mem {k : κ} {v : Value} : ∀ {L : List (κ × Value)}, findK k L = some v → (k, v) ∈ L := by
  intro L
  induction L with
  | nil => intro h; cases h
  | cons p L ih =>
    intro h
    unfold findK at h
    split at h
    · rename_i e; cases h; subst e; exact List.mem_cons_self
    · exact List.mem_cons_of_mem _ (ih h)
theorem mem_findK {k : κ} {v : Value} : ∀ {L : List (κ × Value)}, (L.map Prod.fst).Nodup → (k, v) ∈ L → findK k L = some v := by
  intro L
  induction L with
  | nil => intro _ h; cases h
  | cons p L ih =>
    intro hn h
    rw [List.map_cons, List.nodup_cons] at hn
    unfold findK
    rcases List.mem_cons.1 h with h | h
    · rw [← h, if_pos rfl]
    · rw [if_neg (fun e => hn.1 (by rw [← e]; exact List.mem_map.2 ⟨_, h, rfl⟩)), ih hn.2 h]
theorem putK_new {k : κ} {v : Value} : ∀ {L : List (κ × Value)}, findK k L = none → putK k v L = L ++ [(k, v)] := by
  intro L
  induction L with
  | nil => intro _; rfl
  | cons p L ih =>
    intro h
    unfold findK at h
    split at h
    · cases h
    · rename_i e; unfold putK; rw [if_neg e, ih h]; rfl
theorem putK_fst {k : κ} {v : Value} : ∀ {L : List (κ × Value)}, (putK k v L).map Prod.fst = if findK k L = none then L.map Prod.fst ++ [k] else L.map Prod.fst := by
  intro L
  induction L with
  | nil => rfl
  | cons p L ih =>
    unfold putK findK
    by_cases e : k = p.1
    · simp [e]
    · simp only [if_neg e, List.map_cons, ih]
      split <;> simp
theorem findK_put {k k' : κ} {v : Value} : ∀ {L : List (κ × Value)}, findK k' (putK k v L) = if k' = k then some v else findK k' L := by
  intro L
  induction L with
  | nil => rfl
  | cons p L ih =>
    unfold putK
    by_cases e : k = p.1
    · rw [if_pos e]
      unfold findK
      by_cases e2 : k' = k
      · simp [e2]
      · rw [if_neg e2, if_neg e2, if_neg (by rw [← e]; exact e2)]
    · rw [if_neg e]
      show (if k' = p.1 then some p.2 else findK k' (putK k v L)) = if k' = k then some v else (if k' = p.1 then some p.2 else findK k' L)
      rw [ih]
      by_cases e2 : k' = p.1
      · rw [if_pos e2, if_pos e2, if_neg (fun e3 => e (by rw [← e3, e2]))]
      · rw [if_neg e2, if_neg e2]
theorem idxK_lt {k : κ} : ∀ {L : List (κ × Value)} {j : Nat}, idxK k L = some j → ∃ h : j < L.length, (L[j]).1 = k := by
  intro L
  induction L with
  | nil => intro j h; cases h
  | cons p L ih =>
    intro j h
    unfold idxK at h
    split at h
    · rename_i e; cases h; exact ⟨by simp, e.symm⟩
    · obtain ⟨i, hi, rfl⟩ := Option.map_eq_some_iff.1 h
      obtain ⟨h1, h2⟩ := ih hi
      exact ⟨by simpa using h1, by simpa using h2⟩
theorem modifyK {enc : κ → Value} {k : κ} {v : Value} : ∀ {es : List MapEntry} {L : List (κ × Value)} {j : Nat}, es.map (fun e => (e.key, e.val)) = L.map (fun p => (enc p.1, p.2)) → idxK k L = some j →
    (es.modify j fun e => { e with key := enc k, val := v }).map (fun e => (e.key, e.val)) = (putK k v L).map (fun p => (enc p.1, p.2)) := by
  intro es
  induction es with
  | nil =>
    intro L j h hj
    cases L with
    | nil => cases hj
    | cons p L => simp at h
  | cons e es ih =>
    intro L j h hj
    cases L with
    | nil => cases hj
    | cons p L =>
      simp only [List.map_cons, List.cons.injEq, Prod.mk.injEq] at h
      obtain ⟨⟨h1, h2⟩, h3⟩ := h
      unfold idxK at hj
      unfold putK
      by_cases e1 : k = p.1
      · rw [if_pos e1] at hj ⊢
        cases hj
        simp [h3]
      · rw [if_neg e1] at hj ⊢
        obtain ⟨i, hi, rfl⟩ := Option.map_eq_some_iff.1 hj
        simp [h1, h2, ih h3 hi]
/-- What a map asks of its keys' type. -/
structure KeyT (P : Program) (kt : TypeId) (enc : κ → Value) : Prop where
  check : ∀ (em : Bool) (k : κ) (w : World), (Instr.checkKey em 10000 kt (enc k)).run P w = .ok () w
  find : ∀ (k : κ) (es : List MapEntry) (L : List (κ × Value)), es.map (fun e => (e.key, e.val)) = L.map (fun p => (enc p.1, p.2)) → ∀ w : World,
    (Instr.findKey kt (enc k) es).run P w = .ok ((idxK k L).bind fun j => (findK k L).map fun v => (j, v)) w
  bits : ∀ a, Instr.sameBits 10000 (enc a) (enc a) = true
theorem findAsk_K {P : Program} {kt : TypeId} {enc : κ → Value} (heq : ∀ (a b : κ) (w : World), (Op.equal kt (enc a) (enc b)).run P w = .ok (decide (a = b)) w) (k : κ) (w : World) : ∀ {es : List MapEntry} {L : List (κ × Value)} (i : Nat), es.map (fun e => (e.key, e.val)) = L.map (fun p => (enc p.1, p.2)) →
    (Instr.findAsking kt (enc k) es i).run P w = .ok ((idxK k L).bind fun j => (findK k L).map fun v => (i + j, v)) w := by
  intro es
  induction es with
  | nil =>
    intro L i h
    have : L = [] := by cases L with
      | nil => rfl
      | cons p L => simp at h
    subst this
    rfl
  | cons e es ih =>
    intro L i h
    cases L with
    | nil => simp at h
    | cons p L =>
      simp only [List.map_cons, List.cons.injEq, Prod.mk.injEq] at h
      obtain ⟨⟨h1, h2⟩, h3⟩ := h
      unfold Instr.findAsking idxK findK
      rw [h1]
      simp only [Sem.run_bind, heq, Result.andThen_ok]
      by_cases e1 : k = p.1
      · simp [e1, h2]
      · simp only [e1, decide_false, Bool.false_eq_true, if_false]
        rw [ih (i + 1) h3]
        cases h4 : idxK k L with
        | none => rfl
        | some j =>
          simp only [Option.map_some, Option.bind_some]
          cases findK k L with
          | none => rfl
          | some v => simp only [Option.map_some]; rw [show i + 1 + j = i + (j + 1) by omega]
/-- Keys that are asked whether they are equal: structs. -/
theorem KeyT.asked {P : Program} {kt : TypeId} {enc : κ → Value} (hc : ∀ (em : Bool) (k : κ) (w : World), (Instr.checkKey em 10000 kt (enc k)).run P w = .ok () w) {d : TypeDesc} (hd : P.underlying kt = some d) (hn : ∀ a b, Instr.sameNow d (enc a) (enc b) = none)
    (heq : ∀ (a b : κ) (w : World), (Op.equal kt (enc a) (enc b)).run P w = .ok (decide (a = b)) w) (hb : ∀ a, Instr.sameBits 10000 (enc a) (enc a) = true) : KeyT P kt enc := by
  refine ⟨hc, fun k es L h w => ?_, hb⟩
  cases es with
  | nil =>
    have : L = [] := by cases L with
      | nil => rfl
      | cons p L => simp at h
    subst this
    simp [Instr.findKey, run_underlying hd, Instr.findNow, idxK]
  | cons e es =>
    have hf := findAsk_K heq k w 0 h
    have h1 : Instr.findNow d (enc k) (e :: es) 0 = none := by
      cases L with
      | nil => simp at h
      | cons p L =>
        simp only [List.map_cons, List.cons.injEq, Prod.mk.injEq] at h
        unfold Instr.findNow
        rw [h.1.1, hn]
    simp only [Instr.findKey, Sem.run_bind, run_underlying hd, Result.andThen_ok, h1, hf]
    simp only [Nat.zero_add]
/-- Keys that are told apart at once: ints. -/
theorem KeyT.told {P : Program} {kt : TypeId} {enc : κ → Value} (hc : ∀ (em : Bool) (k : κ) (w : World), (Instr.checkKey em 10000 kt (enc k)).run P w = .ok () w) {d : TypeDesc} (hd : P.underlying kt = some d) (hn : ∀ a b, Instr.sameNow d (enc a) (enc b) = some (decide (a = b)))
    (hb : ∀ a, Instr.sameBits 10000 (enc a) (enc a) = true) : KeyT P kt enc := by
  have now : ∀ (k : κ) (es : List MapEntry) (L : List (κ × Value)) (i : Nat), es.map (fun e => (e.key, e.val)) = L.map (fun p => (enc p.1, p.2)) →
      Instr.findNow d (enc k) es i = some ((idxK k L).bind fun j => (findK k L).map fun v => (i + j, v)) := by
    intro k es
    induction es with
    | nil =>
      intro L i h
      have : L = [] := by cases L with
        | nil => rfl
        | cons p L => simp at h
      subst this
      rfl
    | cons e es ih =>
      intro L i h
      cases L with
      | nil => simp at h
      | cons p L =>
        simp only [List.map_cons, List.cons.injEq, Prod.mk.injEq] at h
        obtain ⟨⟨h1, h2⟩, h3⟩ := h
        unfold Instr.findNow idxK findK
        rw [h1, hn]
        by_cases e1 : k = p.1
        · simp [e1, h2]
        · simp only [e1, decide_false, if_false]
          rw [ih L (i + 1) h3]
          cases h4 : idxK k L with
          | none => rfl
          | some j =>
            simp only [Option.map_some, Option.bind_some]
            cases findK k L with
            | none => rfl
            | some v => simp only [Option.map_some]; rw [show i + 1 + j = i + (j + 1) by omega]
  refine ⟨hc, fun k es L h w => ?_, hb⟩
  simp only [Instr.findKey, Sem.run_bind, run_underlying hd, Result.andThen_ok, now k es L 0 h, Nat.zero_add]
  rfl
theorem zget_map {P : Program} {w : World} {b : Nat} {es : Array MapEntry} {c : Nat} (h : w.heap[b]? = some (.map es c)) : (getObj b).run P w = .ok (.map es c) w := by
  simp [getObj, Sem.run, h]
theorem zset_heap (w : World) (b : Nat) (o : Obj) (h : b < w.heap.size) : (ChangeMaps.setBlock w b o).heap[b]? = some o ∧ ∀ k, k ≠ b → (ChangeMaps.setBlock w b o).heap[k]? = w.heap[k]? := by
  unfold ChangeMaps.setBlock
  constructor
  · simp [h]
  · intro k hk
    simp [Ne.symm hk]
theorem zset_grown (w : World) (b : Nat) (o : Obj) (h : b < w.heap.size) : w.grownBy (ChangeMaps.setBlock w b o) (some b) :=
  ⟨rfl, rfl, rfl, by simp [ChangeMaps.setBlock], fun k _ hk => (zset_heap w b o h).2 k (fun e => hk (by rw [e]))⟩
theorem run_lookupK {P : Program} {t kt et : TypeId} {enc : κ → Value} (K : KeyT P kt enc) (ht : P.underlying t = some (.map kt et)) {w : World} {b : Nat} {L : List (κ × Value)} (h : MapK enc w b L) (k : κ) (z : Value) (hz : (zeroValue et).run P w = .ok z w) (ok : Bool) :
    (Instr.lookup t (.map (some b)) (enc k) ok).run P w = .ok (if ok = true then .tuple #[(findK k L).getD z, .bool (findK k L).isSome] else (findK k L).getD z) w := by
  obtain ⟨es, c, h1, h2, _⟩ := h
  have hf := K.find k _ _ h2 w
  cases e1 : findK k L with
  | none =>
    have e2 := idxK_find.2 e1
    rw [e2] at hf
    simp [Instr.lookup, run_underlying ht, zget_map h1, K.check, hf, hz, Result.andThen]
  | some v =>
    cases e2 : idxK k L with
    | none => rw [idxK_find.1 e2] at e1; cases e1
    | some j =>
      rw [e1, e2] at hf
      simp [Instr.lookup, run_underlying ht, zget_map h1, K.check, hf, Result.andThen]
theorem run_updateK {P : Program} {t kt et : TypeId} {enc : κ → Value} (K : KeyT P kt enc) (ht : P.underlying t = some (.map kt et)) {w : World} {b : Nat} {L : List (κ × Value)} (h : MapK enc w b L) (k : κ) (v : Value) :
    ∃ w', (Instr.mapUpdate t (.map (some b)) (enc k) v).run P w = .ok () w' ∧ MapK enc w' b (putK k v L) ∧ w.grownBy w' (some b) := by
  have hlt := h.lt
  obtain ⟨es, c, h1, h2, h5⟩ := h
  have hf := K.find k _ _ h2 w
  have hso : ∀ o, (setObj b o).run P w = .ok () (ChangeMaps.setBlock w b o) := fun o => by simp [setObj, Sem.run, h1, ChangeMaps.setBlock]
  cases e1 : findK k L with
  | none =>
    have e2 := idxK_find.2 e1
    rw [e2] at hf
    refine ⟨ChangeMaps.setBlock w b (.map (es.push { key := enc k, val := v, born := c }) (c + 1)), ?_, ⟨_, _, (zset_heap w b _ hlt).1, ?_, ?_⟩, zset_grown w b _ hlt⟩
    · simp [Instr.mapUpdate, run_underlying ht, zget_map h1, K.check, hf, hso, Result.andThen]
    · rw [putK_new e1]; simp [h2]
    · rw [putK_fst, if_pos e1]
      refine List.nodup_append.2 ⟨h5, by simp, fun a ha b hb => ?_⟩
      rw [List.mem_singleton] at hb
      rw [hb]
      exact fun e => (findK_none.1 e1) (e ▸ ha)
  | some v0 =>
    cases e2 : idxK k L with
    | none => rw [idxK_find.1 e2] at e1; cases e1
    | some j =>
      rw [e1, e2] at hf
      obtain ⟨hj, hkj⟩ := idxK_lt e2
      have hlen : es.toList.length = L.length := by have := congrArg List.length h2; simpa using this
      have hjs : j < es.size := by simpa using (by omega : j < es.toList.length)
      have hkey : (es[j]'hjs).key = enc k := by
        have := congrArg (fun l => l[j]?) h2
        simp [hj, hjs] at this
        rw [this.1, hkj]
      have hks : (Instr.keyThatStays (enc k) (enc k)).run P w = .ok (enc k) w := by
        unfold Instr.keyThatStays
        rw [if_pos (K.bits k)]
        rfl
      refine ⟨ChangeMaps.setBlock w b (.map (es.modify j fun e => { e with key := enc k, val := v }) c), ?_, ⟨_, _, (zset_heap w b _ hlt).1, ?_, ?_⟩, zset_grown w b _ hlt⟩
      · simp [Instr.mapUpdate, run_underlying ht, zget_map h1, K.check, hf, hso, Result.andThen, hjs, hkey, hks]
      · rw [Array.toList_modify]; exact modifyK h2 e2
      · rw [putK_fst, if_neg (by rw [e1]; simp)]; exact h5
end
section
variable {ops : Array Oper} {rest : List Oper} {o : Oper} {a : Act} {Q : Exit → Act → World → Prop} {w : World} {P : Program} {κ : Type} [DecidableEq κ] {enc : κ → Value}
theorem look_K {t kt et : TypeId} (K : KeyT P kt enc) (ht : P.underlying t = some (.map kt et)) (z : Value) (hz : ∀ w, (zeroValue et).run P w = .ok z w) (hg : o.guard = none) (m x : Operand) (hop : o.op = Op.lookup t m x false) (b : Nat) (L : List (κ × Value)) (hm : a.eval m = .map (some b)) (h : MapK enc w b L) (k : κ) (hx : a.eval x = enc k)
    (hK : wpList P ops Q rest (a.put o.dst ((findK k L).getD z)) w) : wpList P ops Q (o :: rest) a w := by
  refine wpList_plain hg fun K' hK' => ?_
  have hrun := run_lookupK K ht h k z (hz w) false
  unfold Oper.wp
  simp [execOp, hop, hm, hx, hrun, Result.andThen]
  exact hK' _ _ hK
theorem look_ok_K {t kt et : TypeId} (K : KeyT P kt enc) (ht : P.underlying t = some (.map kt et)) (z : Value) (hz : ∀ w, (zeroValue et).run P w = .ok z w) (hg : o.guard = none) (m x : Operand) (hop : o.op = Op.lookup t m x true) (b : Nat) (L : List (κ × Value)) (hm : a.eval m = .map (some b)) (h : MapK enc w b L) (k : κ) (hx : a.eval x = enc k)
    (hK : wpList P ops Q rest (a.put o.dst (.tuple #[(findK k L).getD z, .bool (findK k L).isSome])) w) : wpList P ops Q (o :: rest) a w := by
  refine wpList_plain hg fun K' hK' => ?_
  have hrun := run_lookupK K ht h k z (hz w) true
  unfold Oper.wp
  simp [execOp, hop, hm, hx, hrun, Result.andThen]
  exact hK' _ _ hK
theorem store_K {t kt et : TypeId} (K : KeyT P kt enc) (ht : P.underlying t = some (.map kt et)) (hg : o.guard = none) (m x v : Operand) (hop : o.op = Op.mapUpdate t m x v) (b : Nat) (L : List (κ × Value)) (hm : a.eval m = .map (some b)) (h : MapK enc w b L) (k : κ) (hx : a.eval x = enc k) (c : Value) (hv : a.eval v = c)
    (hK : ∀ w', MapK enc w' b (putK k c L) → w.grownBy w' (some b) → wpList P ops Q rest (a.put o.dst undef) w') : wpList P ops Q (o :: rest) a w := by
  obtain ⟨w', hrun, h1, h2⟩ := run_updateK K ht h k c
  refine wpList_plain hg fun K' hK' => ?_
  unfold Oper.wp
  simp [execOp, hop, hm, hx, hv, hrun, Result.andThen]
  exact hK' _ _ (hK w' h1 h2)
end
end Go.Proofs.Ytiplibgnfcdlkaa

/-
  The keys of decision's maps: nodes, and an operation with its arguments; ints.
-/
namespace Go.Proofs.Ytiplibgnfcdlkaa
open Go.RowKit

theorem part_int {P : Program} {t : TypeId} (ha : ∀ w, (isAgg t).run P w = .ok false w) {cs : Array Value} {i : Nat} {v : Value} (h : cs[i]? = some v) (w : World) : (part t cs i).run P w = .ok v w := by
  unfold part
  simp only [Sem.run_bind, ha, Result.andThen_ok, Bool.false_eq_true, if_false, h]
  rfl
/-- What is told of a struct's fields. -/
def flds (fs : List Field) : List (String × TypeId × Nat) := fs.map fun f => (f.name, f.type, f.offset)
theorem flds_cons {fs : List Field} {x : String × TypeId × Nat} {l : List (String × TypeId × Nat)} (h : flds fs = x :: l) : ∃ f r, fs = f :: r ∧ f.name = x.1 ∧ f.type = x.2.1 ∧ f.offset = x.2.2 ∧ flds r = l := by
  cases fs with
  | nil => cases h
  | cons f r =>
    unfold flds at h
    rw [List.map_cons] at h
    injection h with h1 h2
    exact ⟨f, r, rfl, by rw [← h1], by rw [← h1], by rw [← h1], h2⟩
theorem flds_nil {fs : List Field} (h : flds fs = []) : fs = [] := by
  cases fs with
  | nil => rfl
  | cons f r => cases h
section
variable {P : Program} {t0 t1 t2 : TypeId} {q0 q1 q2 : IntKind} {n0 n1 n2 : String}
theorem eqFields3 (hn0 : n0 ≠ "_") (hn1 : n1 ≠ "_") (hn2 : n2 ≠ "_") (hu0 : P.underlying t0 = some (.int q0)) (hu1 : P.underlying t1 = some (.int q1)) (hu2 : P.underlying t2 = some (.int q2))
    (ha0 : ∀ w, (isAgg t0).run P w = .ok false w) (ha1 : ∀ w, (isAgg t1).run P w = .ok false w) (ha2 : ∀ w, (isAgg t2).run P w = .ok false w) {fs : List Field} (hf : flds fs = [(n0, t0, 0), (n1, t1, 1), (n2, t2, 2)]) (d : Nat) (a b c a' b' c' : Int) (w : World) :
    (Op.eqFields (d + 1) #[.int q0 a, .int q1 b, .int q2 c] #[.int q0 a', .int q1 b', .int q2 c'] fs).run P w = .ok (decide (a = a' ∧ b = b' ∧ c = c')) w := by
  obtain ⟨f0, r0, rfl, e1, e2, e3, hf⟩ := flds_cons hf
  obtain ⟨f1, r1, rfl, e4, e5, e6, hf⟩ := flds_cons hf
  obtain ⟨f2, r2, rfl, e7, e8, e9, hf⟩ := flds_cons hf
  have := flds_nil hf
  subst this
  have p0 : ∀ (x y z : Value) (w : World), (part t0 #[x, y, z] 0).run P w = .ok x w := fun x y z w => part_int ha0 rfl w
  have p1 : ∀ (x y z : Value) (w : World), (part t1 #[x, y, z] 1).run P w = .ok y w := fun x y z w => part_int ha1 rfl w
  have p2 : ∀ (x y z : Value) (w : World), (part t2 #[x, y, z] 2).run P w = .ok z w := fun x y z w => part_int ha2 rfl w
  simp only at e1 e2 e3 e4 e5 e6 e7 e8 e9
  simp only [Op.eqFields, e1, e2, e3, e4, e5, e6, e7, e8, e9]
  by_cases h1 : a = a'
  · by_cases h2 : b = b'
    · by_cases h3 : c = c'
      · simp [h1, h2, h3, hn0, hn1, hn2, p0, p1, p2, run_equalIn_int _ _ _ _ _ _ _ hu0, run_equalIn_int _ _ _ _ _ _ _ hu1, run_equalIn_int _ _ _ _ _ _ _ hu2]
      · simp [h1, h2, h3, hn0, hn1, hn2, p0, p1, p2, run_equalIn_int _ _ _ _ _ _ _ hu0, run_equalIn_int _ _ _ _ _ _ _ hu1, run_equalIn_int _ _ _ _ _ _ _ hu2]
    · simp [h1, h2, hn0, hn1, p0, p1, run_equalIn_int _ _ _ _ _ _ _ hu0, run_equalIn_int _ _ _ _ _ _ _ hu1]
  · simp [h1, hn0, p0, run_equalIn_int _ _ _ _ _ _ _ hu0]
theorem check3 (hu0 : P.underlying t0 = some (.int q0)) (hu1 : P.underlying t1 = some (.int q1)) (hu2 : P.underlying t2 = some (.int q2))
    (ha0 : ∀ w, (isAgg t0).run P w = .ok false w) (ha1 : ∀ w, (isAgg t1).run P w = .ok false w) (ha2 : ∀ w, (isAgg t2).run P w = .ok false w) {kt : TypeId} {fs : Array Field} (hk : P.underlying kt = some (.struct fs)) (hf : flds fs.toList = [(n0, t0, 0), (n1, t1, 1), (n2, t2, 2)]) (em : Bool) (a b c : Int) (w : World) :
    (Instr.checkKey em 10000 kt (.agg #[.int q0 a, .int q1 b, .int q2 c])).run P w = .ok () w := by
  obtain ⟨f0, r0, e0, e1, e2, e3, hf⟩ := flds_cons hf
  obtain ⟨f1, r1, rfl, e4, e5, e6, hf⟩ := flds_cons hf
  obtain ⟨f2, r2, rfl, e7, e8, e9, hf⟩ := flds_cons hf
  have := flds_nil hf
  subst this
  have p0 : ∀ (x y z : Value) (w : World), (part t0 #[x, y, z] 0).run P w = .ok x w := fun x y z w => part_int ha0 rfl w
  have p1 : ∀ (x y z : Value) (w : World), (part t1 #[x, y, z] 1).run P w = .ok y w := fun x y z w => part_int ha1 rfl w
  have p2 : ∀ (x y z : Value) (w : World), (part t2 #[x, y, z] 2).run P w = .ok z w := fun x y z w => part_int ha2 rfl w
  have ck : ∀ (t : TypeId) (q : IntKind) (x : Int) (w : World), P.underlying t = some (.int q) → (Instr.checkKey em 9999 t (.int q x)).run P w = .ok () w := fun t q x w h => by
    show (Instr.checkKey em (9998 + 1) t (.int q x)).run P w = _
    rw [Instr.checkKey]
    simp only [Sem.run_bind, run_underlying h, Result.andThen_ok]
    rfl
  simp only at e1 e2 e3 e4 e5 e6 e7 e8 e9
  show (Instr.checkKey em (9999 + 1) kt (.agg #[.int q0 a, .int q1 b, .int q2 c])).run P w = _
  rw [Instr.checkKey]
  simp only [Sem.run_bind, run_underlying hk, Result.andThen_ok]
  rw [← Array.forIn_toList, e0]
  simp only [List.forIn_cons, List.forIn_nil, e1, e2, e3, e4, e5, e6, e7, e8, e9, Sem.run_bind, Sem.run_ite]
  by_cases x0 : n0 = "_" <;> by_cases x1 : n1 = "_" <;> by_cases x2 : n2 = "_" <;> simp [x0, x1, x2, p0, p1, p2, ck _ _ _ _ hu0, ck _ _ _ _ hu1, ck _ _ _ _ hu2]
end
/-- A node, as a key and as an element. -/
def znV (n : ZNode) : Value := .agg #[.int .i64 n.v, .int .i64 n.lo, .int .i64 n.hi]
theorem znV_inj {a b : ZNode} (h : znV a = znV b) : a = b := by
  obtain ⟨a1, a2, a3⟩ := a
  obtain ⟨b1, b2, b3⟩ := b
  simp [znV] at h
  obtain ⟨h1, h2, h3⟩ := h
  rw [show a1 = b1 by omega, show a2 = b2 by omega, show a3 = b3 by omega]
theorem zn_fields : flds (Try.prog.fieldsOf 63).toList = [("Var", 3, 0), ("Lo", 3, 1), ("Hi", 3, 2)] := by kernel_rfl
theorem zn_struct : Try.prog.underlying 63 = some (.struct (Try.prog.fieldsOf 63)) := by kernel_rfl
theorem zn_stood : Try.prog.stoodInHeld 63 = false := by kernel_rfl
theorem znKey : KeyT Try.prog 63 znV := by
  refine KeyT.asked (fun em k w => check3 Try.underlying3 Try.underlying3 Try.underlying3 Try.isAgg3 Try.isAgg3 Try.isAgg3 zn_struct zn_fields em _ _ _ w) zn_struct (fun _ _ => rfl) (fun a b w => ?_) fun a => ?_
  · show (Op.equalIn (9999 + 1) 63 (.agg _) (.agg _)).run Try.prog w = _
    rw [run_equalIn_struct w 9999 _ _ _ zn_struct zn_stood]
    rw [eqFields3 (d := 9998) (by decide) (by decide) (by decide) Try.underlying3 Try.underlying3 Try.underlying3 Try.isAgg3 Try.isAgg3 Try.isAgg3 zn_fields]
    congr 1
    obtain ⟨a1, a2, a3⟩ := a
    obtain ⟨b1, b2, b3⟩ := b
    simp only [ZNode.mk.injEq]
    exact decide_eq_decide.2 (by omega)
  · simp [Instr.sameBits, znV]
/-- An operation and its arguments. -/
def skV (k : Nat × Nat × Nat) : Value := .agg #[.int .u8 k.1, .int .i64 k.2.1, .int .i64 k.2.2]
theorem sk_fields : flds (Try.prog.fieldsOf 110).toList = [("op", 5, 0), ("a", 3, 1), ("b", 3, 2)] := by kernel_rfl
theorem sk_struct : Try.prog.underlying 110 = some (.struct (Try.prog.fieldsOf 110)) := by kernel_rfl
theorem sk_stood : Try.prog.stoodInHeld 110 = false := by kernel_rfl
theorem skKey : KeyT Try.prog 110 skV := by
  refine KeyT.asked (fun em k w => check3 Try.underlying5 Try.underlying3 Try.underlying3 Try.isAgg5 Try.isAgg3 Try.isAgg3 sk_struct sk_fields em _ _ _ w) sk_struct (fun _ _ => rfl) (fun a b w => ?_) fun a => ?_
  · show (Op.equalIn (9999 + 1) 110 (.agg _) (.agg _)).run Try.prog w = _
    rw [run_equalIn_struct w 9999 _ _ _ sk_struct sk_stood]
    rw [eqFields3 (d := 9998) (by decide) (by decide) (by decide) Try.underlying5 Try.underlying3 Try.underlying3 Try.isAgg5 Try.isAgg3 Try.isAgg3 sk_fields]
    congr 1
    obtain ⟨a1, a2, a3⟩ := a
    obtain ⟨b1, b2, b3⟩ := b
    simp only [Prod.mk.injEq]
    exact decide_eq_decide.2 (by omega)
  · simp [Instr.sameBits, skV]
/-- Ints as keys. -/
def ikV (k : Nat) : Value := .int .i64 k
theorem ikKey : KeyT Try.prog 3 ikV := by
  refine KeyT.told (fun em k w => ?_) Try.underlying3 (fun a b => ?_) fun a => ?_
  · show (Instr.checkKey em (9999 + 1) _ (.int .i64 k)).run Try.prog w = _
    rw [Instr.checkKey]
    simp only [Sem.run_bind, run_underlying Try.underlying3, Result.andThen_ok]
    rfl
  · simp only [Instr.sameNow, ikV, if_true]
    congr 1
    rw [Bool.eq_iff_iff, beq_iff_eq, decide_eq_true_iff]
    omega
  · simp [Instr.sameBits, ikV]
end Go.Proofs.Ytiplibgnfcdlkaa

/-
  The table of decision.Sets in memory: its nodes, its two maps; what its operations leave alone.
-/
namespace Go.Proofs.Ytiplibgnfcdlkaa
open Go.RowKit

/-- The blocks of a table: itself, the map of its nodes, what is remembered. -/
structure ZT where
  tb : Nat
  ub : Nat
  mb : Nat
def ZT.val (t : ZT) : Value := .pointer (some ⟨t.tb, 0, none⟩)
def znC (n : ZNode) : List Value := [.int .i64 n.v, .int .i64 n.lo, .int .i64 n.hi]
/-- A block that is the table's. -/
def ZT.own (t : ZT) (w : World) (k : Nat) : Prop := k = t.tb ∨ k = t.ub ∨ k = t.mb ∨ ∃ v, w.cell? ⟨t.tb, 0, none⟩ = some v ∧ v.ownBlock = some k
/-- All but the table stays. -/
structure TFrm (t : ZT) (w w' : World) : Prop where
  os : w'.os = w.os
  tape : w'.tape = w.tape
  output : w'.output = w.output
  size : w.heap.size ≤ w'.heap.size
  block : ∀ k, k < w.heap.size → ¬ t.own w k → w'.heap[k]? = w.heap[k]?
  own : ∀ k, t.own w' k → t.own w k ∨ w.heap.size ≤ k
theorem TFrm.refl (t : ZT) (w : World) : TFrm t w w := ⟨rfl, rfl, rfl, Nat.le_refl _, fun _ _ _ => rfl, fun _ h => .inl h⟩
theorem TFrm.trans {t : ZT} {a b c : World} (h : TFrm t a b) (k : TFrm t b c) : TFrm t a c := by
  refine ⟨k.os.trans h.os, k.tape.trans h.tape, k.output.trans h.output, Nat.le_trans h.size k.size, fun i hi hn => ?_, fun i hi => ?_⟩
  · refine (k.block i (Nat.lt_of_lt_of_le hi h.size) fun hb => ?_).trans (h.block i hi hn)
    rcases h.own i hb with h1 | h1
    · exact hn h1
    · omega
  · rcases k.own i hi with h1 | h1
    · exact h.own i h1
    · exact .inr (Nat.le_trans h.size h1)
theorem ZT.own_same {t : ZT} {w w' : World} (h : w'.heap[t.tb]? = w.heap[t.tb]?) {k : Nat} (hk : t.own w' k) : t.own w k := by
  rcases hk with h1 | h1 | h1 | ⟨v, h1, h2⟩
  · exact .inl h1
  · exact .inr (.inl h1)
  · exact .inr (.inr (.inl h1))
  · exact .inr (.inr (.inr ⟨v, by rw [← h1]; exact (World.cell?_of_block (w := w) h).symm, h2⟩))
theorem TFrm.kept {t : ZT} {w w' : World} (h : Kept w w') (hl : t.tb < w.heap.size) : TFrm t w w' :=
  ⟨h.os, h.tape, h.output, h.size, fun k hk _ => h.block k hk, fun _ hk => .inl (ZT.own_same (h.block _ hl) hk)⟩
/-- Block g changes alone, and it is the table's. -/
theorem TFrm.grown {t : ZT} {w w' : World} {g : Nat} (h : w.grownBy w' (some g)) (hg : t.own w g) (hl : t.tb < w.heap.size) (hne : t.tb ≠ g) : TFrm t w w' :=
  ⟨h.os, h.tape, h.output, h.size, fun k hk hn => h.block k hk fun e => hn (by cases e; exact hg), fun _ hk => .inl (ZT.own_same (h.block _ hl fun e => hne (by cases e; rfl)) hk)⟩
/-- A cell beside the table. -/
def Box (t : ZT) (w : World) (b i : Nat) (v : Value) : Prop := w.cell? ⟨b, i, none⟩ = some v ∧ ¬ t.own w b
theorem Box.lt {t : ZT} {w : World} {b i : Nat} {v : Value} (h : Box t w b i v) : b < w.heap.size := World.block_lt_of_cell? w _ h.1
theorem Box.frm {t : ZT} {w w' : World} {b i : Nat} {v : Value} (h : Box t w b i v) (hf : TFrm t w w') : Box t w' b i v := by
  have hl := h.lt
  refine ⟨(World.cell?_of_block (w := w) (hf.block b hl h.2)).trans h.1, fun hk => ?_⟩
  rcases hf.own b hk with h1 | h1
  · exact h.2 h1
  · omega
/-- The table in memory. -/
def TblAt (w : World) (t : ZT) (N : List ZNode) : Prop :=
  ∃ (v : Value) (U : List (ZNode × Value)) (M : List ((Nat × Nat × Nat) × Value)), RowAt w t.tb 93 [v, .map (some t.ub), .map (some t.mb)] ∧ w.ownsRow 0 63 3 v N.length (N.flatMap znC) ∧
    (MapK znV w t.ub U ∧ ∀ n, findK n U = if n ∈ N then some (.int .i64 ((2 + N.idxOf n : Nat) : Int)) else none) ∧
    (MapK skV w t.mb M ∧ ∀ k u, findK k M = some u → ∃ r : Nat, u = .int .i64 r ∧ ZMem N k r) ∧ ZGood N ∧ t.ub ≠ t.mb ∧ N.length ≤ 4398046511104
theorem TblAt.good {w : World} {t : ZT} {N : List ZNode} (h : TblAt w t N) : ZGood N := by obtain ⟨_, _, _, _, _, _, _, h, _⟩ := h; exact h
theorem TblAt.len {w : World} {t : ZT} {N : List ZNode} (h : TblAt w t N) : N.length ≤ 4398046511104 := by obtain ⟨_, _, _, _, _, _, _, _, _, h⟩ := h; exact h
theorem TblAt.lt {w : World} {t : ZT} {N : List ZNode} (h : TblAt w t N) : t.tb < w.heap.size := by obtain ⟨_, _, _, h, _⟩ := h; exact h.lt
theorem own_lt {w : World} {B : Nat} {e : TypeId} {s n : Nat} {v : Value} {xs : List Value} (h : w.ownsRow B e s v n xs) {k : Nat} (hk : v.ownBlock = some k) : ∃ cur, w.heap[k]? = some (.cells cur e (0, 0)) := by
  obtain ⟨_, h2⟩ := h
  rcases h2 with ⟨rfl, _⟩ | ⟨g, cap, cur, rfl, _, h7, _⟩
  · cases hk
  · cases hk; exact ⟨cur, h7⟩
theorem TblAt.own_lt {w : World} {t : ZT} {N : List ZNode} (h : TblAt w t N) {k : Nat} (hk : t.own w k) : k < w.heap.size := by
  obtain ⟨v, U, M, h1, h2, ⟨h3, _⟩, ⟨h4, _⟩, _, _⟩ := h
  rcases hk with rfl | rfl | rfl | ⟨u, e1, e2⟩
  · exact h1.lt
  · exact h3.lt
  · exact h4.lt
  · have := h1.cell (i := 0) (by simp)
    rw [e1] at this
    obtain rfl : u = v := by simpa using this
    obtain ⟨cur, hc⟩ := Go.Proofs.Ytiplibgnfcdlkaa.own_lt h2 e2
    rcases Nat.lt_or_ge k w.heap.size with h | h
    · exact h
    · simp [Array.getElem?_eq_none h] at hc
theorem TblAt.kept {w w' : World} {t : ZT} {N : List ZNode} (h : TblAt w t N) (hk : Kept w w') : TblAt w' t N := by
  obtain ⟨v, U, M, h1, h2, ⟨h3, h4⟩, ⟨h5, h6⟩, h7⟩ := h
  exact ⟨v, U, M, h1.kept hk, own_kept h2 hk, ⟨h3.same (hk.block _ h3.lt), h4⟩, ⟨h5.same (hk.block _ h5.lt), h6⟩, h7⟩
theorem TblAt.frm {w w' : World} {t : ZT} {N : List ZNode} (h : TblAt w t N) (hk : Kept w w') : TFrm t w w' := TFrm.kept hk h.lt
/-- A new cell lies beside the table. -/
theorem TblAt.box {w : World} {t : ZT} {N : List ZNode} (h : TblAt w t N) {b i : Nat} {w' : World} {v : Value} (hk : Kept w w') (hb : w.heap.size ≤ b) (hc : w'.cell? ⟨b, i, none⟩ = some v) : Box t w' b i v :=
  ⟨hc, fun ho => by have := h.own_lt (ZT.own_same (hk.block _ h.lt) ho); omega⟩
/-- Whatever stays if the table alone changes stays. -/
theorem TFrm.toKept {t : ZT} {w0 w w' : World} (h : TFrm t w w') (hk : Kept w0 w) (hn : ∀ k, t.own w k → w0.heap.size ≤ k) : Kept w0 w' :=
  ⟨h.os.trans hk.os, h.tape.trans hk.tape, h.output.trans hk.output, Nat.le_trans hk.size h.size, fun k hlt => (h.block k (Nat.lt_of_lt_of_le hlt hk.size) fun ho => by have := hn k ho; omega).trans (hk.block k hlt)⟩
theorem TFrm.above {t : ZT} {w w' : World} {B : Nat} (h : TFrm t w w') (hB : B ≤ w.heap.size) (hn : ∀ k, t.own w k → B ≤ k) : ∀ k, t.own w' k → B ≤ k := fun k hk => by
  rcases h.own k hk with h1 | h1
  · exact hn k h1
  · omega
theorem zn_len (N : List ZNode) : (N.flatMap znC).length = N.length * 3 := by
  induction N with
  | nil => rfl
  | cons c N ih => simp [znC, ih]; omega
theorem zn_get (N : List ZNode) : ∀ i (h : i < N.length) j, j < 3 → (N.flatMap znC)[i * 3 + j]? = (znC N[i])[j]? := by
  induction N with
  | nil => intro i h; simp at h
  | cons c N ih =>
    intro i h j hj
    rw [List.flatMap_cons]
    cases i with
    | zero => rw [List.getElem?_append_left (by simp [znC]; omega)]; simp
    | succ i =>
      rw [List.getElem?_append_right (by simp [znC]; omega), show (znC c).length = 3 from rfl, show (i + 1) * 3 + j - 3 = i * 3 + j by omega]
      exact ih i (by simpa using h) j hj
/-- The cells of the table and of a node. -/
theorem TblAt.cells {w : World} {t : ZT} {N : List ZNode} (h : TblAt w t N) : ∃ (a : Option Addr) (c : Nat), w.cell? ⟨t.tb, 0, none⟩ = some (.slice a N.length c) ∧ w.cell? ⟨t.tb, 1, none⟩ = some (.map (some t.ub)) ∧ w.cell? ⟨t.tb, 2, none⟩ = some (.map (some t.mb)) ∧ (N.length ≤ c ∧ (a = none → c = 0)) ∧
    ∀ i (_ : i < N.length), ∃ b o, a = some ⟨b, o, none⟩ ∧ w.cell? ⟨b, o + i * 3, none⟩ = some (.int .i64 N[i].v) ∧ w.cell? ⟨b, o + i * 3 + 1, none⟩ = some (.int .i64 N[i].lo) ∧ w.cell? ⟨b, o + i * 3 + 2, none⟩ = some (.int .i64 N[i].hi) := by
  obtain ⟨v, U, M, h1, h2, _⟩ := h
  have c0 := h1.cell (i := 0) (by simp)
  have c1 := h1.cell (i := 1) (by simp)
  have c2 := h1.cell (i := 2) (by simp)
  simp only [List.getElem_cons_succ, List.getElem_cons_zero] at c0 c1 c2
  obtain ⟨h3, h4⟩ := h2
  rcases h4 with ⟨rfl, h6⟩ | ⟨g, cap, cur, rfl, h6, h7, h8, h9, h10, h11⟩
  · have : N = [] := List.eq_nil_of_length_eq_zero h6
    subst this
    exact ⟨none, 0, c0, c1, c2, ⟨by simp, fun _ => rfl⟩, fun i h => by simp at h⟩
  · refine ⟨some ⟨g, 0, none⟩, cap, c0, c1, c2, ⟨h8, fun h => by cases h⟩, fun i hi => ⟨g, 0, rfl, ?_⟩⟩
    have e : ∀ j u, j < 3 → (znC N[i])[j]? = some u → w.cell? ⟨g, i * 3 + j, none⟩ = some u := fun j u hj hu => by
      have e1 : (cur.toList.take (N.length * 3))[i * 3 + j]? = (N.flatMap znC)[i * 3 + j]? := by rw [h11]
      rw [List.getElem?_take_of_lt (by omega), zn_get N i hi j hj, hu] at e1
      simp only [World.cell?, h7]
      simpa using e1
    refine ⟨?_, ?_, ?_⟩
    · have := e 0 _ (by omega) rfl
      simpa using this
    · have := e 1 _ (by omega) rfl
      simpa using this
    · have := e 2 _ (by omega) rfl
      simpa using this
end Go.Proofs.Ytiplibgnfcdlkaa

/-
  Walks: event, Kids, hasEmpty, NewSets of decision.Sets.
-/
namespace Go.Proofs.Ytiplibgnfcdlkaa
open Go.RowKit

set_option maxRecDepth 100000 in
theorem zevent_any (t : ZT) (N : List ZNode) (r : Nat) (w : World) (h : TblAt w t N) (hr : r ≤ 1 + N.length) :
    Calls Try.prog 76 #[t.val, .int .i64 r] w fun e w' => e = .returned (.int .i64 (zev N r)) ∧ w = w' := by
  obtain ⟨n, hn⟩ : ∃ n, n = N.length := ⟨_, rfl⟩
  have hlen := h.len
  obtain ⟨a, c, c0, c1, c2, ⟨hc, hcn⟩, hx⟩ := h.cells
  rw [← hn] at c0 hc hr hlen
  obtain ⟨q, hq⟩ : ∃ q, q = zev N r := ⟨_, rfl⟩
  rw [← hq]
  unfold ZT.val
  by_cases h2 : r < 2
  · have h2' : (r : Int) < 2 := by omega
    have hq' : q = 24 := by rw [hq]; unfold zev; rw [if_pos h2]
    subst hq'
    clear hq hx hn h
    go_enter Try.func76, Try.ntmps76
    go_wp2
    go_ret
    exact ⟨rfl, rfl⟩
  · have h2' : ¬ (r : Int) < 2 := by omega
    obtain ⟨i, rfl⟩ : ∃ i, r = i + 2 := ⟨r - 2, by omega⟩
    have hi : i < N.length := by omega
    obtain ⟨b, o, rfl, x0, _, _⟩ := hx i hi
    rw [zev_node hi] at hq
    rw [← hq] at x0
    have hi' : i < n := by omega
    have e1 : ((i + 2 : Nat) : Int) - 2 = (i : Int) := by omega
    clear hq hx hn h c1 c2
    go_enter Try.func76, Try.ntmps76
    go_wp2
    go_ret
    exact ⟨rfl, rfl⟩
set_option maxRecDepth 100000 in
theorem zkids_any (t : ZT) (N : List ZNode) (r v : Nat) (w : World) (h : TblAt w t N) (hr : r ≤ 1 + N.length) (hv : v < 24) :
    Calls Try.prog 77 #[t.val, .int .i64 r, .int .i64 v] w fun e w' => e = .returned (.tuple #[.int .i64 (zkids N r v).1, .int .i64 (zkids N r v).2]) ∧ Kept w w' := by
  have HEV := Lib.hid (zevent_any t N r w h hr)
  obtain ⟨n, hn⟩ : ∃ n, n = N.length := ⟨_, rfl⟩
  have hlen := h.len
  obtain ⟨a, c, c0, c1, c2, ⟨hc, hcn⟩, hx⟩ := h.cells
  rw [← hn] at c0 hc hr hlen
  obtain ⟨k0, k1, hk⟩ : ∃ k0 k1, (k0, k1) = zkids N r v := ⟨_, _, rfl⟩
  rw [← hk]
  obtain ⟨q, hq⟩ : ∃ q, q = zev N r := ⟨_, rfl⟩
  rw [← hq] at HEV
  unfold ZT.val at HEV ⊢
  unfold zkids at hk
  by_cases h2 : zev N r = v
  · rw [if_pos h2] at hk
    have h3 : ¬ r < 2 := fun h3 => by unfold zev at h2; rw [if_pos h3] at h2; omega
    obtain ⟨i, rfl⟩ : ∃ i, r = i + 2 := ⟨r - 2, by omega⟩
    have hi : i < N.length := by omega
    obtain ⟨b, o, rfl, x0, x1, x2⟩ := hx i hi
    rw [show i + 2 - 2 = i by omega, List.getD_eq_getElem?_getD, List.getElem?_map, List.getElem?_eq_getElem hi, List.getD_eq_getElem?_getD, List.getElem?_map, List.getElem?_eq_getElem hi] at hk
    simp only [Option.map_some, Option.getD_some, Prod.mk.injEq] at hk
    obtain ⟨hk0, hk1⟩ := hk
    rw [← hk0] at x1
    rw [← hk1] at x2
    rw [h2] at hq
    subst hq
    obtain ⟨nv, hnv⟩ : ∃ nv, nv = N[i].v := ⟨_, rfl⟩
    rw [← hnv] at x0
    have hi' : i < n := by omega
    have e1 : ((i + 2 : Nat) : Int) - 2 = (i : Int) := by omega
    clear hx hn h c1 c2 hk0 hk1 h2 hnv
    go_enter Try.func77, Try.ntmps77
    go_wp2_with fail
    refine (HEV.out).mono ?_
    rintro e w2 ⟨rfl, rfl⟩
    go_wp2_with fail
    go_quiet (fail)
    go_wp2
    go_ret2
    exact ⟨rfl, (Kept.refl _).alloc _ |>.drewN _⟩
  · rw [if_neg h2] at hk
    simp only [Prod.mk.injEq] at hk
    obtain ⟨rfl, rfl⟩ := hk
    have h3 : ¬ (q : Int) = (v : Int) := by omega
    clear hx hn h c1 c2 h2 hq c0
    go_enter Try.func77, Try.ntmps77
    go_wp2_with fail
    refine (HEV.out).mono ?_
    rintro e w2 ⟨rfl, rfl⟩
    go_wp2
    go_ret2
    exact ⟨rfl, Kept.refl _⟩
/-- The reference at the end of the Lo. -/
def zend (N : List ZNode) : Nat → Nat → Nat
  | 0, r => r
  | k + 1, r => if r < 2 then r else zend N k ((N.map ZNode.lo).getD (r - 2) 0)
theorem zend_ok {N : List ZNode} (hg : ZGood N) : ∀ k r, r ≤ k → r ≤ 1 + N.length → zend N k r < 2 ∧ (zm N (zend N k r) 0 = zm N r 0) := by
  intro k
  induction k with
  | zero => intro r h _; obtain rfl : r = 0 := Nat.le_zero.1 h; exact ⟨Nat.zero_lt_two, rfl⟩
  | succ k ih =>
    intro r h hr
    unfold zend
    by_cases h2 : r < 2
    · rw [if_pos h2]; exact ⟨h2, rfl⟩
    · rw [if_neg h2]
      obtain ⟨i, rfl⟩ : ∃ i, r = i + 2 := ⟨r - 2, by omega⟩
      have hi : i < N.length := by omega
      have e1 : (N.map ZNode.lo).getD (i + 2 - 2) 0 = N[i].lo := by rw [show i + 2 - 2 = i by omega, List.getD_eq_getElem?_getD, List.getElem?_map, List.getElem?_eq_getElem hi]; rfl
      rw [e1]
      have hl := hg.lo i hi
      obtain ⟨h3, h4⟩ := ih N[i].lo (by omega) (by omega)
      exact ⟨h3, by rw [h4, zm_node hg hi, if_neg (by rw [Nat.zero_testBit]; simp)]⟩
theorem zm_end {N : List ZNode} (hg : ZGood N) {r : Nat} (hr : r ≤ 1 + N.length) {x : Nat} (hx : x = zend N r r) : (decide ((x : Int) = 1)) = zm N r 0 := by
  obtain ⟨h1, h2⟩ := zend_ok hg r r (Nat.le_refl _) hr
  rw [← hx] at h1 h2
  rw [← h2]
  rcases (show x = 0 ∨ x = 1 by omega) with rfl | rfl
  · rw [zm_zero]; rfl
  · rw [zm_one]; rfl
set_option maxRecDepth 100000 in
set_option maxHeartbeats 1000000 in
theorem zempty_any (t : ZT) (N : List ZNode) (r : Nat) (w : World) (h : TblAt w t N) (hr : r ≤ 1 + N.length) :
    Calls Try.prog 90 #[t.val, .int .i64 r] w fun e w' => e = .returned (.bool (zm N r 0)) ∧ Kept w w' := by
  obtain ⟨n, hn⟩ : ∃ n, n = N.length := ⟨_, rfl⟩
  have hlen := h.len
  obtain ⟨a, c, c0, c1, c2, ⟨hc, hcn⟩, hx⟩ := h.cells
  have hg := h.good
  rw [← hn] at c0 hc hr hlen
  obtain ⟨q, hq⟩ : ∃ q, q = zm N r 0 := ⟨_, rfl⟩
  rw [← hq]
  unfold ZT.val
  have HX := Lib.hid hx
  have HN := Lib.hid hn
  have HG := Lib.hid hg
  have HQ : Hid (q = zm N r 0) := Lib.hid hq
  clear hx hn hg hq h c1 c2 hcn
  go_enter Try.func90, Try.ntmps90
  go_wp2
  go_loopg [1] r (fun kx s1 wr => ∃ x : Nat, s1 = .int .i64 x ∧ x ≤ 1 + n ∧ x ≤ kx ∧ Hid (zm N x 0 = q) ∧ w = wr)
  case atStart => exact ⟨r, rfl, hr, Nat.le_refl _, Lib.hid HQ.out.symm, rfl⟩
  case round =>
    obtain ⟨x, rfl, hx1, hx2, HZ, rfl⟩ := hrel
    by_cases h2 : x < 2
    · have h2' : ¬ (2 : Int) ≤ (x : Int) := by omega
      have HE : Hid (decide ((x : Int) = 1) = q) := Lib.hid (by
        rw [← HZ.out]
        rcases (show x = 0 ∨ x = 1 by omega) with rfl | rfl
        · rw [zm_zero]; rfl
        · rw [zm_one]; rfl)
      go_wp2
      go_ret
      exact ⟨by rw [← HE.out]; first | rfl | (congr 2), Kept.refl _⟩
    · have h2' : (2 : Int) ≤ (x : Int) := by omega
      obtain ⟨i, rfl⟩ : ∃ i, x = i + 2 := ⟨x - 2, by omega⟩
      have hi : i < N.length := by have := HN.out; omega
      obtain ⟨b, o, rfl, _, x1, _⟩ := HX.out i hi
      obtain ⟨y, hy⟩ : ∃ y, y = N[i].lo := ⟨_, rfl⟩
      have hyl : y ≤ 1 + i := by rw [hy]; exact (HG.out.lo i hi).1
      have HZ2 : Hid (zm N y 0 = q) := Lib.hid (by rw [← HZ.out, zm_node HG.out hi, if_neg (by rw [Nat.zero_testBit]; simp), hy])
      rw [← hy] at x1
      have hi' : i < n := by omega
      have e1 : ((i + 2 : Nat) : Int) - 2 = (i : Int) := by omega
      clear hy
      go_wp2
      go_roundg y
      case measure => omega
      case rel => exact ⟨y, rfl, by omega, Nat.le_refl _, HZ2, rfl⟩
/-- A table without nodes. -/
theorem TblAt.new {w : World} {t : ZT} (hr : RowAt w t.tb 93 [.slice none 0 0, .map (some t.ub), .map (some t.mb)]) (hu : MapK znV w t.ub []) (hm : MapK skV w t.mb []) (hne : t.ub ≠ t.mb) : TblAt w t [] :=
  ⟨_, [], [], hr, World.ownsRow_nil _ _ _ _, ⟨hu, fun n => by simp [findK]⟩, ⟨hm, fun k u h => by simp [findK] at h⟩,
    ⟨fun i h => by simp at h, fun i h => by simp at h, fun i h => by simp at h, fun i j h => by simp at h⟩, hne, by simp⟩
set_option maxRecDepth 100000 in
theorem znew_any (w : World) : Calls Try.prog 42 #[] w fun e w' => ∃ t : ZT, e = .returned t.val ∧ TblAt w' t [] ∧ Kept w w' ∧ ∀ k, t.own w' k → w.heap.size ≤ k := by
  have hmm := @run_makeMap Try.prog
  go_enter Try.func42, Try.ntmps42
  go_wp2
  go_ret
  refine ⟨⟨w.heap.size + 1 + 1, w.heap.size, w.heap.size + 1⟩, rfl, ?_⟩
  have h1 := MapK.made znV w
  have h2 := MapK.made skV (w.alloc (.map #[] 0))
  have h3 := RowAt.made ((w.alloc (.map #[] 0)).alloc (.map #[] 0)) #[.slice none 0 0, .map (some w.heap.size), .map (some (w.heap.size + 1))] 93
  have k1 : Kept (w.alloc (.map #[] 0)) (((w.alloc (.map #[] 0)).alloc (.map #[] 0)).alloc (.cells #[.slice none 0 0, .map (some w.heap.size), .map (some (w.heap.size + 1))] 93)) := ((Kept.refl _).alloc _).alloc _
  have k2 : Kept ((w.alloc (.map #[] 0)).alloc (.map #[] 0)) (((w.alloc (.map #[] 0)).alloc (.map #[] 0)).alloc (.cells #[.slice none 0 0, .map (some w.heap.size), .map (some (w.heap.size + 1))] 93)) := (Kept.refl _).alloc _
  have hT := TblAt.new (t := ⟨w.heap.size + 1 + 1, w.heap.size, w.heap.size + 1⟩) (by simpa using h3) (h1.same (k1.block _ (by simp))) (by have := h2.same (k2.block _ (by simp)); simpa using this) (by simp)
  refine ⟨hT, (((Kept.refl _).alloc _).alloc _).alloc _, fun k hk => ?_⟩
  rcases hk with rfl | rfl | rfl | ⟨v, e1, e2⟩
  · show _ ≤ w.heap.size + 1 + 1; omega
  · exact Nat.le_refl _
  · show _ ≤ w.heap.size + 1; omega
  · obtain ⟨a, c, c0, _⟩ := hT.cells
    rw [c0] at e1
    obtain ⟨v', U, M, h5, h6, _⟩ := hT
    have := h5.cell (i := 0) (by simp)
    rw [c0] at this
    have hh : RowAt _ _ _ _ := h3
    have c9 := hh.cell (i := 0) (by simp)
    simp at c9
    have c0' := c0
    simp at c0'
    rw [c9] at c0'
    cases c0'
    cases e1
    cases e2
end Go.Proofs.Ytiplibgnfcdlkaa

/-
  Walk: Make of decision.Sets.
-/
namespace Go.Proofs.Ytiplibgnfcdlkaa
open Go.RowKit

theorem info_zn : (Try.prog.info? 63).map (fun i => (i.zero, i.size, i.bytes)) = some (some (.agg #[.int .i64 0, .int .i64 0, .int .i64 0]), 3, 24) := by kernel_rfl
theorem zero_int_run (w : World) : (zeroValue 3).run Try.prog w = .ok (.int .i64 0) w := by kernel_rfl
theorem rows_apart {w : World} {t : ZT} {v : Value} {n : Nat} {xs cs : List Value} (h : w.ownsRow 0 63 3 v n xs) (hx : RowAt w t.tb 93 cs) : some t.tb ≠ v.ownBlock := by
  intro e
  obtain ⟨cur, h1⟩ := own_lt h e.symm
  obtain ⟨cur2, h2, _⟩ := hx
  rw [h1] at h2
  cases h2
theorem own_block {w w' : World} {B : Nat} {e : TypeId} {s n : Nat} {v : Value} {xs : List Value} (h : w.ownsRow B e s v n xs) (hk : ∀ k, v.ownBlock = some k → w'.heap[k]? = w.heap[k]?) : w'.ownsRow B e s v n xs := by
  obtain ⟨h1, h2⟩ := h
  refine ⟨h1, h2.imp id ?_⟩
  rintro ⟨g, cap, cur, rfl, h4, h5, h6⟩
  exact ⟨g, cap, cur, rfl, h4, (hk g rfl).trans h5, h6⟩
/-- The table has one node more: the slice has grown and is stored. -/
theorem node_step {W w5 : World} {t : ZT} {N : List ZNode} {n : ZNode} {m : Nat} {v v5 : Value} {U : List (ZNode × Value)} {M : List ((Nat × Nat × Nat) × Value)}
    (hr : RowAt W t.tb 93 [v, .map (some t.ub), .map (some t.mb)]) (hv : W.ownsRow 0 63 3 v m (N.flatMap znC)) (hu : MapK znV W t.ub U) (hm : MapK skV W t.mb M)
    {W1 : World} (hk : Kept W W1) (hg : W1.grownBy w5 v.ownBlock) (hown : w5.ownsRow 0 63 3 v5 (m + 1) (N.flatMap znC ++ znC n)) (hat : v.ownBlock = v5.ownBlock ∨ ∀ g, v5.ownBlock = some g → W.heap.size ≤ g)
    {w6 : World} (h6 : w6 = w5.setCell ⟨t.tb, 0, none⟩ v5) :
    RowAt w6 t.tb 93 [v5, .map (some t.ub), .map (some t.mb)] ∧ w6.ownsRow 0 63 3 v5 (m + 1) (N.flatMap znC ++ znC n) ∧ MapK znV w6 t.ub U ∧ MapK skV w6 t.mb M ∧ TFrm t W w6 ∧ (∀ b, W.heap.size ≤ b → b < W1.heap.size → ¬ t.own w6 b → w6.heap[b]? = W1.heap[b]?) ∧
      (∀ b, W.heap.size ≤ b → b < W1.heap.size → v5.ownBlock ≠ some b → ¬ t.own w6 b) := by
  subst h6
  have hne1 := rows_apart hv hr
  have hb1 : w5.heap[t.tb]? = W.heap[t.tb]? := (hg.block _ (Nat.lt_of_lt_of_le hr.lt hk.size) hne1).trans (hk.block _ hr.lt)
  have hr5 := hr.same hb1
  have hne2 := rows_apart hown hr5
  have hr6 : RowAt (w5.setCell ⟨t.tb, 0, none⟩ v5) t.tb 93 [v5, .map (some t.ub), .map (some t.mb)] := by
    have := hr5.store 0 v5
    simpa using this
  have hoth : ∀ k, k ≠ t.tb → (w5.setCell ⟨t.tb, 0, none⟩ v5).heap[k]? = w5.heap[k]? := fun k hk => Below.heap_setCell w5 ⟨t.tb, 0, none⟩ v5 k hk
  have htu : t.ub ≠ t.tb := fun e => by obtain ⟨cur, h1, _⟩ := hr; rw [← e] at h1; exact hu.notCells h1
  have htm : t.mb ≠ t.tb := fun e => by obtain ⟨cur, h1, _⟩ := hr; rw [← e] at h1; exact hm.notCells h1
  have hvu : some t.ub ≠ v.ownBlock := fun e => by obtain ⟨cur, h1⟩ := own_lt hv e.symm; exact hu.notCells h1
  have hvm : some t.mb ≠ v.ownBlock := fun e => by obtain ⟨cur, h1⟩ := own_lt hv e.symm; exact hm.notCells h1
  have hbu : (w5.setCell ⟨t.tb, 0, none⟩ v5).heap[t.ub]? = W.heap[t.ub]? := (hoth _ htu).trans ((hg.block _ (Nat.lt_of_lt_of_le hu.lt hk.size) hvu).trans (hk.block _ hu.lt))
  have hbm : (w5.setCell ⟨t.tb, 0, none⟩ v5).heap[t.mb]? = W.heap[t.mb]? := (hoth _ htm).trans ((hg.block _ (Nat.lt_of_lt_of_le hm.lt hk.size) hvm).trans (hk.block _ hm.lt))
  have c6 := hr6.cell (i := 0) (by simp)
  simp only [List.getElem_cons_zero] at c6
  have cW := hr.cell (i := 0) (by simp)
  simp only [List.getElem_cons_zero] at cW
  have hsz : (w5.setCell ⟨t.tb, 0, none⟩ v5).heap.size = w5.heap.size := by simp [World.setCell]
  refine ⟨hr6, own_block hown fun k hk => hoth k fun e => hne2 (by rw [← e]; exact hk.symm), hu.same hbu, hm.same hbm, ⟨?_, ?_, ?_, ?_, fun k hk1 hn => ?_, fun k hk1 => ?_⟩, fun b hb1 hb2 hn => ?_, fun b hb1 hb2 hn ho => ?_⟩
  · exact (show (w5.setCell ⟨t.tb, 0, none⟩ v5).os = w5.os from rfl).trans (hg.os.trans hk.os)
  · exact (show (w5.setCell ⟨t.tb, 0, none⟩ v5).tape = w5.tape from rfl).trans (hg.tape.trans hk.tape)
  · exact (show (w5.setCell ⟨t.tb, 0, none⟩ v5).output = w5.output from rfl).trans (hg.output.trans hk.output)
  · rw [hsz]; exact Nat.le_trans hk.size hg.size
  · have h1 : k ≠ t.tb := fun e => hn (.inl e)
    have h2 : some k ≠ v.ownBlock := fun e => hn (.inr (.inr (.inr ⟨v, cW, e.symm⟩)))
    exact (hoth k h1).trans ((hg.block k (Nat.lt_of_lt_of_le hk1 hk.size) h2).trans (hk.block k hk1))
  · rcases hk1 with h1 | h1 | h1 | ⟨u, h1, h2⟩
    · exact .inl (.inl h1)
    · exact .inl (.inr (.inl h1))
    · exact .inl (.inr (.inr (.inl h1)))
    · rw [c6] at h1
      cases h1
      rcases hat with h3 | h3
      · exact .inl (.inr (.inr (.inr ⟨v, cW, by rw [h3]; exact h2⟩)))
      · exact .inr (h3 k h2)
  · have h1 : b ≠ t.tb := fun e => hn (.inl e)
    have h2 : some b ≠ v.ownBlock := fun e => by
      obtain ⟨cur, h4⟩ := own_lt hv e.symm
      have : b < W.heap.size := by
        rcases Nat.lt_or_ge b W.heap.size with h | h
        · exact h
        · simp [Array.getElem?_eq_none h] at h4
      omega
    exact (hoth b h1).trans (hg.block b hb2 h2)
  · have l1 := hr.lt
    have l2 := hu.lt
    have l3 := hm.lt
    rcases ho with h1 | h1 | h1 | ⟨u, h1, h2⟩
    · omega
    · omega
    · omega
    · rw [c6] at h1
      cases h1
      exact hn h2
theorem find_put_new {N : List ZNode} {n : ZNode} {U : List (ZNode × Value)} (hU : ∀ n, findK n U = if n ∈ N then some (.int .i64 ((2 + N.idxOf n : Nat) : Int)) else none) (hn : n ∉ N) :
    ∀ m, findK m (putK n (.int .i64 ((2 + N.length : Nat) : Int)) U) = if m ∈ N ++ [n] then some (.int .i64 ((2 + (N ++ [n]).idxOf m : Nat) : Int)) else none := by
  intro m
  rw [findK_put, hU]
  by_cases h : m = n
  · subst h
    rw [if_pos rfl, if_pos (by simp), List.idxOf_append, if_neg hn]
    simp
  · rw [if_neg h]
    by_cases h2 : m ∈ N
    · rw [if_pos h2, if_pos (List.mem_append_left _ h2), List.idxOf_append, if_pos h2]
    · rw [if_neg h2, if_neg (by simp [h2, h])]
/-- The whole of the table behind the store into its map. -/
theorem node_done {w7 : World} {t : ZT} {N : List ZNode} {n : ZNode} {v5 : Value} {U : List (ZNode × Value)} {M : List ((Nat × Nat × Nat) × Value)} (hg : ZGood N) (hg2 : ZGood (N ++ [n])) (hU : ∀ n, findK n U = if n ∈ N then some (.int .i64 ((2 + N.idxOf n : Nat) : Int)) else none) (hn : n ∉ N)
    (hr : RowAt w7 t.tb 93 [v5, .map (some t.ub), .map (some t.mb)]) (hv : w7.ownsRow 0 63 3 v5 (N.length + 1) (N.flatMap znC ++ znC n)) (hu : MapK znV w7 t.ub (putK n (.int .i64 ((2 + N.length : Nat) : Int)) U)) (hm : MapK skV w7 t.mb M)
    (hM : ∀ k u, findK k M = some u → ∃ r : Nat, u = .int .i64 r ∧ ZMem N k r) (hne : t.ub ≠ t.mb) (hl : N.length < 4398046511104) : TblAt w7 t (N ++ [n]) :=
  ⟨v5, _, M, hr, by rw [List.length_append, List.flatMap_append]; simpa using hv, ⟨hu, find_put_new hU hn⟩, ⟨hm, fun k u h => let ⟨r, h1, h2⟩ := hM k u h; ⟨r, h1, h2.ext hg hg2⟩⟩, hg2, hne, by rw [List.length_append]; simp; omega⟩
end Go.Proofs.Ytiplibgnfcdlkaa
