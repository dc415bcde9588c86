import Derived.Test.YtiplibgnfcdlkaaRows
import Derived.WalkKit
import Derived.WalkSpells
import Derived.WalkLawsBesides
import Derived.Deep.QuietTactic
import Derived.BigQuiet
import Derived.Lib.Hide
import Derived.Shelf.Abstract
import Derived.Deep.RegionWith
import Derived.Laws.AppendOwnNone
import Derived.Lib.AppendZerosOnto
import Derived.Lib.SliceRun
/-
  What the walks say of memory: slices of ints and of slices, and how such readings stay. Plain lemmas on worlds.
-/
namespace Go.Proofs.Ytiplibgnfcdlkaa
open Go.RowKit

/-- No memory that lay there has changed. -/
abbrev Kept (w w' : World) : Prop := Below w.heap.size w w'

theorem Kept.refl (w : World) : Kept w w := Below.refl _ _
theorem Kept.trans {a b c : World} (h : Kept a b) (k : Kept b c) : Kept a c := Below.trans h (Below.mono k h.size)
theorem Kept.drew {a w : World} (h : Kept a w) : Kept a w.drew := Below.drew h
theorem Kept.alloc {a w : World} (h : Kept a w) (o : Obj) : Kept a (w.alloc o) := Below.alloc h h.size o
theorem Kept.cell {w w' : World} (h : Kept w w') {p : Addr} {v : Value} (hc : w.cell? p = some v) : w'.cell? p = some v :=
  (Below.cell h (World.block_lt_of_cell? w _ hc)).trans hc
theorem Kept.drewN {a w : World} (h : Kept a w) (n : Nat) : Kept a (w.drewN n) := ⟨h.os, h.tape, h.output, h.size, h.block⟩

theorem Kept.app {a b c : World} (h : Kept a b) (k : Below a.heap.size b c) : Kept a c := Below.trans h k

/-- A slice of ints that can be read. -/
def IntsAt (w : World) (v : Value) (xs : List Int) : Prop :=
  ∃ (a : Option Addr) (c : Nat), v = .slice a xs.length c ∧ (xs.length ≤ c ∧ (a = none → c = 0)) ∧ xs.length ≤ 140737488355328 ∧
    ∀ i (h : i < xs.length), ∃ b o, a = some ⟨b, o, none⟩ ∧ w.cell? ⟨b, o + i, none⟩ = some (.int .i64 xs[i])

theorem IntsAt.kept {w w' : World} {v : Value} {xs : List Int} (h : IntsAt w v xs) (hb : Kept w w') : IntsAt w' v xs := by
  obtain ⟨a, c, h1, h0, h2, h3⟩ := h
  refine ⟨a, c, h1, h0, h2, fun i hi => ?_⟩
  obtain ⟨b, o, h4, h5⟩ := h3 i hi
  exact ⟨b, o, h4, hb.cell h5⟩

theorem IntsAt.shape {w : World} {v : Value} {xs : List Int} (h : IntsAt w v xs) : ∃ a n c, v = .slice a n c := by
  obtain ⟨a, c, h1, _⟩ := h
  exact ⟨a, _, c, h1⟩

theorem IntsAt.nil (w : World) : IntsAt w (.slice none 0 0) [] := ⟨none, 0, rfl, ⟨by simp, fun _ => rfl⟩, by simp, fun i h => by simp at h⟩

/-- A slice whose cells hold values of which R speaks, each of one cell. -/
def RowsAt {α : Type} (R : World → Value → α → Prop) (w : World) (v : Value) (xs : List α) : Prop :=
  ∃ (a : Option Addr) (c : Nat), v = .slice a xs.length c ∧ (xs.length ≤ c ∧ (a = none → c = 0)) ∧ xs.length ≤ 140737488355328 ∧
    ∀ i (h : i < xs.length), ∃ b o u, a = some ⟨b, o, none⟩ ∧ w.cell? ⟨b, o + i, none⟩ = some u ∧ R w u xs[i]

theorem RowsAt.kept {α : Type} {R : World → Value → α → Prop} (hR : ∀ w w' u x, R w u x → Kept w w' → R w' u x)
    {w w' : World} {v : Value} {xs : List α} (h : RowsAt R w v xs) (hb : Kept w w') : RowsAt R w' v xs := by
  obtain ⟨a, c, h1, h0, h2, h3⟩ := h
  refine ⟨a, c, h1, h0, h2, fun i hi => ?_⟩
  obtain ⟨b, o, u, h4, h5, h6⟩ := h3 i hi
  exact ⟨b, o, u, h4, hb.cell h5, hR _ _ _ _ h6 hb⟩

/-- An error by its number; 0: none. -/
def errV (c : Nat) : Value := if c = 0 then .nilIface else .iface 56 (.int .i64 c)
theorem errV_zero : errV 0 = .nilIface := rfl
theorem errV_pos {c : Nat} (h : c ≠ 0) : errV c = .iface 56 (.int .i64 c) := by simp [errV, h]

/-- An int slice of the call's own. -/
def OwnInts (w : World) (B : Nat) (v : Value) (xs : List Int) : Prop :=
  w.ownsRow B 3 1 v xs.length (xs.map (Value.int .i64)) ∧ xs.length ≤ 140737488355328

theorem OwnInts.ints {w : World} {B : Nat} {v : Value} {xs : List Int} (h : OwnInts w B v xs) : IntsAt w v xs := by
  obtain ⟨⟨h1, h2⟩, h3⟩ := h
  rcases h2 with ⟨rfl, h4⟩ | ⟨g, cap, cur, rfl, h5, h6, h7, h8, h9, h10⟩
  · have : xs = [] := List.eq_nil_of_length_eq_zero h4
    subst this
    exact IntsAt.nil w
  · refine ⟨_, cap, rfl, ⟨h7, fun h => by cases h⟩, h3, fun i hi => ⟨g, 0, rfl, ?_⟩⟩
    have e1 : (cur.toList.take (xs.length * 1))[i]? = (xs.map (Value.int .i64))[i]? := by rw [h10]
    rw [List.getElem?_take_of_lt (by omega)] at e1
    simp only [World.cell?, h6, Nat.zero_add]
    simpa [hi] using e1

theorem own_kept {w w' : World} {B : Nat} {e : TypeId} {size : Nat} {v : Value} {n : Nat} {xs : List Value} (h : w.ownsRow B e size v n xs) (hb : Kept w w') : w'.ownsRow B e size v n xs := by
  obtain ⟨h1, h2⟩ := h
  refine ⟨h1, h2.imp id ?_⟩
  rintro ⟨g, cap, cur, h3, h4, h5, h6⟩
  have hg : g < w.heap.size := by
    rcases Nat.lt_or_ge g w.heap.size with h | h
    · exact h
    · simp [Array.getElem?_eq_none h] at h5
  exact ⟨g, cap, cur, h3, h4, (hb.block g hg).trans h5, h6⟩
theorem OwnInts.kept {w w' : World} {B : Nat} {v : Value} {xs : List Int} (h : OwnInts w B v xs) (hb : Kept w w') : OwnInts w' B v xs := ⟨own_kept h.1 hb, h.2⟩
theorem OwnInts.nil (w : World) (B : Nat) : OwnInts w B (.slice none 0 0) [] := ⟨World.ownsRow_nil _ _ _ _, by simp⟩
theorem own_mono {w : World} {B B' : Nat} {e : TypeId} {size : Nat} {v : Value} {n : Nat} {xs : List Value} (h : w.ownsRow B e size v n xs) (hb : B' ≤ B) : w.ownsRow B' e size v n xs := by
  obtain ⟨h1, h2⟩ := h
  refine ⟨h1, h2.imp id ?_⟩
  rintro ⟨g, cap, cur, h3, h4, h5⟩
  exact ⟨g, cap, cur, h3, by omega, h5⟩
theorem OwnInts.mono {w : World} {B B' : Nat} {v : Value} {xs : List Int} (h : OwnInts w B v xs) (hb : B' ≤ B) : OwnInts w B' v xs := ⟨own_mono h.1 hb, h.2⟩

/-- What an append to a row of the call's own leaves unchanged. -/
theorem grown_below {B : Nat} {w w' : World} {v : Value} {e : TypeId} {size n : Nat} {xs : List Value} (hg : w.grownBy w' v.ownBlock) (ho : w.ownsRow B e size v n xs) (hB : B ≤ w.heap.size) : Below B w w' :=
  Below.grown (Below.refl _ _) hg hB fun k hk => (ho.lt k hk).1

end Go.Proofs.Ytiplibgnfcdlkaa

/-
  The laws of append, make and indexing for the slices of the call's own, in the words of B0.
-/
namespace Go.Proofs.Ytiplibgnfcdlkaa
open Go.RowKit

theorem info_int : (Try.prog.info? 3).map (fun i => (i.zero, i.size, i.bytes)) = some (some (.int .i64 0), 1, 8) := by kernel_rfl
theorem info_ints : (Try.prog.info? 25).map (fun i => (i.zero, i.size, i.bytes)) = some (some (.slice none 0 0), 1, 24) := by kernel_rfl

variable {ops : Array Oper} {rest : List Oper} {o : Oper} {a : Act} {Q : Exit → Act → World → Prop} {w : World}

/-- append of one cell to a row of the call's own. -/
theorem app_one (t e : TypeId) (z : Value) (bytes : Nat) (hi : (Try.prog.info? e).map (fun i => (i.zero, i.size, i.bytes)) = some (some z, 1, bytes)) (ht : Try.prog.underlying t = some (.slice e)) (hz : z.cells.size = 1) (hgd : o.guard = none) (s x : Operand)
    (ho : o.op = .call { callee := .builtin .append, args := #[s, x], argTypes := #[t, t] }) (B : Nat) (v : Value) (xs : List Value) (hs : a.eval s = v) (hown : w.ownsRow B e 1 v xs.length xs)
    (ad : Addr) (y : Value) (hx : a.eval x = .slice (some ad) 1 1) (hc : w.cell? ad = some y) (h1 : y.oneCell' = true) (hl : (xs.length + 1) * bytes ≤ 140737488355328) (hl2 : xs.length + 1 ≤ maxLen) (hB : B ≤ w.heap.size)
    (h : ∀ v' w', w'.ownsRow B e 1 v' (xs ++ [y]).length (xs ++ [y]) → w.grownBy w' v.ownBlock → Below B w w' → wpList Try.prog ops Q rest (a.put o.dst v') w') : wpList Try.prog ops Q (o :: rest) a w := by
  obtain ⟨i0, hi0, hz0, hz1, hz2⟩ := info_parts hi
  refine wpList_append_own _ hgd s x t ho B e i0 z 1 bytes ht hi0 hz0 hz1 hz2 hz (by decide) v xs.length xs hs hown ad 1 1 [y] hx rfl ?_ ?_ hl2 hl hB ?_
  · intro j u hj
    match j, hj with
    | 0, hj => simp at hj; subst hj; simpa [Addr.add] using hc
  · intro u hu; simp at hu; subst hu; exact h1
  · intro v' w' h2 h3 _
    refine h v' w' ?_ h3 (grown_below h3 hown hB)
    simpa using h2

theorem app_int (hgd : o.guard = none) (s x : Operand)
    (ho : o.op = .call { callee := .builtin .append, args := #[s, x], argTypes := #[25, 25] }) (B : Nat) (v : Value) (xs : List Int) (hs : a.eval s = v) (hown : OwnInts w B v xs)
    (ad : Addr) (y : Int) (hx : a.eval x = .slice (some ad) 1 1) (hc : w.cell? ad = some (.int .i64 y)) (hl : xs.length < 17592186044416) (hB : B ≤ w.heap.size)
    (h : ∀ v' w', OwnInts w' B v' (xs ++ [y]) → w.grownBy w' v.ownBlock → Below B w w' → wpList Try.prog ops Q rest (a.put o.dst v') w') : wpList Try.prog ops Q (o :: rest) a w := by
  refine app_one 25 3 _ 8 info_int Try.underlying25 rfl hgd s x ho B v (xs.map (.int .i64)) hs (by simpa using hown.1) ad _ hx hc rfl (by simp; omega) (by simp [maxLen]; omega) hB ?_
  intro v' w' h2 h3 h4
  refine h v' w' ⟨?_, by simp; omega⟩ h3 h4
  simpa using h2

/-- append of a whole slice of ints. -/
theorem app_ints (hgd : o.guard = none) (s x : Operand)
    (ho : o.op = .call { callee := .builtin .append, args := #[s, x], argTypes := #[25, 25] }) (B : Nat) (v : Value) (xs : List Int) (hs : a.eval s = v) (hown : OwnInts w B v xs)
    (u : Value) (ys : List Int) (hx : a.eval x = u) (hu : IntsAt w u ys) (hl : xs.length + ys.length ≤ 17592186044416) (hB : B ≤ w.heap.size)
    (h : ∀ v' w', OwnInts w' B v' (xs ++ ys) → (∀ k, k < w.heap.size → some k ≠ v.ownBlock → w'.heap[k]? = w.heap[k]?) → Below B w w' → wpList Try.prog ops Q rest (a.put o.dst v') w') : wpList Try.prog ops Q (o :: rest) a w := by
  obtain ⟨i0, hi0, hz0, hz1, hz2⟩ := info_parts info_int
  obtain ⟨ad, c, rfl, ⟨hc, hcn⟩, hl2, hcell⟩ := hu
  cases ad with
  | none =>
    have hy : ys = [] := by
      cases ys with
      | nil => rfl
      | cons y ys => obtain ⟨b, o, h, _⟩ := hcell 0 (by simp); cases h
    subst hy
    rw [hcn rfl] at hx
    refine wpList_append_own_none hgd s x 25 ho B 3 i0 1 Try.underlying25 hi0 v xs.length _ hs hown.1 hx ?_
    exact h v w (by simpa using hown) (fun _ _ _ => rfl) (Below.refl _ _)
  | some ad =>
    refine wpList_append_own _ hgd s x 25 ho B 3 i0 _ 1 8 Try.underlying25 hi0 hz0 hz1 hz2 rfl (by decide) v xs.length _ hs hown.1 ad ys.length c (ys.map (.int .i64)) hx (by simp) ?_ ?_ (by simp [maxLen]; omega) (by omega) hB ?_
    · intro j u hj
      have hj' : j < ys.length := by
        rcases Nat.lt_or_ge j ys.length with h | h
        · exact h
        · rw [List.getElem?_eq_none (by simpa using h)] at hj; cases hj
      obtain ⟨b, o, h1, h2⟩ := hcell j hj'
      cases h1
      simp [hj'] at hj
      subst hj
      rcases Nat.eq_zero_or_pos j with h0 | h0
      · subst h0; simpa [Addr.add] using h2
      · simpa [Addr.add, Nat.ne_of_gt h0] using h2
    · intro u hu; obtain ⟨y, _, rfl⟩ := List.mem_map.1 hu; rfl
    · intro v' w' h2 h3 _
      refine h v' w' ⟨by simpa using h2, by simp; omega⟩ (fun k hk hne => h3.block k hk hne) (grown_below h3 hown.1 hB)
end Go.Proofs.Ytiplibgnfcdlkaa

/-
  Rows of the call's own that are stored into: laws.
-/
namespace Go.Proofs.Ytiplibgnfcdlkaa
open Go.RowKit

/-- Block g is a row whose first cells are xs; none is frozen. -/
def RowAt (w : World) (g : Nat) (e : TypeId) (xs : List Value) : Prop :=
  ∃ cur, w.heap[g]? = some (.cells cur e (0, 0)) ∧ xs.length ≤ cur.size ∧ cur.toList.take xs.length = xs
theorem RowAt.made (w : World) (cs : Array Value) (e : TypeId) : RowAt (w.alloc (.cells cs e)) w.heap.size e cs.toList :=
  ⟨cs, heap_alloc_new w _, by simp, List.take_of_length_le (by simp)⟩
theorem RowAt.lt {w : World} {g : Nat} {e : TypeId} {xs : List Value} (h : RowAt w g e xs) : g < w.heap.size := by
  obtain ⟨cur, h1, _⟩ := h
  rcases Nat.lt_or_ge g w.heap.size with h2 | h2
  · exact h2
  · simp [Array.getElem?_eq_none h2] at h1
theorem RowAt.kept {w w' : World} {g : Nat} {e : TypeId} {xs : List Value} (h : RowAt w g e xs) (hk : Kept w w') : RowAt w' g e xs := by
  have hl := h.lt
  obtain ⟨cur, h1, h2⟩ := h
  exact ⟨cur, (hk.block g hl).trans h1, h2⟩
theorem RowAt.same {w w' : World} {g : Nat} {e : TypeId} {xs : List Value} (h : RowAt w g e xs) (hk : w'.heap[g]? = w.heap[g]?) : RowAt w' g e xs := by
  obtain ⟨cur, h1, h2⟩ := h
  exact ⟨cur, hk.trans h1, h2⟩
theorem RowAt.cell {w : World} {g : Nat} {e : TypeId} {xs : List Value} (h : RowAt w g e xs) {i : Nat} (hi : i < xs.length) : w.cell? ⟨g, i, none⟩ = some xs[i] := by
  obtain ⟨cur, h1, h2, h3⟩ := h
  have e1 : (cur.toList.take xs.length)[i]? = xs[i]? := by rw [h3]
  rw [List.getElem?_take_of_lt hi] at e1
  simp only [World.cell?, h1]
  simpa [hi] using e1
theorem RowAt.free {w : World} {g : Nat} {e : TypeId} {xs : List Value} (h : RowAt w g e xs) (i : Nat) : w.frozen? ⟨g, i, none⟩ = false := by
  obtain ⟨cur, h1, _⟩ := h
  simp [World.frozen?, h1]
theorem RowAt.store {w : World} {g : Nat} {e : TypeId} {xs : List Value} (h : RowAt w g e xs) (i : Nat) (u : Value) : RowAt (w.setCell ⟨g, i, none⟩ u) g e (xs.set i u) := by
  obtain ⟨cur, h1, h2, h3⟩ := h
  refine ⟨cur.setIfInBounds i u, by simp [World.setCell, Array.getElem?_modify, h1], by simpa using h2, ?_⟩
  rw [List.length_set, Array.toList_setIfInBounds, List.take_set, h3]
theorem Kept.store {w0 w : World} (h : Kept w0 w) {g : Nat} (hg : w0.heap.size ≤ g) (i : Nat) (u : Value) : Kept w0 (w.setCell ⟨g, i, none⟩ u) := Below.setCell h hg u
theorem RowAt.other {w : World} {g : Nat} {e : TypeId} {xs : List Value} (h : RowAt w g e xs) {p : Nat} (hp : g ≠ p) (i : Nat) (u : Value) : RowAt (w.setCell ⟨p, i, none⟩ u) g e xs :=
  h.same (Below.heap_setCell w ⟨p, i, none⟩ u g hp)
theorem cell_other {w : World} {a : Addr} {v : Value} (h : w.cell? a = some v) {p : Nat} (hp : a.block ≠ p) (i : Nat) (u : Value) : (w.setCell ⟨p, i, none⟩ u).cell? a = some v :=
  (World.cell?_of_block (w := w) (Below.heap_setCell w ⟨p, i, none⟩ u a.block hp)).trans h
theorem RowAt.ints {w : World} {g : Nat} {xs : List Int} {c : Nat} (h : RowAt w g 3 (xs.map (.int .i64))) (hc : xs.length ≤ c) (hl : xs.length ≤ 140737488355328) : IntsAt w (.slice (some ⟨g, 0, none⟩) xs.length c) xs :=
  ⟨_, c, rfl, ⟨hc, fun h => by cases h⟩, hl, fun i hi => ⟨g, 0, rfl, by have := h.cell (i := i) (by simpa using hi); simpa using this⟩⟩

theorem made_one (z : Value) (hz : z.cells = #[z]) (n : Nat) : (madeCells z.cells (n * 1)).toList = List.replicate n z := by
  rw [hz]
  unfold madeCells
  apply List.ext_getElem
  · simp
  · intro i h1 h2
    simp [Nat.mod_one]
theorem info_bool : (Try.prog.info? 4).map (fun i => (i.zero, i.size, i.bytes)) = some (some (.bool false), 1, 1) := by kernel_rfl
variable {ops : Array Oper} {rest : List Oper} {o : Oper} {a : Act} {Q : Exit → Act → World → Prop} {w : World}
theorem make_one (t e : TypeId) (z : Value) (bytes : Nat) (hi : (Try.prog.info? e).map (fun i => (i.zero, i.size, i.bytes)) = some (some z, 1, bytes)) (ht : Try.prog.underlying t = some (.slice e)) (hz : z.cells = #[z]) (hg : o.guard = none) (l c : Operand)
    (hop : o.op = Op.makeSlice t l c) (n : Nat) (hl : a.eval l = .int .i64 n) (hc : a.eval c = .int .i64 n) (hb : bytes * n ≤ 281474976710656) (hm : n ≤ maxLen)
    (hK : ∀ w', RowAt w' w.heap.size e (List.replicate n z) → Kept w w' → wpList Try.prog ops Q rest (a.put o.dst (.slice (some ⟨w.heap.size, 0, none⟩) n n)) w') : wpList Try.prog ops Q (o :: rest) a w := by
  obtain ⟨i0, hi0, hz0, hz1, hz2⟩ := info_parts hi
  refine wpList_make_full w hg l c t hop w.heap.size e i0 z 1 ht hi0 hz0 hz1 .i64 .i64 _ _ n hl hc rfl rfl (by rw [hz2]; exact hb) hm (Nat.le_refl _) ?_
  intro w' h1 h2
  rw [made_one z hz n] at h1
  refine hK w' ?_ ⟨h2.os, h2.tape, h2.output, h2.size, fun k hk => h2.block k hk (by simp)⟩
  obtain ⟨h3, h4⟩ := h1
  rcases h4 with ⟨h4, _⟩ | ⟨g, cap, cur, h4, h5, h6, h7, h8, h9, h10⟩
  · cases h4
  · cases h4
    exact ⟨cur, h6, by simp; omega, by simpa using h10⟩
end Go.Proofs.Ytiplibgnfcdlkaa

/-
  Plain numbers: what the bit operations are on masks; the number of bits by the swar sum.
-/
namespace Go.Proofs.Ytiplibgnfcdlkaa
open Go.RowKit

theorem wrap_u64 (n : Nat) (h : n < 18446744073709551616) : IntKind.u64.wrap (n : Int) = n := by
  have h1 : IntKind.u64.wrap (n : Int) = (n : Int) % 18446744073709551616 := rfl
  rw [h1]; omega
theorem wrap_i64 (x : Int) (h0 : 0 ≤ x) (h : x < 9223372036854775808) : IntKind.i64.wrap x = x := by
  rw [IntKind.wrap_i64]; omega
theorem ofNat_toNat (n : Nat) (h : n < 18446744073709551616) : (BitVec.ofInt 64 (n : Int)).toNat = n := by
  simp; omega
theorem and_u64 (a b : Nat) (ha : a < 18446744073709551616) (hb : b < 18446744073709551616) : bits .and .u64 (a : Int) (b : Int) = ((a &&& b : Nat) : Int) := by
  have h : (BitVec.ofInt 64 (a : Int) &&& BitVec.ofInt 64 (b : Int)).toNat = a &&& b := by rw [BitVec.toNat_and, ofNat_toNat a ha, ofNat_toNat b hb]
  show IntKind.u64.wrap (((BitVec.ofInt 64 (a : Int) &&& BitVec.ofInt 64 (b : Int)).toNat : Nat) : Int) = _
  rw [h]; exact wrap_u64 _ (Nat.lt_of_le_of_lt Nat.and_le_left ha)
theorem and_i64 (a b : Nat) (ha : a < 9223372036854775808) (hb : b < 9223372036854775808) : bits .and .i64 (a : Int) (b : Int) = ((a &&& b : Nat) : Int) := by
  have h : (BitVec.ofInt 64 (a : Int) &&& BitVec.ofInt 64 (b : Int)).toNat = a &&& b := by rw [BitVec.toNat_and, ofNat_toNat a (by omega), ofNat_toNat b (by omega)]
  show IntKind.i64.wrap (((BitVec.ofInt 64 (a : Int) &&& BitVec.ofInt 64 (b : Int)).toNat : Nat) : Int) = _
  rw [h]; have := Nat.and_le_left (n := a) (m := b); exact wrap_i64 _ (by omega) (by omega)
theorem or_i64 (a b : Nat) (ha : a < 9223372036854775808) (hb : b < 9223372036854775808) : bits .or .i64 (a : Int) (b : Int) = ((a ||| b : Nat) : Int) := by
  have h : (BitVec.ofInt 64 (a : Int) ||| BitVec.ofInt 64 (b : Int)).toNat = a ||| b := by rw [BitVec.toNat_or, ofNat_toNat a (by omega), ofNat_toNat b (by omega)]
  show IntKind.i64.wrap (((BitVec.ofInt 64 (a : Int) ||| BitVec.ofInt 64 (b : Int)).toNat : Nat) : Int) = _
  rw [h]; have := Nat.or_lt_two_pow (n := 63) (x := a) (y := b) (by omega) (by omega); exact wrap_i64 _ (by omega) (by omega)
/-- a without b. -/
def sdiff (a b : Nat) : Nat := a ^^^ (a &&& b)
theorem andNot_i64 (a b : Nat) (ha : a < 9223372036854775808) (hb : b < 9223372036854775808) : bits .andNot .i64 (a : Int) (b : Int) = ((sdiff a b : Nat) : Int) := by
  have h : (BitVec.ofInt 64 (a : Int) &&& ~~~ BitVec.ofInt 64 (b : Int)).toNat = sdiff a b := by
    have e : BitVec.ofInt 64 (a : Int) &&& ~~~ BitVec.ofInt 64 (b : Int) = BitVec.ofInt 64 (a : Int) ^^^ (BitVec.ofInt 64 (a : Int) &&& BitVec.ofInt 64 (b : Int)) := by
      ext i hi
      simp only [BitVec.getElem_and, BitVec.getElem_not, BitVec.getElem_xor]
      cases (BitVec.ofInt 64 (a : Int))[i] <;> cases (BitVec.ofInt 64 (b : Int))[i] <;> rfl
    rw [e, BitVec.toNat_xor, BitVec.toNat_and, ofNat_toNat a (by omega), ofNat_toNat b (by omega)]; rfl
  show IntKind.i64.wrap (((BitVec.ofInt 64 (a : Int) &&& ~~~ BitVec.ofInt 64 (b : Int)).toNat : Nat) : Int) = _
  rw [h]
  have h2 : sdiff a b < 2 ^ 63 := Nat.xor_lt_two_pow (by omega) (Nat.lt_of_le_of_lt Nat.and_le_left (by omega))
  exact wrap_i64 _ (by omega) (by omega)

/-- The number of bits. -/
def pc (n : Nat) : Nat := if n = 0 then 0 else n % 2 + pc (n / 2)
decreasing_by omega
theorem and_256 (h l H L : Nat) (hl : l < 256) (hL : L < 256) : (256 * h + l) &&& (256 * H + L) = 256 * (h &&& H) + (l &&& L) := by
  have h1 : ((256 * h + l) &&& (256 * H + L)) % 2 ^ 8 = l &&& L := by
    rw [Nat.and_mod_two_pow]; congr 1 <;> omega
  have h2 : ((256 * h + l) &&& (256 * H + L)) / 2 ^ 8 = h &&& H := by
    rw [Nat.and_div_two_pow]; congr 1 <;> omega
  have := Nat.div_add_mod ((256 * h + l) &&& (256 * H + L)) (2 ^ 8)
  rw [h1, h2] at this
  omega
theorem and_bytes (a b c m : Nat) (ha : a < 256) (hb : b < 256) (M : Nat) (hm : m < 256) (hM : M = 256 * (256 * (256 * (M / 16777216) + m) + m) + m) (hc : c < 256) :
    (a + 256 * b + 65536 * c) &&& M = (a &&& m) + 256 * (b &&& m) + 65536 * (c &&& m) := by
  rw [hM, show a + 256 * b + 65536 * c = 256 * (256 * c + b) + a from by omega, and_256 _ _ _ _ ha hm, and_256 _ _ _ _ hb hm,
    show c = 256 * 0 + c from by omega, and_256 _ _ _ _ hc hm]
  simp; omega
def t1 (a : Nat) : Nat := (a / 2 &&& 0x55) + (a &&& 0x55)
def t2 (a : Nat) : Nat := (a / 4 &&& 0x33) + (a &&& 0x33)
def t3 (a : Nat) : Nat := (a / 16 + a) &&& 15
set_option maxRecDepth 100000 in
theorem byte1 : ∀ a < 256, (a / 2 &&& 0x55) = ((a / 2 + 128) &&& 0x55) ∧ t1 a < 171 := by decide
set_option maxRecDepth 100000 in
theorem byte2 : ∀ a < 171, ∀ r < 4, (a / 4 &&& 0x33) = ((a / 4 + 64 * r) &&& 0x33) ∧ t2 a < 103 ∧ t2 a % 16 < 7 := by decide

set_option maxRecDepth 100000 in
theorem byte3 : ∀ a < 103, ∀ r < 7, (a / 16 + 16 * r + a) &&& 15 = (t3 a) ∧ t3 a < 16 := by decide
set_option maxRecDepth 100000 in
theorem byte_pc : ∀ a < 256, t3 (t2 (t1 a)) < 9 := by decide
def s1 (x : Int) : Int := IntKind.u64.wrap (bits .and .u64 (x / 2) 6148914691236517205 + bits .and .u64 x 6148914691236517205)
def s2 (x : Int) : Int := IntKind.u64.wrap (bits .and .u64 (x / 4) 3689348814741910323 + bits .and .u64 x 3689348814741910323)
def s3 (x : Int) : Int := bits .and .u64 (IntKind.u64.wrap (x / 16 + x)) 1085102592571150095
def s4 (x : Int) : Int := IntKind.u64.wrap (x + x / 256)
def s5 (x : Int) : Int := IntKind.u64.wrap (x + x / 65536)
def s6 (x : Int) : Int := IntKind.u64.wrap (x + x / 4294967296)
theorem s1_bytes (a b c : Nat) (ha : a < 256) (hb : b < 256) (hc : c < 256) : s1 ((a + 256 * b + 65536 * c : Nat) : Int) = ((t1 a + 256 * t1 b + 65536 * t1 c : Nat) : Int) := by
  have e1 : ((a + 256 * b + 65536 * c : Nat) : Int) / 2 = (((a / 2 + 128 * (b % 2)) + 256 * (b / 2 + 128 * (c % 2)) + 65536 * (c / 2) : Nat) : Int) := by omega
  have hb2 : b % 2 = 0 ∨ b % 2 = 1 := by omega
  have hc2 : c % 2 = 0 ∨ c % 2 = 1 := by omega
  have ka := byte1 a ha
  have kb := byte1 b hb
  have kc := byte1 c hc
  unfold s1
  rw [e1, show (6148914691236517205 : Int) = ((6148914691236517205 : Nat) : Int) from rfl, and_u64 _ _ (by omega) (by decide), and_u64 _ _ (by omega) (by decide),
    and_bytes _ _ _ 0x55 (by omega) (by omega) _ (by decide) (by decide) (by omega), and_bytes _ _ _ 0x55 ha hb _ (by decide) (by decide) hc]
  have ea : (a / 2 + 128 * (b % 2)) &&& 0x55 = a / 2 &&& 0x55 := by
    rcases hb2 with h | h <;> rw [h]
    · rfl
    · exact ka.1.symm
  have eb : (b / 2 + 128 * (c % 2)) &&& 0x55 = b / 2 &&& 0x55 := by
    rcases hc2 with h | h <;> rw [h]
    · rfl
    · exact kb.1.symm
  rw [ea, eb]
  have ja := ka.2; have jb := kb.2; have jc := kc.2
  unfold t1 at *
  rw [show (((a / 2 &&& 85) + 256 * (b / 2 &&& 85) + 65536 * (c / 2 &&& 85) : Nat) : Int) + (((a &&& 85) + 256 * (b &&& 85) + 65536 * (c &&& 85) : Nat) : Int) = ((((a / 2 &&& 85) + (a &&& 85)) + 256 * ((b / 2 &&& 85) + (b &&& 85)) + 65536 * ((c / 2 &&& 85) + (c &&& 85)) : Nat) : Int) from by omega]
  exact wrap_u64 _ (by omega)
theorem s2_bytes (a b c : Nat) (ha : a < 171) (hb : b < 171) (hc : c < 171) : s2 ((a + 256 * b + 65536 * c : Nat) : Int) = ((t2 a + 256 * t2 b + 65536 * t2 c : Nat) : Int) := by
  have e1 : ((a + 256 * b + 65536 * c : Nat) : Int) / 4 = (((a / 4 + 64 * (b % 4)) + 256 * (b / 4 + 64 * (c % 4)) + 65536 * (c / 4) : Nat) : Int) := by omega
  have ka := byte2 a ha (b % 4) (by omega)
  have kb := byte2 b hb (c % 4) (by omega)
  have kc := byte2 c hc 0 (by omega)
  unfold s2
  rw [e1, show (3689348814741910323 : Int) = ((3689348814741910323 : Nat) : Int) from rfl, and_u64 _ _ (by omega) (by decide), and_u64 _ _ (by omega) (by decide),
    and_bytes _ _ _ 0x33 (by omega) (by omega) _ (by decide) (by decide) (by omega), and_bytes _ _ _ 0x33 (by omega) (by omega) _ (by decide) (by decide) (by omega), ← ka.1, ← kb.1]
  have ja := ka.2.1; have jb := kb.2.1; have jc := kc.2.1
  clear ka kb kc e1
  unfold t2 at *
  rw [show (((a / 4 &&& 51) + 256 * (b / 4 &&& 51) + 65536 * (c / 4 &&& 51) : Nat) : Int) + (((a &&& 51) + 256 * (b &&& 51) + 65536 * (c &&& 51) : Nat) : Int) = ((((a / 4 &&& 51) + (a &&& 51)) + 256 * ((b / 4 &&& 51) + (b &&& 51)) + 65536 * ((c / 4 &&& 51) + (c &&& 51)) : Nat) : Int) from by omega]
  exact wrap_u64 _ (by omega)
theorem s3_bytes (a b c : Nat) (ha : a < 103) (hb : b < 103) (hc : c < 103) (hb6 : b % 16 < 7) (hc6 : c % 16 < 7) : s3 ((a + 256 * b + 65536 * c : Nat) : Int) = ((t3 a + 256 * t3 b + 65536 * t3 c : Nat) : Int) := by
  have e1 : ((a + 256 * b + 65536 * c : Nat) : Int) / 16 + ((a + 256 * b + 65536 * c : Nat) : Int) = (((a / 16 + 16 * (b % 16) + a) + 256 * (b / 16 + 16 * (c % 16) + b) + 65536 * (c / 16 + c) : Nat) : Int) := by omega
  have ka := byte3 a ha (b % 16) hb6
  have kb := byte3 b hb (c % 16) hc6
  have kc := byte3 c hc 0 (by omega)
  unfold s3
  rw [e1, wrap_u64 _ (by omega), show (1085102592571150095 : Int) = ((1085102592571150095 : Nat) : Int) from rfl, and_u64 _ _ (by omega) (by decide),
    and_bytes _ _ _ 0x0f (by omega) (by omega) _ (by decide) (by decide) (by omega), ka.1, kb.1, show c / 16 + c = c / 16 + 16 * 0 + c from by omega, kc.1]
def pcS (x : Int) : Int := bits .and .i64 (wrap64 (s6 (s5 (s4 (s3 (s2 (s1 x))))))) 127
def pc3 (n : Nat) : Nat := t3 (t2 (t1 (n % 256))) + t3 (t2 (t1 (n / 256 % 256))) + t3 (t2 (t1 (n / 65536)))
theorem pcS_eq (n : Nat) (h : n < 16777216) : pcS (n : Int) = (pc3 n : Nat) := by
  unfold pcS pc3
  obtain ⟨a, ha⟩ : ∃ a, a = n % 256 := ⟨_, rfl⟩
  obtain ⟨b, hb⟩ : ∃ b, b = n / 256 % 256 := ⟨_, rfl⟩
  obtain ⟨c, hc⟩ : ∃ c, c = n / 65536 := ⟨_, rfl⟩
  rw [← ha, ← hb, ← hc]
  have e : n = a + 256 * b + 65536 * c := by omega
  have la : a < 256 := by omega
  have lb : b < 256 := by omega
  have lc : c < 256 := by omega
  clear ha hb hc h
  subst e
  have a1 := (byte1 a la).2; have b1 := (byte1 b lb).2; have c1 := (byte1 c lc).2
  have a2 := (byte2 _ a1 0 (by omega)).2; have b2 := (byte2 _ b1 0 (by omega)).2; have c2 := (byte2 _ c1 0 (by omega)).2
  have a3 := byte_pc a la; have b3 := byte_pc b lb; have c3 := byte_pc c lc
  rw [s1_bytes a b c la lb lc, s2_bytes _ _ _ a1 b1 c1, s3_bytes _ _ _ a2.1 b2.1 c2.1 b2.2 c2.2]
  generalize t3 (t2 (t1 a)) = x at *
  generalize t3 (t2 (t1 b)) = y at *
  generalize t3 (t2 (t1 c)) = z at *
  clear a1 b1 c1 a2 b2 c2 la lb lc
  have f4 : s4 ((x + 256 * y + 65536 * z : Nat) : Int) = ((x + y + 256 * (y + z) + 65536 * z : Nat) : Int) := by
    unfold s4
    rw [show ((x + 256 * y + 65536 * z : Nat) : Int) + ((x + 256 * y + 65536 * z : Nat) : Int) / 256 = ((x + y + 256 * (y + z) + 65536 * z : Nat) : Int) from by omega]
    exact wrap_u64 _ (by omega)
  have f5 : s5 ((x + y + 256 * (y + z) + 65536 * z : Nat) : Int) = ((x + y + z + 256 * (y + z) + 65536 * z : Nat) : Int) := by
    unfold s5
    rw [show ((x + y + 256 * (y + z) + 65536 * z : Nat) : Int) + ((x + y + 256 * (y + z) + 65536 * z : Nat) : Int) / 65536 = ((x + y + z + 256 * (y + z) + 65536 * z : Nat) : Int) from by omega]
    exact wrap_u64 _ (by omega)
  have f6 : s6 ((x + y + z + 256 * (y + z) + 65536 * z : Nat) : Int) = ((x + y + z + 256 * (y + z) + 65536 * z : Nat) : Int) := by
    unfold s6
    rw [show ((x + y + z + 256 * (y + z) + 65536 * z : Nat) : Int) + ((x + y + z + 256 * (y + z) + 65536 * z : Nat) : Int) / 4294967296 = ((x + y + z + 256 * (y + z) + 65536 * z : Nat) : Int) from by omega]
    exact wrap_u64 _ (by omega)
  rw [f4, f5, f6, show wrap64 ((x + y + z + 256 * (y + z) + 65536 * z : Nat) : Int) = ((x + y + z + 256 * (y + z) + 65536 * z : Nat) : Int) from by unfold wrap64; omega, show (127 : Int) = ((127 : Nat) : Int) from rfl, and_i64 _ _ (by omega) (by decide)]
  rw [show (127 : Nat) = 2 ^ 7 - 1 from rfl, Nat.and_two_pow_sub_one_eq_mod]
  omega
theorem pc_zero : pc 0 = 0 := by rw [pc, if_pos rfl]
theorem pc_one (m : Nat) : pc m = m % 2 + pc (m / 2) := by
  by_cases h0 : m = 0
  · subst h0; rw [pc_zero]
  · rw [pc, if_neg h0]
theorem pc_byte_step (n h : Nat) (hn : n < 256) : pc (256 * h + n) = pc n + pc h := by
  have key : ∀ k n, n < 2 ^ k → ∀ h, pc (2 ^ k * h + n) = pc n + pc h := by
    intro k
    induction k with
    | zero => intro n hn h; have : n = 0 := by simpa using hn
              subst this; rw [pc_zero]; simp
    | succ k ih =>
      intro n hn h
      rw [pc_one, pc_one n]
      have e1 : (2 ^ (k + 1) * h + n) % 2 = n % 2 := by rw [Nat.pow_succ, Nat.mul_comm (2 ^ k) 2, Nat.mul_assoc]; omega
      have e2 : (2 ^ (k + 1) * h + n) / 2 = 2 ^ k * h + n / 2 := by rw [Nat.pow_succ, Nat.mul_comm (2 ^ k) 2, Nat.mul_assoc]; omega
      rw [e1, e2, ih (n / 2) (by rw [Nat.pow_succ] at hn; omega) h]
      omega
  exact key 8 n hn h
theorem pc_256 : ∀ a < 256, t3 (t2 (t1 a)) = pc a := by
  have e : ∀ a, a < 256 → pc a = a % 2 + (a / 2 % 2 + (a / 4 % 2 + (a / 8 % 2 + (a / 16 % 2 + (a / 32 % 2 + (a / 64 % 2 + a / 128 % 2)))))) := by
    intro a ha
    rw [pc_one a, pc_one (a / 2), pc_one (a / 2 / 2), pc_one (a / 2 / 2 / 2), pc_one (a / 2 / 2 / 2 / 2), pc_one (a / 2 / 2 / 2 / 2 / 2), pc_one (a / 2 / 2 / 2 / 2 / 2 / 2), pc_one (a / 2 / 2 / 2 / 2 / 2 / 2 / 2)]
    rw [show a / 2 / 2 / 2 / 2 / 2 / 2 / 2 / 2 = 0 from by omega, pc_zero]
    omega
  have d : ∀ a < 256, t3 (t2 (t1 a)) = a % 2 + (a / 2 % 2 + (a / 4 % 2 + (a / 8 % 2 + (a / 16 % 2 + (a / 32 % 2 + (a / 64 % 2 + a / 128 % 2)))))) := by
    set_option maxRecDepth 100000 in decide
  intro a ha
  rw [d a ha, e a ha]
theorem pc3_eq (n : Nat) (h : n < 16777216) : pc3 n = pc n := by
  unfold pc3
  rw [pc_256 _ (by omega), pc_256 _ (by omega), pc_256 _ (by omega)]
  have e1 := pc_byte_step (n % 256) (n / 256) (by omega)
  have e2 := pc_byte_step (n / 256 % 256) (n / 65536) (by omega)
  rw [show 256 * (n / 256) + n % 256 = n from by omega] at e1
  rw [show 256 * (n / 65536) + n / 256 % 256 = n / 256 from by omega] at e2
  omega
theorem pcS_pc (n : Nat) (h : n < 16777216) : pcS (n : Int) = (pc n : Nat) := by rw [pcS_eq n h, pc3_eq n h]
end Go.Proofs.Ytiplibgnfcdlkaa
