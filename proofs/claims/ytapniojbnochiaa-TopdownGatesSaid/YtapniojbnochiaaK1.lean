import Derived.Test.YtapniojbnochiaaRows
import Derived.WalkKit
import Derived.WalkSpells
import Derived.WalkLawsBesides
import Derived.Deep.QuietTactic
import Derived.BigQuiet
import Derived.Lib.Hide
import Derived.Shelf.Abstract
import Derived.Deep.RegionWith
import Derived.Laws.AppendOwnNone
import Derived.Lib.AppendZerosOnto
import Derived.Lib.SliceRun
import Derived.Lib.SlicesCompact
import Derived.Shelf.SlSortCmp.NoneTotal
import Derived.Test.YtapniojbnochiaaShelf
import Derived.Maps.OwnOps
import Derived.Maps.OwnSet
import Derived.Maps.Views
import Derived.Deep.MidRow
/-
  What the walks say of memory: slices of ints and of slices, and how such readings stay. Plain lemmas on worlds.
-/
namespace Go.Proofs.Ytapniojbnochiaa
open Go.RowKit

/-- No memory that lay there has changed. -/
abbrev Kept (w w' : World) : Prop := Below w.heap.size w w'

theorem Kept.refl (w : World) : Kept w w := Below.refl _ _
theorem Kept.trans {a b c : World} (h : Kept a b) (k : Kept b c) : Kept a c := Below.trans h (Below.mono k h.size)
theorem Kept.drew {a w : World} (h : Kept a w) : Kept a w.drew := Below.drew h
theorem Kept.alloc {a w : World} (h : Kept a w) (o : Obj) : Kept a (w.alloc o) := Below.alloc h h.size o
theorem Kept.cell {w w' : World} (h : Kept w w') {p : Addr} {v : Value} (hc : w.cell? p = some v) : w'.cell? p = some v :=
  (Below.cell h (World.block_lt_of_cell? w _ hc)).trans hc
theorem Kept.drewN {a w : World} (h : Kept a w) (n : Nat) : Kept a (w.drewN n) := ⟨h.os, h.tape, h.output, h.size, h.block⟩

theorem Kept.app {a b c : World} (h : Kept a b) (k : Below a.heap.size b c) : Kept a c := Below.trans h k

/-- A slice of ints that can be read. -/
def IntsAt (w : World) (v : Value) (xs : List Int) : Prop :=
  ∃ (a : Option Addr) (c : Nat), v = .slice a xs.length c ∧ (xs.length ≤ c ∧ (a = none → c = 0)) ∧ xs.length ≤ 140737488355328 ∧
    ∀ i (h : i < xs.length), ∃ b o, a = some ⟨b, o, none⟩ ∧ w.cell? ⟨b, o + i, none⟩ = some (.int .i64 xs[i])

theorem IntsAt.kept {w w' : World} {v : Value} {xs : List Int} (h : IntsAt w v xs) (hb : Kept w w') : IntsAt w' v xs := by
  obtain ⟨a, c, h1, h0, h2, h3⟩ := h
  refine ⟨a, c, h1, h0, h2, fun i hi => ?_⟩
  obtain ⟨b, o, h4, h5⟩ := h3 i hi
  exact ⟨b, o, h4, hb.cell h5⟩

theorem IntsAt.shape {w : World} {v : Value} {xs : List Int} (h : IntsAt w v xs) : ∃ a n c, v = .slice a n c := by
  obtain ⟨a, c, h1, _⟩ := h
  exact ⟨a, _, c, h1⟩

theorem IntsAt.nil (w : World) : IntsAt w (.slice none 0 0) [] := ⟨none, 0, rfl, ⟨by simp, fun _ => rfl⟩, by simp, fun i h => by simp at h⟩

/-- A slice whose cells hold values of which R speaks, each of one cell. -/
def RowsAt {α : Type} (R : World → Value → α → Prop) (w : World) (v : Value) (xs : List α) : Prop :=
  ∃ (a : Option Addr) (c : Nat), v = .slice a xs.length c ∧ (xs.length ≤ c ∧ (a = none → c = 0)) ∧ xs.length ≤ 140737488355328 ∧
    ∀ i (h : i < xs.length), ∃ b o u, a = some ⟨b, o, none⟩ ∧ w.cell? ⟨b, o + i, none⟩ = some u ∧ R w u xs[i]

theorem RowsAt.kept {α : Type} {R : World → Value → α → Prop} (hR : ∀ w w' u x, R w u x → Kept w w' → R w' u x)
    {w w' : World} {v : Value} {xs : List α} (h : RowsAt R w v xs) (hb : Kept w w') : RowsAt R w' v xs := by
  obtain ⟨a, c, h1, h0, h2, h3⟩ := h
  refine ⟨a, c, h1, h0, h2, fun i hi => ?_⟩
  obtain ⟨b, o, u, h4, h5, h6⟩ := h3 i hi
  exact ⟨b, o, u, h4, hb.cell h5, hR _ _ _ _ h6 hb⟩

/-- An error by its number; 0: none. -/
def errV (c : Nat) : Value := if c = 0 then .nilIface else .iface 45 (.int .i64 c)
theorem errV_zero : errV 0 = .nilIface := rfl
theorem errV_pos {c : Nat} (h : c ≠ 0) : errV c = .iface 45 (.int .i64 c) := by simp [errV, h]

/-- An int slice of the call's own. -/
def OwnInts (w : World) (B : Nat) (v : Value) (xs : List Int) : Prop :=
  w.ownsRow B 3 1 v xs.length (xs.map (Value.int .i64)) ∧ xs.length ≤ 140737488355328

theorem OwnInts.ints {w : World} {B : Nat} {v : Value} {xs : List Int} (h : OwnInts w B v xs) : IntsAt w v xs := by
  obtain ⟨⟨h1, h2⟩, h3⟩ := h
  rcases h2 with ⟨rfl, h4⟩ | ⟨g, cap, cur, rfl, h5, h6, h7, h8, h9, h10⟩
  · have : xs = [] := List.eq_nil_of_length_eq_zero h4
    subst this
    exact IntsAt.nil w
  · refine ⟨_, cap, rfl, ⟨h7, fun h => by cases h⟩, h3, fun i hi => ⟨g, 0, rfl, ?_⟩⟩
    have e1 : (cur.toList.take (xs.length * 1))[i]? = (xs.map (Value.int .i64))[i]? := by rw [h10]
    rw [List.getElem?_take_of_lt (by omega)] at e1
    simp only [World.cell?, h6, Nat.zero_add]
    simpa [hi] using e1

theorem own_kept {w w' : World} {B : Nat} {e : TypeId} {size : Nat} {v : Value} {n : Nat} {xs : List Value} (h : w.ownsRow B e size v n xs) (hb : Kept w w') : w'.ownsRow B e size v n xs := by
  obtain ⟨h1, h2⟩ := h
  refine ⟨h1, h2.imp id ?_⟩
  rintro ⟨g, cap, cur, h3, h4, h5, h6⟩
  have hg : g < w.heap.size := by
    rcases Nat.lt_or_ge g w.heap.size with h | h
    · exact h
    · simp [Array.getElem?_eq_none h] at h5
  exact ⟨g, cap, cur, h3, h4, (hb.block g hg).trans h5, h6⟩
theorem OwnInts.kept {w w' : World} {B : Nat} {v : Value} {xs : List Int} (h : OwnInts w B v xs) (hb : Kept w w') : OwnInts w' B v xs := ⟨own_kept h.1 hb, h.2⟩
theorem OwnInts.nil (w : World) (B : Nat) : OwnInts w B (.slice none 0 0) [] := ⟨World.ownsRow_nil _ _ _ _, by simp⟩
theorem own_mono {w : World} {B B' : Nat} {e : TypeId} {size : Nat} {v : Value} {n : Nat} {xs : List Value} (h : w.ownsRow B e size v n xs) (hb : B' ≤ B) : w.ownsRow B' e size v n xs := by
  obtain ⟨h1, h2⟩ := h
  refine ⟨h1, h2.imp id ?_⟩
  rintro ⟨g, cap, cur, h3, h4, h5⟩
  exact ⟨g, cap, cur, h3, by omega, h5⟩
theorem OwnInts.mono {w : World} {B B' : Nat} {v : Value} {xs : List Int} (h : OwnInts w B v xs) (hb : B' ≤ B) : OwnInts w B' v xs := ⟨own_mono h.1 hb, h.2⟩

/-- What an append to a row of the call's own leaves unchanged. -/
theorem grown_below {B : Nat} {w w' : World} {v : Value} {e : TypeId} {size n : Nat} {xs : List Value} (hg : w.grownBy w' v.ownBlock) (ho : w.ownsRow B e size v n xs) (hB : B ≤ w.heap.size) : Below B w w' :=
  Below.grown (Below.refl _ _) hg hB fun k hk => (ho.lt k hk).1

end Go.Proofs.Ytapniojbnochiaa

/-
  The laws of append, make and indexing for the slices of the call's own, in the words of B0.
-/
namespace Go.Proofs.Ytapniojbnochiaa
open Go.RowKit

theorem info_int : (Try.prog.info? 3).map (fun i => (i.zero, i.size, i.bytes)) = some (some (.int .i64 0), 1, 8) := by kernel_rfl
theorem info_ints : (Try.prog.info? 27).map (fun i => (i.zero, i.size, i.bytes)) = some (some (.slice none 0 0), 1, 24) := by kernel_rfl

variable {ops : Array Oper} {rest : List Oper} {o : Oper} {a : Act} {Q : Exit → Act → World → Prop} {w : World}

/-- append of one cell to a row of the call's own. -/
theorem app_one (t e : TypeId) (z : Value) (bytes : Nat) (hi : (Try.prog.info? e).map (fun i => (i.zero, i.size, i.bytes)) = some (some z, 1, bytes)) (ht : Try.prog.underlying t = some (.slice e)) (hz : z.cells.size = 1) (hgd : o.guard = none) (s x : Operand)
    (ho : o.op = .call { callee := .builtin .append, args := #[s, x], argTypes := #[t, t] }) (B : Nat) (v : Value) (xs : List Value) (hs : a.eval s = v) (hown : w.ownsRow B e 1 v xs.length xs)
    (ad : Addr) (y : Value) (hx : a.eval x = .slice (some ad) 1 1) (hc : w.cell? ad = some y) (h1 : y.oneCell' = true) (hl : (xs.length + 1) * bytes ≤ 140737488355328) (hl2 : xs.length + 1 ≤ maxLen) (hB : B ≤ w.heap.size)
    (h : ∀ v' w', w'.ownsRow B e 1 v' (xs ++ [y]).length (xs ++ [y]) → w.grownBy w' v.ownBlock → Below B w w' → wpList Try.prog ops Q rest (a.put o.dst v') w') : wpList Try.prog ops Q (o :: rest) a w := by
  obtain ⟨i0, hi0, hz0, hz1, hz2⟩ := info_parts hi
  refine wpList_append_own _ hgd s x t ho B e i0 z 1 bytes ht hi0 hz0 hz1 hz2 hz (by decide) v xs.length xs hs hown ad 1 1 [y] hx rfl ?_ ?_ hl2 hl hB ?_
  · intro j u hj
    match j, hj with
    | 0, hj => simp at hj; subst hj; simpa [Addr.add] using hc
  · intro u hu; simp at hu; subst hu; exact h1
  · intro v' w' h2 h3 _
    refine h v' w' ?_ h3 (grown_below h3 hown hB)
    simpa using h2

theorem app_int (hgd : o.guard = none) (s x : Operand)
    (ho : o.op = .call { callee := .builtin .append, args := #[s, x], argTypes := #[27, 27] }) (B : Nat) (v : Value) (xs : List Int) (hs : a.eval s = v) (hown : OwnInts w B v xs)
    (ad : Addr) (y : Int) (hx : a.eval x = .slice (some ad) 1 1) (hc : w.cell? ad = some (.int .i64 y)) (hl : xs.length < 17592186044416) (hB : B ≤ w.heap.size)
    (h : ∀ v' w', OwnInts w' B v' (xs ++ [y]) → w.grownBy w' v.ownBlock → Below B w w' → wpList Try.prog ops Q rest (a.put o.dst v') w') : wpList Try.prog ops Q (o :: rest) a w := by
  refine app_one 27 3 _ 8 info_int Try.underlying27 rfl hgd s x ho B v (xs.map (.int .i64)) hs (by simpa using hown.1) ad _ hx hc rfl (by simp; omega) (by simp [maxLen]; omega) hB ?_
  intro v' w' h2 h3 h4
  refine h v' w' ⟨?_, by simp; omega⟩ h3 h4
  simpa using h2

/-- append of a whole slice of ints. -/
theorem app_ints (hgd : o.guard = none) (s x : Operand)
    (ho : o.op = .call { callee := .builtin .append, args := #[s, x], argTypes := #[27, 27] }) (B : Nat) (v : Value) (xs : List Int) (hs : a.eval s = v) (hown : OwnInts w B v xs)
    (u : Value) (ys : List Int) (hx : a.eval x = u) (hu : IntsAt w u ys) (hl : xs.length + ys.length ≤ 17592186044416) (hB : B ≤ w.heap.size)
    (h : ∀ v' w', OwnInts w' B v' (xs ++ ys) → (∀ k, k < w.heap.size → some k ≠ v.ownBlock → w'.heap[k]? = w.heap[k]?) → Below B w w' → wpList Try.prog ops Q rest (a.put o.dst v') w') : wpList Try.prog ops Q (o :: rest) a w := by
  obtain ⟨i0, hi0, hz0, hz1, hz2⟩ := info_parts info_int
  obtain ⟨ad, c, rfl, ⟨hc, hcn⟩, hl2, hcell⟩ := hu
  cases ad with
  | none =>
    have hy : ys = [] := by
      cases ys with
      | nil => rfl
      | cons y ys => obtain ⟨b, o, h, _⟩ := hcell 0 (by simp); cases h
    subst hy
    rw [hcn rfl] at hx
    refine wpList_append_own_none hgd s x 27 ho B 3 i0 1 Try.underlying27 hi0 v xs.length _ hs hown.1 hx ?_
    exact h v w (by simpa using hown) (fun _ _ _ => rfl) (Below.refl _ _)
  | some ad =>
    refine wpList_append_own _ hgd s x 27 ho B 3 i0 _ 1 8 Try.underlying27 hi0 hz0 hz1 hz2 rfl (by decide) v xs.length _ hs hown.1 ad ys.length c (ys.map (.int .i64)) hx (by simp) ?_ ?_ (by simp [maxLen]; omega) (by omega) hB ?_
    · intro j u hj
      have hj' : j < ys.length := by
        rcases Nat.lt_or_ge j ys.length with h | h
        · exact h
        · rw [List.getElem?_eq_none (by simpa using h)] at hj; cases hj
      obtain ⟨b, o, h1, h2⟩ := hcell j hj'
      cases h1
      simp [hj'] at hj
      subst hj
      rcases Nat.eq_zero_or_pos j with h0 | h0
      · subst h0; simpa [Addr.add] using h2
      · simpa [Addr.add, Nat.ne_of_gt h0] using h2
    · intro u hu; obtain ⟨y, _, rfl⟩ := List.mem_map.1 hu; rfl
    · intro v' w' h2 h3 _
      refine h v' w' ⟨by simpa using h2, by simp; omega⟩ (fun k hk hne => h3.block k hk hne) (grown_below h3 hown.1 hB)
end Go.Proofs.Ytapniojbnochiaa

/-
  Walks: sets.Valid, Cut, Has, Subset; slices.IndexFunc, ContainsFunc at []int.
-/
namespace Go.Proofs.Ytapniojbnochiaa
open Go.RowKit

theorem valid_any (s : Int) (w : World) : Calls Try.prog 65 #[.int .i64 s] w fun e w' => e = .returned (.bool (decide (0 ≤ s ∧ s ≤ 16777215))) ∧ w = w' := by
  by_cases h : 0 ≤ s
  · by_cases h2 : s ≤ 16777215
    all_goals
      go_enter Try.func65, Try.ntmps65
      go_wp2
      go_ret
      exact ⟨by simp [h, h2], rfl⟩
  · go_enter Try.func65, Try.ntmps65
    go_wp2
    go_ret
    exact ⟨by congr 2; simp; omega, rfl⟩
theorem cut_any (s : Int) (w : World) : Calls Try.prog 80 #[.int .i64 s] w fun e w' => e = .returned (.int .i64 (bits .and .i64 s 16777215)) ∧ w = w' := by
  go_enter Try.func80, Try.ntmps80
  go_wp2
  go_ret
  exact ⟨rfl, rfl⟩
def subB (a b : Int) : Bool := bits .andNot .i64 (bits .and .i64 a 16777215) b == 0
theorem subset_any (a b : Int) (w : World) : Calls Try.prog 44 #[.int .i64 a, .int .i64 b] w fun e w' => e = .returned (.bool (subB a b)) ∧ w = w' := by
  go_enter Try.func44, Try.ntmps44
  go_wp2_with (go_at_call 80; refine (cut_any _ _).mono ?_; rintro e w' ⟨rfl, rfl⟩)
  go_ret
  exact ⟨rfl, rfl⟩

/-- A function value that decides p, wherever it is called. -/
def Decides (g : Nat) (lb : Array Value) (p : Int → Bool) (w : World) : Prop :=
  ∀ (W : World) (x : Int), Kept w W → Calls Try.prog g (#[.int .i64 x] ++ lb) W fun e W' => e = .returned (.bool (p x)) ∧ Kept W W'

theorem contains_any (g : Nat) (lb : Array Value) (eg : ∀ args w, (callFunc g args).run Try.prog w = .ok (.enter g args) w) (p : Int → Bool) (v : Value) (xs : List Int) (w : World)
    (hp : Decides g lb p w) (hv : IntsAt w v xs) :
    Calls Try.prog 107 #[v, .func (.func g) #[] lb] w fun e w' => (∃ n : Int, e = .returned (.int .i64 n) ∧ (decide (0 ≤ n) = xs.any p)) ∧ Kept w w' := by
  obtain ⟨a, c, rfl, ⟨hc, _⟩, hl, hx⟩ := hv
  obtain ⟨n, hn⟩ : ∃ n, n = xs.length := ⟨_, rfl⟩
  have hbig : n ≤ 140737488355328 := by omega
  rw [← hn]
  have HX := Lib.hid hx
  have HN := Lib.hid hn
  have HP := Lib.hid hp
  clear hx hn hp hl hc
  go_enter Try.func107, Try.ntmps107
  go_wp2
  go_loopw [5, 8] (fun _ i wr => ∃ k : Nat, k ≤ n ∧ i = .int .i64 k ∧ Hid (∀ x ∈ xs.take k, p x = false) ∧ Kept w wr) (fun _ i _ => n - (intOf i).toNat)
  case atStart => exact ⟨0, Nat.zero_le _, rfl, Lib.hid (by simp), Kept.refl _⟩
  case round =>
    obtain ⟨k, hk, rfl, HF, hK⟩ := hrel
    by_cases hlt : k < n
    · have hkx : k < xs.length := by have := HN.out; omega
      obtain ⟨b, o, rfl, hcell⟩ := HX.out k hkx
      have hcell' := hK.cell hcell
      obtain ⟨x, hxx⟩ : ∃ x, x = xs[k] := ⟨_, rfl⟩
      rw [← hxx] at hcell hcell'
      have HXX := Lib.hid hxx
      clear hxx hcell
      cases hq : p x with
      | true =>
        have hcall := fun W h => HP.out W x h
        rw [hq] at hcall
        have HC := Lib.hid hcall
        clear hcall
        go_wp2_with (go_at_fn g; refine (HC.out _ hK).mono ?_; rintro e w' ⟨rfl, hK2⟩)
        go_ret
        refine ⟨⟨k, rfl, ?_⟩, hK.trans hK2⟩
        have : xs.any p = true := List.any_eq_true.2 ⟨x, by rw [HXX.out]; exact List.getElem_mem _, hq⟩
        rw [this]; simp
      | false =>
        have hcall := fun W h => HP.out W x h
        rw [hq] at hcall
        have HC := Lib.hid hcall
        clear hcall
        go_wp2_with (go_at_fn g; refine (HC.out _ hK).mono ?_; rintro e w' ⟨rfl, hK2⟩)
        go_roundw
        case rel =>
          refine ⟨k + 1, by omega, by go_num, Lib.hid ?_, hK.trans hK2⟩
          intro y hy
          rw [List.take_succ_eq_append_getElem hkx] at hy
          rcases List.mem_append.1 hy with hy | hy
          · exact HF.out y hy
          · simp at hy; rw [hy, ← HXX.out]; exact hq
        case measure => simp [intOf]; omega
    · go_wp2
      go_ret
      refine ⟨⟨-1, rfl, ?_⟩, hK⟩
      have hh := HF.out
      rw [List.take_of_length_le (by have := HN.out; omega)] at hh
      have : xs.any p = false := by rw [List.any_eq_false]; intro y hy; simp [hh y hy]
      rw [this]; rfl
end Go.Proofs.Ytapniojbnochiaa

/-
  Walks: slices.ContainsFunc; family.minimal.
-/
namespace Go.Proofs.Ytapniojbnochiaa
open Go.RowKit

theorem has_any (g : Nat) (lb : Array Value) (eg : ∀ args w, (callFunc g args).run Try.prog w = .ok (.enter g args) w) (p : Int → Bool) (v : Value) (xs : List Int) (w : World)
    (hp : Decides g lb p w) (hv : IntsAt w v xs) :
    Calls Try.prog 76 #[v, .func (.func g) #[] lb] w fun e w' => e = .returned (.bool (xs.any p)) ∧ Kept w w' := by
  have h := contains_any g lb eg p v xs w hp hv
  have H := Lib.hid h
  clear h hp hv eg
  obtain ⟨r, hr⟩ : ∃ r, r = xs.any p := ⟨_, rfl⟩
  rw [← hr] at H ⊢
  clear hr
  go_enter Try.func76, Try.ntmps76
  go_wp2_with (go_at_call 107; refine H.out.mono ?_; rintro e w' ⟨⟨n, rfl, hn⟩, hK⟩; have HN := Lib.hid hn; clear hn)
  go_ret
  exact ⟨by rw [← HN.out]; rfl, hK⟩

theorem decides_sub (s : Int) (B : Nat) (w : World) (hc : w.cell? ⟨B, 0, none⟩ = some (.int .i64 s)) : Decides 92 #[.pointer (some ⟨B, 0, none⟩)] (fun t => subB t s) w := by
  intro W x hK
  have hc' := hK.cell hc
  clear hc
  go_enter Try.func92, Try.ntmps92
  go_wp2_with (go_at_call 44; refine (subset_any _ _ _).mono ?_; rintro e w' ⟨rfl, rfl⟩)
  go_ret
  exact ⟨rfl, Kept.refl _⟩

def keepMin (out : List Int) (s : Int) : List Int := if out.any (fun t => subB t s) then out else out ++ [s]
def minOf (l : List Int) : List Int := l.foldl keepMin []
theorem keepMin_len (l : List Int) : ∀ out, (l.foldl keepMin out).length ≤ out.length + l.length := by
  induction l with
  | nil => intro out; simp
  | cons s l ih =>
    intro out
    simp only [List.foldl_cons, List.length_cons]
    refine Nat.le_trans (ih _) ?_
    unfold keepMin
    split <;> simp <;> omega
theorem minOf_take (l : List Int) (k : Nat) (h : k < l.length) : minOf (l.take (k + 1)) = keepMin (minOf (l.take k)) l[k] := by
  unfold minOf
  rw [List.take_succ_eq_append_getElem h, List.foldl_append]; rfl

theorem minimal_any (v : Value) (w : World) (xs : List Int) (hx : xs.length ≤ 8796093022208)
    (hs : Calls Try.prog 79 #[v] w fun e w' => ∃ v', e = .returned v' ∧ IntsAt w' v' xs ∧ Kept w w') :
    Calls Try.prog 66 #[v] w fun e w' => ∃ v', e = .returned v' ∧ OwnInts w' w.heap.size v' (minOf xs) ∧ Kept w w' := by
  have HS := Lib.hid hs
  clear hs
  obtain ⟨n, hn⟩ : ∃ n, n = xs.length := ⟨_, rfl⟩
  rw [← hn] at hx
  have HN := Lib.hid hn
  clear hn
  go_enter Try.func66, Try.ntmps66
  go_wp2_with (go_at_call 79; refine HS.out.mono ?_; rintro e w1 ⟨v', rfl, hI, hK1⟩; obtain ⟨a, c, rfl, ⟨hc, _⟩, hl, hcell⟩ := hI; have HX := Lib.hid hcell; clear hcell hc hl; rw [← HN.out])
  go_loopw [3, 9] (fun v i wr => ∃ k : Nat, k ≤ n ∧ i = .int .i64 k ∧ OwnInts wr w1.heap.size v (minOf (xs.take k)) ∧ Kept w1 wr) (fun _ i _ => n - (intOf i).toNat)
  case atStart => exact ⟨0, Nat.zero_le _, rfl, OwnInts.nil _ _, Kept.refl _⟩
  case round =>
    obtain ⟨k, hk, rfl, hown, hK⟩ := hrel
    have hB := hK.size
    by_cases hlt : k < n
    · have hkx : k < xs.length := by have := HN.out; omega
      obtain ⟨b, o, rfl, hc0⟩ := HX.out k hkx
      have hcell := hK.cell hc0
      obtain ⟨s, hs⟩ : ∃ x, x = xs[k] := ⟨_, rfl⟩
      rw [← hs] at hcell hc0
      have hstep := minOf_take xs k hkx
      rw [← hs] at hstep
      have hlen := keepMin_len (xs.take k) []
      obtain ⟨m, hm⟩ : ∃ m, m = minOf (xs.take k) := ⟨_, rfl⟩
      have hml : m.length ≤ k := by rw [hm]; refine Nat.le_trans hlen ?_; simp; omega
      rw [← hm] at hown hstep
      have HSt := Lib.hid hstep
      clear hstep hlen hs hm hc0
      have HO := Lib.hid hown
      clear hown
      cases hq : m.any (fun t => subB t s) with
      | true =>
        have HQ := Lib.hid hq
        clear hq
        go_wp2_with (go_at_call 76; refine (has_any _ _ (enters_of Try.func92 (by kernel_rfl) rfl) _ _ m _ (decides_sub s _ _ (by simp)) ((HO.out.kept ((Kept.refl _).alloc _)).ints)).mono ?_; rintro e w2 ⟨rfl, hK2⟩; rw [HQ.out])
        go_roundw
        case rel => exact ⟨k + 1, by omega, by go_num, by rw [HSt.out, keepMin, HQ.out]; exact HO.out.kept (((Kept.refl _).alloc _).trans hK2), hK.trans (((Kept.refl _).alloc _).trans hK2)⟩
        case measure => simp [intOf]; omega
      | false =>
        have HQ := Lib.hid hq
        clear hq
        go_wp2_with (first
          | (go_at_call 76; refine (has_any _ _ (enters_of Try.func92 (by kernel_rfl) rfl) _ _ m _ (decides_sub s _ _ (by simp)) ((HO.out.kept ((Kept.refl _).alloc _)).ints)).mono ?_; rintro e w2 ⟨rfl, hK2⟩; rw [HQ.out]; have hbox := hK2.cell (p := ⟨wr.heap.size, 0, none⟩) (v := .int .i64 s) (by simp); have hz := hK2.size)
          | (at_builtin; refine app_int rfl _ _ rfl w1.heap.size _ m rfl (HO.out.kept ((((Kept.refl _).alloc _).trans hK2).alloc _)) _ s rfl (by simp) (by omega) (by simp at hz ⊢; omega) ?_; intro v' w3 hown3 hg3 hb3))
        go_roundw
        case rel => exact ⟨k + 1, by omega, by go_num, by rw [HSt.out, keepMin, HQ.out]; exact hown3, (hK.trans ((((Kept.refl _).alloc _).trans hK2).alloc _)).app hb3⟩
        case measure => simp [intOf]; omega
    · go_wp2
      go_ret
      have e : k = n := by omega
      subst e
      rw [List.take_of_length_le (by have := HN.out; omega)] at hown
      exact ⟨_, rfl, hown.mono hK1.size, hK1.trans hK⟩
end Go.Proofs.Ytapniojbnochiaa

/-
  Plain numbers: what the bit operations are on masks; the number of bits by the swar sum.
-/
namespace Go.Proofs.Ytapniojbnochiaa
open Go.RowKit

theorem wrap_u64 (n : Nat) (h : n < 18446744073709551616) : IntKind.u64.wrap (n : Int) = n := by
  have h1 : IntKind.u64.wrap (n : Int) = (n : Int) % 18446744073709551616 := rfl
  rw [h1]; omega
theorem wrap_i64 (x : Int) (h0 : 0 ≤ x) (h : x < 9223372036854775808) : IntKind.i64.wrap x = x := by
  rw [IntKind.wrap_i64]; omega
theorem ofNat_toNat (n : Nat) (h : n < 18446744073709551616) : (BitVec.ofInt 64 (n : Int)).toNat = n := by
  simp; omega
theorem and_u64 (a b : Nat) (ha : a < 18446744073709551616) (hb : b < 18446744073709551616) : bits .and .u64 (a : Int) (b : Int) = ((a &&& b : Nat) : Int) := by
  have h : (BitVec.ofInt 64 (a : Int) &&& BitVec.ofInt 64 (b : Int)).toNat = a &&& b := by rw [BitVec.toNat_and, ofNat_toNat a ha, ofNat_toNat b hb]
  show IntKind.u64.wrap (((BitVec.ofInt 64 (a : Int) &&& BitVec.ofInt 64 (b : Int)).toNat : Nat) : Int) = _
  rw [h]; exact wrap_u64 _ (Nat.lt_of_le_of_lt Nat.and_le_left ha)
theorem and_i64 (a b : Nat) (ha : a < 9223372036854775808) (hb : b < 9223372036854775808) : bits .and .i64 (a : Int) (b : Int) = ((a &&& b : Nat) : Int) := by
  have h : (BitVec.ofInt 64 (a : Int) &&& BitVec.ofInt 64 (b : Int)).toNat = a &&& b := by rw [BitVec.toNat_and, ofNat_toNat a (by omega), ofNat_toNat b (by omega)]
  show IntKind.i64.wrap (((BitVec.ofInt 64 (a : Int) &&& BitVec.ofInt 64 (b : Int)).toNat : Nat) : Int) = _
  rw [h]; have := Nat.and_le_left (n := a) (m := b); exact wrap_i64 _ (by omega) (by omega)
theorem or_i64 (a b : Nat) (ha : a < 9223372036854775808) (hb : b < 9223372036854775808) : bits .or .i64 (a : Int) (b : Int) = ((a ||| b : Nat) : Int) := by
  have h : (BitVec.ofInt 64 (a : Int) ||| BitVec.ofInt 64 (b : Int)).toNat = a ||| b := by rw [BitVec.toNat_or, ofNat_toNat a (by omega), ofNat_toNat b (by omega)]
  show IntKind.i64.wrap (((BitVec.ofInt 64 (a : Int) ||| BitVec.ofInt 64 (b : Int)).toNat : Nat) : Int) = _
  rw [h]; have := Nat.or_lt_two_pow (n := 63) (x := a) (y := b) (by omega) (by omega); exact wrap_i64 _ (by omega) (by omega)
/-- a without b. -/
def sdiff (a b : Nat) : Nat := a ^^^ (a &&& b)
theorem andNot_i64 (a b : Nat) (ha : a < 9223372036854775808) (hb : b < 9223372036854775808) : bits .andNot .i64 (a : Int) (b : Int) = ((sdiff a b : Nat) : Int) := by
  have h : (BitVec.ofInt 64 (a : Int) &&& ~~~ BitVec.ofInt 64 (b : Int)).toNat = sdiff a b := by
    have e : BitVec.ofInt 64 (a : Int) &&& ~~~ BitVec.ofInt 64 (b : Int) = BitVec.ofInt 64 (a : Int) ^^^ (BitVec.ofInt 64 (a : Int) &&& BitVec.ofInt 64 (b : Int)) := by
      ext i hi
      simp only [BitVec.getElem_and, BitVec.getElem_not, BitVec.getElem_xor]
      cases (BitVec.ofInt 64 (a : Int))[i] <;> cases (BitVec.ofInt 64 (b : Int))[i] <;> rfl
    rw [e, BitVec.toNat_xor, BitVec.toNat_and, ofNat_toNat a (by omega), ofNat_toNat b (by omega)]; rfl
  show IntKind.i64.wrap (((BitVec.ofInt 64 (a : Int) &&& ~~~ BitVec.ofInt 64 (b : Int)).toNat : Nat) : Int) = _
  rw [h]
  have h2 : sdiff a b < 2 ^ 63 := Nat.xor_lt_two_pow (by omega) (Nat.lt_of_le_of_lt Nat.and_le_left (by omega))
  exact wrap_i64 _ (by omega) (by omega)

/-- The number of bits. -/
def pc (n : Nat) : Nat := if n = 0 then 0 else n % 2 + pc (n / 2)
decreasing_by omega
theorem and_256 (h l H L : Nat) (hl : l < 256) (hL : L < 256) : (256 * h + l) &&& (256 * H + L) = 256 * (h &&& H) + (l &&& L) := by
  have h1 : ((256 * h + l) &&& (256 * H + L)) % 2 ^ 8 = l &&& L := by
    rw [Nat.and_mod_two_pow]; congr 1 <;> omega
  have h2 : ((256 * h + l) &&& (256 * H + L)) / 2 ^ 8 = h &&& H := by
    rw [Nat.and_div_two_pow]; congr 1 <;> omega
  have := Nat.div_add_mod ((256 * h + l) &&& (256 * H + L)) (2 ^ 8)
  rw [h1, h2] at this
  omega
theorem and_bytes (a b c m : Nat) (ha : a < 256) (hb : b < 256) (M : Nat) (hm : m < 256) (hM : M = 256 * (256 * (256 * (M / 16777216) + m) + m) + m) (hc : c < 256) :
    (a + 256 * b + 65536 * c) &&& M = (a &&& m) + 256 * (b &&& m) + 65536 * (c &&& m) := by
  rw [hM, show a + 256 * b + 65536 * c = 256 * (256 * c + b) + a from by omega, and_256 _ _ _ _ ha hm, and_256 _ _ _ _ hb hm,
    show c = 256 * 0 + c from by omega, and_256 _ _ _ _ hc hm]
  simp; omega
def t1 (a : Nat) : Nat := (a / 2 &&& 0x55) + (a &&& 0x55)
def t2 (a : Nat) : Nat := (a / 4 &&& 0x33) + (a &&& 0x33)
def t3 (a : Nat) : Nat := (a / 16 + a) &&& 15
set_option maxRecDepth 100000 in
theorem byte1 : ∀ a < 256, (a / 2 &&& 0x55) = ((a / 2 + 128) &&& 0x55) ∧ t1 a < 171 := by decide
set_option maxRecDepth 100000 in
theorem byte2 : ∀ a < 171, ∀ r < 4, (a / 4 &&& 0x33) = ((a / 4 + 64 * r) &&& 0x33) ∧ t2 a < 103 ∧ t2 a % 16 < 7 := by decide

set_option maxRecDepth 100000 in
theorem byte3 : ∀ a < 103, ∀ r < 7, (a / 16 + 16 * r + a) &&& 15 = (t3 a) ∧ t3 a < 16 := by decide
set_option maxRecDepth 100000 in
theorem byte_pc : ∀ a < 256, t3 (t2 (t1 a)) < 9 := by decide
def s1 (x : Int) : Int := IntKind.u64.wrap (bits .and .u64 (x / 2) 6148914691236517205 + bits .and .u64 x 6148914691236517205)
def s2 (x : Int) : Int := IntKind.u64.wrap (bits .and .u64 (x / 4) 3689348814741910323 + bits .and .u64 x 3689348814741910323)
def s3 (x : Int) : Int := bits .and .u64 (IntKind.u64.wrap (x / 16 + x)) 1085102592571150095
def s4 (x : Int) : Int := IntKind.u64.wrap (x + x / 256)
def s5 (x : Int) : Int := IntKind.u64.wrap (x + x / 65536)
def s6 (x : Int) : Int := IntKind.u64.wrap (x + x / 4294967296)
theorem s1_bytes (a b c : Nat) (ha : a < 256) (hb : b < 256) (hc : c < 256) : s1 ((a + 256 * b + 65536 * c : Nat) : Int) = ((t1 a + 256 * t1 b + 65536 * t1 c : Nat) : Int) := by
  have e1 : ((a + 256 * b + 65536 * c : Nat) : Int) / 2 = (((a / 2 + 128 * (b % 2)) + 256 * (b / 2 + 128 * (c % 2)) + 65536 * (c / 2) : Nat) : Int) := by omega
  have hb2 : b % 2 = 0 ∨ b % 2 = 1 := by omega
  have hc2 : c % 2 = 0 ∨ c % 2 = 1 := by omega
  have ka := byte1 a ha
  have kb := byte1 b hb
  have kc := byte1 c hc
  unfold s1
  rw [e1, show (6148914691236517205 : Int) = ((6148914691236517205 : Nat) : Int) from rfl, and_u64 _ _ (by omega) (by decide), and_u64 _ _ (by omega) (by decide),
    and_bytes _ _ _ 0x55 (by omega) (by omega) _ (by decide) (by decide) (by omega), and_bytes _ _ _ 0x55 ha hb _ (by decide) (by decide) hc]
  have ea : (a / 2 + 128 * (b % 2)) &&& 0x55 = a / 2 &&& 0x55 := by
    rcases hb2 with h | h <;> rw [h]
    · rfl
    · exact ka.1.symm
  have eb : (b / 2 + 128 * (c % 2)) &&& 0x55 = b / 2 &&& 0x55 := by
    rcases hc2 with h | h <;> rw [h]
    · rfl
    · exact kb.1.symm
  rw [ea, eb]
  have ja := ka.2; have jb := kb.2; have jc := kc.2
  unfold t1 at *
  rw [show (((a / 2 &&& 85) + 256 * (b / 2 &&& 85) + 65536 * (c / 2 &&& 85) : Nat) : Int) + (((a &&& 85) + 256 * (b &&& 85) + 65536 * (c &&& 85) : Nat) : Int) = ((((a / 2 &&& 85) + (a &&& 85)) + 256 * ((b / 2 &&& 85) + (b &&& 85)) + 65536 * ((c / 2 &&& 85) + (c &&& 85)) : Nat) : Int) from by omega]
  exact wrap_u64 _ (by omega)
theorem s2_bytes (a b c : Nat) (ha : a < 171) (hb : b < 171) (hc : c < 171) : s2 ((a + 256 * b + 65536 * c : Nat) : Int) = ((t2 a + 256 * t2 b + 65536 * t2 c : Nat) : Int) := by
  have e1 : ((a + 256 * b + 65536 * c : Nat) : Int) / 4 = (((a / 4 + 64 * (b % 4)) + 256 * (b / 4 + 64 * (c % 4)) + 65536 * (c / 4) : Nat) : Int) := by omega
  have ka := byte2 a ha (b % 4) (by omega)
  have kb := byte2 b hb (c % 4) (by omega)
  have kc := byte2 c hc 0 (by omega)
  unfold s2
  rw [e1, show (3689348814741910323 : Int) = ((3689348814741910323 : Nat) : Int) from rfl, and_u64 _ _ (by omega) (by decide), and_u64 _ _ (by omega) (by decide),
    and_bytes _ _ _ 0x33 (by omega) (by omega) _ (by decide) (by decide) (by omega), and_bytes _ _ _ 0x33 (by omega) (by omega) _ (by decide) (by decide) (by omega), ← ka.1, ← kb.1]
  have ja := ka.2.1; have jb := kb.2.1; have jc := kc.2.1
  clear ka kb kc e1
  unfold t2 at *
  rw [show (((a / 4 &&& 51) + 256 * (b / 4 &&& 51) + 65536 * (c / 4 &&& 51) : Nat) : Int) + (((a &&& 51) + 256 * (b &&& 51) + 65536 * (c &&& 51) : Nat) : Int) = ((((a / 4 &&& 51) + (a &&& 51)) + 256 * ((b / 4 &&& 51) + (b &&& 51)) + 65536 * ((c / 4 &&& 51) + (c &&& 51)) : Nat) : Int) from by omega]
  exact wrap_u64 _ (by omega)
theorem s3_bytes (a b c : Nat) (ha : a < 103) (hb : b < 103) (hc : c < 103) (hb6 : b % 16 < 7) (hc6 : c % 16 < 7) : s3 ((a + 256 * b + 65536 * c : Nat) : Int) = ((t3 a + 256 * t3 b + 65536 * t3 c : Nat) : Int) := by
  have e1 : ((a + 256 * b + 65536 * c : Nat) : Int) / 16 + ((a + 256 * b + 65536 * c : Nat) : Int) = (((a / 16 + 16 * (b % 16) + a) + 256 * (b / 16 + 16 * (c % 16) + b) + 65536 * (c / 16 + c) : Nat) : Int) := by omega
  have ka := byte3 a ha (b % 16) hb6
  have kb := byte3 b hb (c % 16) hc6
  have kc := byte3 c hc 0 (by omega)
  unfold s3
  rw [e1, wrap_u64 _ (by omega), show (1085102592571150095 : Int) = ((1085102592571150095 : Nat) : Int) from rfl, and_u64 _ _ (by omega) (by decide),
    and_bytes _ _ _ 0x0f (by omega) (by omega) _ (by decide) (by decide) (by omega), ka.1, kb.1, show c / 16 + c = c / 16 + 16 * 0 + c from by omega, kc.1]
def pcS (x : Int) : Int := bits .and .i64 (wrap64 (s6 (s5 (s4 (s3 (s2 (s1 x))))))) 127
def pc3 (n : Nat) : Nat := t3 (t2 (t1 (n % 256))) + t3 (t2 (t1 (n / 256 % 256))) + t3 (t2 (t1 (n / 65536)))
theorem pcS_eq (n : Nat) (h : n < 16777216) : pcS (n : Int) = (pc3 n : Nat) := by
  unfold pcS pc3
  obtain ⟨a, ha⟩ : ∃ a, a = n % 256 := ⟨_, rfl⟩
  obtain ⟨b, hb⟩ : ∃ b, b = n / 256 % 256 := ⟨_, rfl⟩
  obtain ⟨c, hc⟩ : ∃ c, c = n / 65536 := ⟨_, rfl⟩
  rw [← ha, ← hb, ← hc]
  have e : n = a + 256 * b + 65536 * c := by omega
  have la : a < 256 := by omega
  have lb : b < 256 := by omega
  have lc : c < 256 := by omega
  clear ha hb hc h
  subst e
  have a1 := (byte1 a la).2; have b1 := (byte1 b lb).2; have c1 := (byte1 c lc).2
  have a2 := (byte2 _ a1 0 (by omega)).2; have b2 := (byte2 _ b1 0 (by omega)).2; have c2 := (byte2 _ c1 0 (by omega)).2
  have a3 := byte_pc a la; have b3 := byte_pc b lb; have c3 := byte_pc c lc
  rw [s1_bytes a b c la lb lc, s2_bytes _ _ _ a1 b1 c1, s3_bytes _ _ _ a2.1 b2.1 c2.1 b2.2 c2.2]
  generalize t3 (t2 (t1 a)) = x at *
  generalize t3 (t2 (t1 b)) = y at *
  generalize t3 (t2 (t1 c)) = z at *
  clear a1 b1 c1 a2 b2 c2 la lb lc
  have f4 : s4 ((x + 256 * y + 65536 * z : Nat) : Int) = ((x + y + 256 * (y + z) + 65536 * z : Nat) : Int) := by
    unfold s4
    rw [show ((x + 256 * y + 65536 * z : Nat) : Int) + ((x + 256 * y + 65536 * z : Nat) : Int) / 256 = ((x + y + 256 * (y + z) + 65536 * z : Nat) : Int) from by omega]
    exact wrap_u64 _ (by omega)
  have f5 : s5 ((x + y + 256 * (y + z) + 65536 * z : Nat) : Int) = ((x + y + z + 256 * (y + z) + 65536 * z : Nat) : Int) := by
    unfold s5
    rw [show ((x + y + 256 * (y + z) + 65536 * z : Nat) : Int) + ((x + y + 256 * (y + z) + 65536 * z : Nat) : Int) / 65536 = ((x + y + z + 256 * (y + z) + 65536 * z : Nat) : Int) from by omega]
    exact wrap_u64 _ (by omega)
  have f6 : s6 ((x + y + z + 256 * (y + z) + 65536 * z : Nat) : Int) = ((x + y + z + 256 * (y + z) + 65536 * z : Nat) : Int) := by
    unfold s6
    rw [show ((x + y + z + 256 * (y + z) + 65536 * z : Nat) : Int) + ((x + y + z + 256 * (y + z) + 65536 * z : Nat) : Int) / 4294967296 = ((x + y + z + 256 * (y + z) + 65536 * z : Nat) : Int) from by omega]
    exact wrap_u64 _ (by omega)
  rw [f4, f5, f6, show wrap64 ((x + y + z + 256 * (y + z) + 65536 * z : Nat) : Int) = ((x + y + z + 256 * (y + z) + 65536 * z : Nat) : Int) from by unfold wrap64; omega, show (127 : Int) = ((127 : Nat) : Int) from rfl, and_i64 _ _ (by omega) (by decide)]
  rw [show (127 : Nat) = 2 ^ 7 - 1 from rfl, Nat.and_two_pow_sub_one_eq_mod]
  omega
theorem pc_zero : pc 0 = 0 := by rw [pc, if_pos rfl]
theorem pc_one (m : Nat) : pc m = m % 2 + pc (m / 2) := by
  by_cases h0 : m = 0
  · subst h0; rw [pc_zero]
  · rw [pc, if_neg h0]
theorem pc_byte_step (n h : Nat) (hn : n < 256) : pc (256 * h + n) = pc n + pc h := by
  have key : ∀ k n, n < 2 ^ k → ∀ h, pc (2 ^ k * h + n) = pc n + pc h := by
    intro k
    induction k with
    | zero => intro n hn h; have : n = 0 := by simpa using hn
              subst this; rw [pc_zero]; simp
    | succ k ih =>
      intro n hn h
      rw [pc_one, pc_one n]
      have e1 : (2 ^ (k + 1) * h + n) % 2 = n % 2 := by rw [Nat.pow_succ, Nat.mul_comm (2 ^ k) 2, Nat.mul_assoc]; omega
      have e2 : (2 ^ (k + 1) * h + n) / 2 = 2 ^ k * h + n / 2 := by rw [Nat.pow_succ, Nat.mul_comm (2 ^ k) 2, Nat.mul_assoc]; omega
      rw [e1, e2, ih (n / 2) (by rw [Nat.pow_succ] at hn; omega) h]
      omega
  exact key 8 n hn h
theorem pc_256 : ∀ a < 256, t3 (t2 (t1 a)) = pc a := by
  have e : ∀ a, a < 256 → pc a = a % 2 + (a / 2 % 2 + (a / 4 % 2 + (a / 8 % 2 + (a / 16 % 2 + (a / 32 % 2 + (a / 64 % 2 + a / 128 % 2)))))) := by
    intro a ha
    rw [pc_one a, pc_one (a / 2), pc_one (a / 2 / 2), pc_one (a / 2 / 2 / 2), pc_one (a / 2 / 2 / 2 / 2), pc_one (a / 2 / 2 / 2 / 2 / 2), pc_one (a / 2 / 2 / 2 / 2 / 2 / 2), pc_one (a / 2 / 2 / 2 / 2 / 2 / 2 / 2)]
    rw [show a / 2 / 2 / 2 / 2 / 2 / 2 / 2 / 2 = 0 from by omega, pc_zero]
    omega
  have d : ∀ a < 256, t3 (t2 (t1 a)) = a % 2 + (a / 2 % 2 + (a / 4 % 2 + (a / 8 % 2 + (a / 16 % 2 + (a / 32 % 2 + (a / 64 % 2 + a / 128 % 2)))))) := by
    set_option maxRecDepth 100000 in decide
  intro a ha
  rw [d a ha, e a ha]
theorem pc3_eq (n : Nat) (h : n < 16777216) : pc3 n = pc n := by
  unfold pc3
  rw [pc_256 _ (by omega), pc_256 _ (by omega), pc_256 _ (by omega)]
  have e1 := pc_byte_step (n % 256) (n / 256) (by omega)
  have e2 := pc_byte_step (n / 256 % 256) (n / 65536) (by omega)
  rw [show 256 * (n / 256) + n % 256 = n from by omega] at e1
  rw [show 256 * (n / 65536) + n / 256 % 256 = n / 256 from by omega] at e2
  omega
theorem pcS_pc (n : Nat) (h : n < 16777216) : pcS (n : Int) = (pc n : Nat) := by rw [pcS_eq n h, pc3_eq n h]
end Go.Proofs.Ytapniojbnochiaa

/-
  Walks: math/bits.OnesCount, cmp.Compare[int], sets.Count, Compare.
-/
namespace Go.Proofs.Ytapniojbnochiaa
open Go.RowKit

theorem isNaN_any (x : Int) (w : World) : Calls Try.prog 141 #[.int .i64 x] w fun e w' => e = .returned (.bool false) ∧ w = w' := by
  go_enter Try.func141, Try.ntmps141
  go_wp2
  go_ret
  exact ⟨by simp, rfl⟩
def cmpI (x y : Int) : Int := if x < y then -1 else if y < x then 1 else 0
theorem cmp_any (x y : Int) (w : World) : Calls Try.prog 101 #[.int .i64 x, .int .i64 y] w fun e w' => e = .returned (.int .i64 (cmpI x y)) ∧ w = w' := by
  unfold cmpI
  by_cases h1 : x < y
  · rw [if_pos h1]
    go_enter Try.func101, Try.ntmps101
    go_wp2_with (go_at_call 141; refine (isNaN_any _ _).mono ?_; rintro e w' ⟨rfl, rfl⟩)
    go_ret
    exact ⟨rfl, rfl⟩
  · rw [if_neg h1]
    by_cases h2 : y < x
    · rw [if_pos h2]
      go_enter Try.func101, Try.ntmps101
      go_wp2_with (go_at_call 141; refine (isNaN_any _ _).mono ?_; rintro e w' ⟨rfl, rfl⟩)
      go_ret
      exact ⟨rfl, rfl⟩
    · rw [if_neg h2]
      go_enter Try.func101, Try.ntmps101
      go_wp2_with (go_at_call 141; refine (isNaN_any _ _).mono ?_; rintro e w' ⟨rfl, rfl⟩)
      go_ret
      exact ⟨rfl, rfl⟩
theorem ones64_any (x : Int) (w : World) : Calls Try.prog 156 #[.int .u64 x] w fun e w' => e = .returned (.int .i64 (pcS x)) ∧ w = w' := by
  go_enter Try.func156, Try.ntmps156
  go_wp2
  go_ret
  exact ⟨rfl, rfl⟩
theorem ones_any (x : Int) (w : World) : Calls Try.prog 117 #[.int .u64 x] w fun e w' => e = .returned (.int .i64 (pcS x)) ∧ w = w' := by
  go_enter Try.func117, Try.ntmps117
  go_wp2_with (go_at_call 156; refine (ones64_any _ _).mono ?_; rintro e w' ⟨rfl, rfl⟩)
  go_ret
  exact ⟨rfl, rfl⟩
/-- A set of events: a mask. -/
def Mk (n : Nat) : Prop := n < 16777216
theorem cut_mk {n : Nat} (h : Mk n) : bits .and .i64 (n : Int) 16777215 = n := by
  unfold Mk at h
  rw [show (16777215 : Int) = ((16777215 : Nat) : Int) from rfl, and_i64 _ _ (by omega) (by decide), show (16777215 : Nat) = 2 ^ 24 - 1 from rfl, Nat.and_two_pow_sub_one_eq_mod]
  omega
theorem cutk_any {n : Nat} (h : Mk n) (w : World) : Calls Try.prog 80 #[.int .i64 n] w fun e w' => e = .returned (.int .i64 n) ∧ w = w' := by
  have := cut_any n w
  rwa [cut_mk h] at this
theorem wrap_mk {n : Nat} (h : Mk n) : IntKind.u64.wrap (n : Int) = n := wrap_u64 n (by unfold Mk at h; omega)
theorem count_any {n : Nat} (h : Mk n) (w : World) : Calls Try.prog 84 #[.int .i64 n] w fun e w' => e = .returned (.int .i64 (pc n)) ∧ w = w' := by
  have hw := wrap_mk h
  have hp : pcS (n : Int) = (pc n : Nat) := pcS_pc n h
  have H := Lib.hid h
  clear h
  go_enter Try.func84, Try.ntmps84
  go_wp2_with (first
    | (go_at_call 80; refine (cutk_any H.out _).mono ?_; rintro e w' ⟨rfl, rfl⟩)
    | (go_at_call 117; refine (ones_any _ _).mono ?_; rintro e w' ⟨rfl, rfl⟩))
  go_ret
  exact ⟨rfl, rfl⟩
/-- The order of sets: by size, then as numbers. -/
def cmpK (a b : Nat) : Int := if pc a < pc b then -1 else if pc b < pc a then 1 else if a < b then -1 else if b < a then 1 else 0
theorem compare_any {a b : Nat} (ha : Mk a) (hb : Mk b) (w : World) : Calls Try.prog 69 #[.int .i64 a, .int .i64 b] w fun e w' => e = .returned (.int .i64 (cmpK a b)) ∧ w = w' := by
  have HA := Lib.hid ha
  have HB := Lib.hid hb
  clear ha hb
  obtain ⟨x, hx⟩ : ∃ x, x = cmpI (pc a) (pc b) := ⟨_, rfl⟩
  have HX := Lib.hid hx
  clear hx
  have hr : cmpK a b = if x == 0 then cmpI a b else x := by
    have := HX.out
    unfold cmpK
    unfold cmpI at this ⊢
    split at this
    · rw [if_pos (by omega)]; simp [this]
    · split at this
      · rw [if_neg (by omega), if_pos (by omega)]; simp [this]
      · rw [if_neg (by omega), if_neg (by omega)]; simp [this]
  rw [hr]
  clear hr
  cases hx0 : x == 0
  all_goals
    have hx1 : (x != 0) = !(x == 0) := rfl
    rw [hx0] at hx1
    simp only [Bool.not_true, Bool.not_false] at hx1
    go_enter Try.func69, Try.ntmps69
    go_wp2_with (first
      | (go_at_call 84; refine (count_any (by first | exact HA.out | exact HB.out) _).mono ?_; rintro e w' ⟨rfl, rfl⟩)
      | (go_at_call 101; refine (cmp_any _ _ _).mono ?_; rintro e w' ⟨rfl, rfl⟩; rw [← HX.out])
      | (go_at_call 101; refine (cmp_any _ _ _).mono ?_; rintro e w' ⟨rfl, rfl⟩)
      | (go_at_call 80; refine (cutk_any (by first | exact HA.out | exact HB.out) _).mono ?_; rintro e w' ⟨rfl, rfl⟩))
    go_ret
    exact ⟨rfl, rfl⟩
end Go.Proofs.Ytapniojbnochiaa

/-
  Plain lists: the one strictly ascending list of a set; slices.Compact of a sorted list; the order of sets by size, then as numbers.
-/
namespace Go.Proofs.Ytapniojbnochiaa
open Go.Lib Go.Sort Go.RowKit

theorem pair_unique {α : Type} (lt : α → α → Prop) (irr : ∀ a, ¬ lt a a) (tr : ∀ a b c, lt a b → lt b c → lt a c) :
    ∀ (l1 l2 : List α), l1.Pairwise lt → l2.Pairwise lt → (∀ x, x ∈ l1 ↔ x ∈ l2) → l1 = l2 := by
  intro l1
  induction l1 with
  | nil =>
    intro l2 _ _ h
    cases l2 with
    | nil => rfl
    | cons b l2 => exact absurd ((h b).2 (List.mem_cons_self ..)) (by simp)
  | cons a l1 ih =>
    intro l2 h1 h2 h
    cases l2 with
    | nil => exact absurd ((h a).1 (List.mem_cons_self ..)) (by simp)
    | cons b l2 =>
      rw [List.pairwise_cons] at h1 h2
      have hab : a = b := by
        rcases List.mem_cons.1 ((h a).1 (List.mem_cons_self ..)) with e | e
        · exact e
        · rcases List.mem_cons.1 ((h b).2 (List.mem_cons_self ..)) with e2 | e2
          · exact e2.symm
          · exact absurd (tr _ _ _ (h1.1 b e2) (h2.1 a e)) (irr a)
      subst hab
      congr 1
      refine ih l2 h1.2 h2.2 fun x => ⟨fun hx => ?_, fun hx => ?_⟩
      · rcases List.mem_cons.1 ((h x).1 (List.mem_cons_of_mem _ hx)) with e | e
        · subst e; exact absurd (h1.1 x hx) (irr x)
        · exact e
      · rcases List.mem_cons.1 ((h x).2 (List.mem_cons_of_mem _ hx)) with e | e
        · subst e; exact absurd (h2.1 x hx) (irr x)
        · exact e

theorem compact_sorted {α : Type} [Inhabited α] [DecidableEq α] (lt : α → α → Prop) (tr : ∀ a b c, lt a b → lt b c → lt a c) (d : Array α)
    (hs : ∀ i j, i < j → j < d.size → lt d[i]! d[j]! ∨ d[i]! = d[j]!) : ∀ m, m ≤ d.size → (compactUpTo d m).Pairwise lt ∧ ∀ x, x ∈ compactUpTo d m ↔ ∃ j, j < m ∧ d[j]! = x := by
  intro m
  induction m with
  | zero => intro _; simp [compactUpTo]
  | succ m ih =>
    intro hm
    obtain ⟨i1, i2⟩ := ih (by omega)
    rw [compactUpTo_succ]
    by_cases h0 : m = 0
    · subst h0
      simp [keeps, compactUpTo]
      exact fun x => eq_comm
    by_cases h : d[m]! = d[m - 1]!
    · rw [keeps_neg (by omega) h]
      simp only [Bool.false_eq_true, if_false, List.append_nil]
      refine ⟨i1, fun x => ?_⟩
      rw [i2]
      constructor
      · rintro ⟨j, hj, e⟩; exact ⟨j, by omega, e⟩
      · rintro ⟨j, hj, e⟩
        by_cases e2 : j = m
        · subst e2; exact ⟨j - 1, by omega, by rw [← e, h]⟩
        · exact ⟨j, by omega, e⟩
    · rw [keeps_pos h]
      simp only [if_true]
      refine ⟨?_, fun x => ?_⟩
      · rw [List.pairwise_append]
        refine ⟨i1, by simp, ?_⟩
        intro x hx y hy
        simp at hy
        subst hy
        obtain ⟨j, hj, e⟩ := (i2 x).1 hx
        subst e
        have hlast : lt d[m - 1]! d[m]! := (hs (m - 1) m (by omega) (by omega)).resolve_right (fun e => h e.symm)
        by_cases e3 : j = m - 1
        · subst e3; exact hlast
        · rcases hs j (m - 1) (by omega) (by omega) with e4 | e4
          · exact tr _ _ _ e4 hlast
          · rw [e4]; exact hlast
      · rw [List.mem_append, i2]
        simp only [List.mem_singleton]
        constructor
        · rintro (⟨j, hj, e⟩ | e)
          · exact ⟨j, by omega, e⟩
          · exact ⟨m, by omega, e.symm⟩
        · rintro ⟨j, hj, e⟩
          by_cases e2 : j = m
          · subst e2; exact .inr e.symm
          · exact .inl ⟨j, by omega, e⟩

/-- The order of sets. -/
def ltK (a b : Nat) : Prop := pc a < pc b ∨ pc a = pc b ∧ a < b
instance : DecidableRel ltK := fun a b => by unfold ltK; exact inferInstance
theorem ltK_irr (a : Nat) : ¬ ltK a a := by unfold ltK; omega
theorem ltK_tr (a b c : Nat) (h1 : ltK a b) (h2 : ltK b c) : ltK a c := by unfold ltK at *; omega
theorem ltK_total (a b : Nat) : ltK a b ∨ a = b ∨ ltK b a := by unfold ltK; omega
/-- x put into an ascending list, once. -/
def insK (x : Nat) : List Nat → List Nat
  | [] => [x]
  | y :: l => if ltK x y then x :: y :: l else if x = y then y :: l else y :: insK x l
/-- The sets of a list, sorted, each once. -/
def sortK : List Nat → List Nat
  | [] => []
  | x :: l => insK x (sortK l)
theorem mem_insK (x : Nat) (l : List Nat) (z : Nat) : z ∈ insK x l ↔ z = x ∨ z ∈ l := by
  induction l with
  | nil => simp [insK]
  | cons y l ih =>
    unfold insK
    split
    · simp
    · split
      · rename_i h; subst h; simp
      · simp [ih]; constructor <;> rintro (h | h | h) <;> simp [h]
theorem pair_insK (x : Nat) (l : List Nat) (h : l.Pairwise ltK) : (insK x l).Pairwise ltK := by
  induction l with
  | nil => simp [insK]
  | cons y l ih =>
    rw [List.pairwise_cons] at h
    unfold insK
    split
    · rename_i hx
      refine List.pairwise_cons.2 ⟨fun z hz => ?_, List.pairwise_cons.2 h⟩
      rcases List.mem_cons.1 hz with e | e
      · rw [e]; exact hx
      · exact ltK_tr _ _ _ hx (h.1 z e)
    · split
      · exact List.pairwise_cons.2 h
      · rename_i h1 h2
        refine List.pairwise_cons.2 ⟨fun z hz => ?_, ih h.2⟩
        rcases (mem_insK x l z).1 hz with e | e
        · rw [e]; rcases ltK_total x y with e2 | e2 | e2
          · exact absurd e2 h1
          · exact absurd e2 h2
          · exact e2
        · exact h.1 z e
theorem mem_sortK (l : List Nat) (z : Nat) : z ∈ sortK l ↔ z ∈ l := by
  induction l with
  | nil => simp [sortK]
  | cons x l ih => simp [sortK, mem_insK, ih]
theorem pair_sortK (l : List Nat) : (sortK l).Pairwise ltK := by
  induction l with
  | nil => simp [sortK]
  | cons x l ih => exact pair_insK x _ ih
theorem sortK_unique (l r : List Nat) (h : r.Pairwise ltK) (hm : ∀ x, x ∈ r ↔ x ∈ l) : r = sortK l :=
  pair_unique ltK ltK_irr ltK_tr r (sortK l) h (pair_sortK l) fun x => by rw [hm, mem_sortK]
theorem sortK_congr (l r : List Nat) (hm : ∀ x, x ∈ r ↔ x ∈ l) : sortK r = sortK l :=
  sortK_unique l (sortK r) (pair_sortK r) fun x => by rw [mem_sortK, hm]
theorem len_insK (x : Nat) (l : List Nat) : (insK x l).length ≤ l.length + 1 := by
  induction l with
  | nil => simp [insK]
  | cons y l ih =>
    unfold insK
    split
    · simp
    · split
      · simp
      · simp; omega
theorem len_sortK (l : List Nat) : (sortK l).length ≤ l.length := by
  induction l with
  | nil => simp [sortK]
  | cons x l ih => have := len_insK x (sortK l); simp [sortK]; omega
end Go.Proofs.Ytapniojbnochiaa

/-
  Walks: slices.Clone, SortFunc, Compact in the words of B0; family.sorted.
-/
namespace Go.Proofs.Ytapniojbnochiaa
open Go.RowKit Go.Lib Go.Sort Go.Shelf

theorem clone_any (v : Value) (xs : List Int) (w : World) (hv : IntsAt w v xs) (hl : xs.length ≤ 17592186044416) :
    Calls Try.prog 108 #[v] w fun e w' => ∃ v', e = .returned v' ∧ OwnInts w' w.heap.size v' xs ∧ Kept w w' := by
  obtain ⟨a, c, rfl, ⟨hc, _⟩, hl2, hx⟩ := hv
  cases a with
  | none =>
    have h0 : xs = [] := by
      cases xs with
      | nil => rfl
      | cons x xs => obtain ⟨b, o, h, _⟩ := hx 0 (by simp); cases h
    subst h0
    exact (Go.Proofs.Try.slices_Clone_int_nil _ _ _).mono fun e w' ⟨h1, h2⟩ => ⟨_, h1, by subst h2; exact OwnInts.nil _ _, by subst h2; exact Kept.refl _⟩
  | some a =>
    by_cases h0 : xs = []
    · subst h0
      exact (Go.Proofs.Try.slices_Clone_int_zero a c w).mono fun e w' ⟨v', h1, h2, _, h3⟩ => ⟨v', h1, ⟨by simpa using h2, by simp⟩, h3⟩
    · obtain ⟨b, o, h1, _⟩ := hx 0 (List.length_pos_iff.2 h0)
      cases h1
      refine (Go.Proofs.Try.slices_Clone_int b o xs.length c xs w (Nat.le_refl _) (by omega) ?_).mono fun e w' ⟨v', h1, h2, _, h3⟩ => ⟨v', h1, ⟨by simpa using h2, hl2⟩, h3⟩
      intro j hj
      obtain ⟨b', o', h2, h3⟩ := hx j hj
      cases h2
      rw [h3]; simp [hj]

/-- Numbers as ints. -/
abbrev ofN (ns : List Nat) : List Int := ns.map fun n : Nat => (n : Int)

/-- Masks as a type of their own. -/
abbrev MkT := Fin 16777216
def encM (n : MkT) : Value := .int .i64 (n.val : Int)
def cfM (a b : MkT) : Int := cmpK a.val b.val
theorem ltM (a b : MkT) : ltOf cfM a b = decide (ltK a.val b.val) := by
  unfold ltOf cfM cmpK ltK
  by_cases h1 : pc a.val < pc b.val
  · simp [h1]
  · by_cases h2 : pc b.val < pc a.val
    · have : ¬ pc a.val = pc b.val := by omega
      simp [h1, h2, this]
    · have : pc a.val = pc b.val := by omega
      by_cases h3 : a.val < b.val
      · simp [this, h3]
      · by_cases h4 : b.val < a.val <;> simp [this, h3, h4]
theorem swoM : SWO (ltOf cfM) where
  irrefl x := by rw [ltM]; simp [ltK_irr]
  trans x y z h1 h2 := by rw [ltM] at *; simp at *; exact ltK_tr _ _ _ h1 h2
  ntrans x y z h1 h2 := by rw [ltM] at *; simp at *; unfold ltK at *; omega
theorem totM (x y : MkT) (h1 : ltOf cfM x y = false) (h2 : ltOf cfM y x = false) : x = y := by
  rw [ltM] at *
  simp at *
  rcases ltK_total x.val y.val with h | h | h
  · exact absurd h h1
  · exact Fin.ext h
  · exact absurd h h2
theorem cmpLays (blk off size : Nat) (w : World) : CmpLays1 Try.prog 69 #[] encM cfM blk off size w := by
  refine CmpReads.lays fun m os dk _ x y => ?_
  exact (compare_any (show Mk x.val from x.isLt) (show Mk y.val from y.isLt) _).mono fun e w' ⟨h1, h2⟩ => ⟨h1, 0, by subst h2; rfl⟩

theorem heap_lt {w : World} {g : Nat} {o : Obj} (h : w.heap[g]? = some o) : g < w.heap.size := by
  rcases Nat.lt_or_ge g w.heap.size with h1 | h1
  · exact h1
  · simp [Array.getElem?_eq_none h1] at h
theorem heap_putRow {α : Type} [Inhabited α] (enc : α → Value) (w : World) (q g off : Nat) (d : Array α) {cur : Array Value} {e : TypeId} {fr : Nat × Nat} (h : w.heap[g]? = some (.cells cur e fr)) :
    (putRow enc (Sort.ahead w q) g off d).heap[g]? = some (.cells (putCells enc off d cur) e fr) := by
  show (w.heap.modify g (onCells (putCells enc off d)))[g]? = _
  simp [Array.getElem?_modify, h, onCells]
theorem heap_putRow_ne {α : Type} [Inhabited α] (enc : α → Value) (w : World) (q g off k : Nat) (d : Array α) (hk : k ≠ g) : (putRow enc (Sort.ahead w q) g off d).heap[k]? = w.heap[k]? := by
  show (w.heap.modify g (onCells (putCells enc off d)))[k]? = _
  simp [Array.getElem?_modify, Ne.symm hk]
theorem putCells_take {α : Type} [Inhabited α] (enc : α → Value) (d : Array α) (cur : Array Value) (n : Nat) (hd : d.size = n) (hc : n ≤ cur.size) :
    (putCells enc 0 d cur).size = cur.size ∧ (putCells enc 0 d cur).toList.take n = d.toList.map enc := by
  refine ⟨by simp [putCells], ?_⟩
  apply List.ext_getElem?
  intro i
  simp only [putCells, Array.toList_mapIdx, List.getElem?_take, List.getElem?_mapIdx, List.getElem?_map]
  by_cases h : i < n
  · have h1 : i < cur.toList.length := by simpa using (by omega : i < cur.size)
    have h2 : i < d.size := by omega
    rw [if_pos h, List.getElem?_eq_getElem h1]
    simp [h2, getElem!_pos, Nat.zero_add]
  · rw [if_neg h, List.getElem?_eq_none (by simp; omega)]; rfl

theorem sort_any (B : Nat) (v : Value) (ns : List Nat) (w : World) (hm : ∀ n ∈ ns, Mk n) (hv : OwnInts w B v (ofN ns)) (hB : B ≤ w.heap.size) :
    Calls Try.prog 68 #[v, .func (.func 69) #[] #[]] w fun e w' => e = .returned (.tuple #[]) ∧ ∃ rs : List Nat, (∀ n ∈ rs, Mk n) ∧ rs.length = ns.length ∧ rs.Pairwise (fun a b => ltK a b ∨ a = b) ∧ (∀ x, x ∈ rs ↔ x ∈ ns) ∧ OwnInts w' B v (ofN rs) ∧ Below B w w' := by
  obtain ⟨hv1, hv2⟩ := hv
  by_cases h0 : ns = []
  · subst h0
    have hv3 := hv1
    obtain ⟨_, h2⟩ := hv1
    have : ∃ p c, v = .slice p 0 c := by
      rcases h2 with ⟨h2, _⟩ | ⟨g, cap, cur, h2, _⟩
      · exact ⟨_, _, h2⟩
      · exact ⟨_, cap, by simpa using h2⟩
    obtain ⟨p, c, rfl⟩ := this
    exact (Go.Proofs.Try.slices_SortFunc_none (α := Nat) p c _ w).mono fun e w' ⟨h3, h4⟩ => ⟨h3, [], by simp, by simp, by simp, by simp, by subst h4; exact ⟨hv3, by simp⟩, by subst h4; exact Below.refl _ _⟩
  · obtain ⟨h1, h2⟩ := hv1
    rcases h2 with ⟨_, h2⟩ | ⟨g, cap, cur, rfl, hg, hh, hn, hcap, hsz, htk⟩
    · simp at h2; exact absurd h2 h0
    · obtain ⟨ds, hds⟩ : ∃ ds : List MkT, ds.map (fun n => n.val) = ns := ⟨ns.pmap (fun n (h : Mk n) => (⟨n, h⟩ : MkT)) hm, by rw [List.map_pmap]; simp⟩
      have hlen : ds.length = ns.length := by rw [← hds]; simp
      have hH : Holds encM w g 0 ds.toArray := by
        intro j hj
        have hj' : j < ns.length := by rw [← hlen]; simpa using hj
        refine ⟨?_, by simp [World.frozen?, hh]⟩
        have e1 : (cur.toList.take ((ofN ns).length * 1))[j]? = ((ofN ns).map (Value.int .i64))[j]? := by rw [htk]
        rw [List.getElem?_take_of_lt (by simpa using hj')] at e1
        simp only [World.cell?, hh, Nat.zero_add]
        rw [show cur[j]? = cur.toList[j]? from by simp]
        simp only [Option.isSome_none, Bool.false_eq_true, if_false]
        rw [e1]
        have hjd : j < ds.length := by simpa using hj
        have e2 : ns[j]? = some (ds[j].val) := by rw [← hds]; simp [hjd]
        have e3 : ns[j] = ds[j].val := by rw [List.getElem?_eq_getElem hj'] at e2; exact Option.some.inj e2
        simp [hj', encM, e3, getElem!_pos, hjd]
      have hS := Go.Proofs.Try.slices_SortFunc_total encM (fun _ => rfl) cfM swoM 69 #[] g 0 cap ds.toArray w (enters_of Try.func69 (by kernel_rfl) rfl) (cmpLays g 0 _ w) hH (heap_lt hh) (by simp at hv2 ⊢; omega) totM
      have el : (ofN ns).length = ds.toArray.size := by simp [hlen]
      rw [el]
      refine hS.mono fun e w' ⟨h3, n, os, h4⟩ => ⟨h3, ?_⟩
      clear hS h3
      obtain ⟨ms, hms⟩ : ∃ ms, ms = ds.toArray.toList.mergeSort fun x y => !(ltOf cfM) y x := ⟨_, rfl⟩
      rw [← hms] at h4
      have hperm : ms.Perm ds := by rw [hms]; simpa using List.mergeSort_perm ds _
      have hsorted : ms.Pairwise fun a b => (!(ltOf cfM) b a) = true := by
        rw [hms]
        refine List.pairwise_mergeSort (fun a b c h1 h2 => ?_) (fun a b => ?_) _
        · rw [ltM] at *; simp at *; unfold ltK at *; omega
        · rw [ltM, ltM]; simp; unfold ltK; omega
      have hml : ms.length = ds.length := hperm.length_eq
      refine ⟨ms.map (fun n => n.val), ?_, by simp [hml, hlen], ?_, ?_, ?_, ?_⟩
      · intro n hn; obtain ⟨m, _, rfl⟩ := List.mem_map.1 hn; exact m.isLt
      · rw [List.pairwise_map]
        refine hsorted.imp fun h => ?_
        rw [ltM] at h; simp at h
        rcases ltK_total _ _ with h5 | h5 | h5
        · exact .inl h5
        · exact .inr h5
        · exact absurd h5 h
      · intro x; rw [← hds]; simp [hperm.mem_iff]
      · subst h4
        have hg1 := heap_putRow encM w n g 0 ms.toArray hh
        have hps := putCells_take encM ms.toArray cur ms.length (by simp) (by rw [hsz]; simp at hn; omega)
        refine ⟨⟨by simp, .inr ⟨g, cap, putCells encM 0 ms.toArray cur, by simp [hml], hg, ?_, by simp at hn ⊢; omega, hcap, by rw [hps.1]; exact hsz, ?_⟩⟩, by simp at hv2 ⊢; omega⟩
        · rw [sortWorld, heap_grow_old _ _ (heap_lt hg1)]; exact hg1
        · have := hps.2
          simp only [List.length_map, Nat.mul_one]
          rw [this]; simp [encM]
      · subst h4
        refine ⟨rfl, rfl, rfl, ?_, fun k hk => ?_⟩
        · show w.heap.size ≤ ((w.heap.modify g _) ++ os).size
          simp
        · have hkg : k ≠ g := by omega
          rw [sortWorld, heap_grow_old _ _ (by show k < (w.heap.modify g _).size; simp; omega)]
          exact heap_putRow_ne encM w n g 0 k _ hkg
end Go.Proofs.Ytapniojbnochiaa

/-
  Walks: slices.Compact of a sorted row; family.sorted, minimal on masks.
-/
namespace Go.Proofs.Ytapniojbnochiaa
open Go.RowKit Go.Lib Go.Sort Go.Shelf

theorem compact_ofN (rs : List Nat) (hr : rs.Pairwise (fun a b => ltK a b ∨ a = b)) : Lib.compact (ofN rs) = ofN (sortK rs) := by
  have h := compact_sorted (α := Int) (fun a b => ltK a.toNat b.toNat) (fun a b c h1 h2 => ltK_tr _ _ _ h1 h2) (ofN rs).toArray (by
    intro i j hij hj
    have hj' : j < rs.length := by simpa using hj
    have hi' : i < rs.length := by omega
    have := List.pairwise_iff_getElem.1 hr i j hi' hj' hij
    simp only [ofN, List.getElem!_toArray, List.getElem!_eq_getElem?_getD, List.getElem?_map, List.getElem?_eq_getElem hj', List.getElem?_eq_getElem hi', Option.map_some, Option.getD_some, Int.toNat_natCast]
    rcases this with h | h
    · exact .inl h
    · exact .inr (by rw [h])) (ofN rs).length (by simp)
  show compactUpTo (ofN rs).toArray (ofN rs).length = _
  refine pair_unique (fun a b : Int => ltK a.toNat b.toNat) (fun a => ltK_irr _) (fun a b c h1 h2 => ltK_tr _ _ _ h1 h2) _ _ h.1 ?_ ?_
  · rw [List.pairwise_map]; simpa using pair_sortK rs
  · intro x
    rw [h.2]
    simp only [List.mem_map, mem_sortK]
    constructor
    · rintro ⟨j, hj, e⟩
      have hj' : j < rs.length := by simpa using hj
      refine ⟨rs[j], List.getElem_mem _, ?_⟩
      rw [← e]
      simp [hj']
    · rintro ⟨n, hn, rfl⟩
      obtain ⟨j, hj, e⟩ := List.getElem_of_mem hn
      exact ⟨j, by simpa using hj, by simp [hj, e]⟩

theorem compact_any (B : Nat) (v : Value) (ns : List Nat) (w : World) (hr : ns.Pairwise (fun a b => ltK a b ∨ a = b)) (hv : OwnInts w B v (ofN ns)) (hB : B ≤ w.heap.size) :
    Calls Try.prog 109 #[v] w fun e w' => ∃ v', e = .returned v' ∧ OwnInts w' B v' (ofN (sortK ns)) ∧ Below B w w' := by
  obtain ⟨hv1, hv2⟩ := hv
  by_cases h0 : ns = []
  · subst h0
    have hv3 := hv1
    obtain ⟨_, h2⟩ := hv1
    have : ∃ p c, v = .slice p 0 c := by
      rcases h2 with ⟨h2, _⟩ | ⟨g, cap, cur, h2, _⟩
      · exact ⟨_, _, h2⟩
      · exact ⟨_, cap, by simpa using h2⟩
    obtain ⟨p, c, rfl⟩ := this
    exact (Go.Proofs.Try.slices_Compact_int_empty p c w).mono fun e w' ⟨h3, h4⟩ => ⟨_, h3, by subst h4; exact ⟨hv3, by simp [sortK]⟩, by subst h4; exact Below.refl _ _⟩
  · obtain ⟨h1, h2⟩ := hv1
    rcases h2 with ⟨_, h2⟩ | ⟨g, cap, cur, rfl, hg, hh, hn, hcap, hsz, htk⟩
    · simp at h2; exact absurd h2 h0
    · have hH : Holds (Value.int .i64) w g 0 (ofN ns).toArray := by
        intro j hj
        have hj' : j < ns.length := by simpa using hj
        refine ⟨?_, by simp [World.frozen?, hh]⟩
        have e1 : (cur.toList.take ((ofN ns).length * 1))[j]? = ((ofN ns).map (Value.int .i64))[j]? := by rw [htk]
        rw [List.getElem?_take_of_lt (by simpa using hj')] at e1
        simp only [World.cell?, hh, Nat.zero_add]
        rw [show cur[j]? = cur.toList[j]? from by simp]
        simp only [Option.isSome_none, Bool.false_eq_true, if_false]
        rw [e1]
        simp [hj']
      have hS := Go.Proofs.Try.slices_Compact_int g 0 cap (ofN ns) w hH (by omega) hn
      refine hS.mono fun e w' ⟨h3, q, h4⟩ => ⟨_, h3, ?_, ?_⟩
      · clear hS h3
        subst h4
        have hlen := compact_length_le (ofN ns)
        obtain ⟨zs, hzs⟩ : ∃ zs, zs = (Lib.compact (ofN ns) ++ List.replicate ((ofN ns).length - (Lib.compact (ofN ns)).length) 0).toArray := ⟨_, rfl⟩
        rw [← hzs]
        have hzl : zs.size = (ofN ns).length := by rw [hzs]; simp at hlen ⊢; omega
        have hg1 := heap_putRow (Value.int .i64) w q g 0 zs hh
        have hps := putCells_take (Value.int .i64) zs cur (ofN ns).length hzl (by rw [hsz]; omega)
        rw [compact_ofN ns hr] at hzs hlen ⊢
        refine ⟨⟨by simp, .inr ⟨g, cap, putCells (Value.int .i64) 0 zs cur, rfl, hg, hg1, by omega, hcap, by rw [hps.1]; exact hsz, ?_⟩⟩, by omega⟩
        have e2 := congrArg (List.take (ofN (sortK ns)).length) hps.2
        rw [List.take_take, Nat.min_eq_left hlen] at e2
        rw [Nat.mul_one, e2, hzs]
        simp
      · subst h4
        refine ⟨rfl, rfl, rfl, ?_, fun k hk => heap_putRow_ne _ w q g 0 k _ (by omega)⟩
        show w.heap.size ≤ (w.heap.modify g _).size
        simp

set_option maxHeartbeats 400000 in
theorem sorted_any (v : Value) (ns : List Nat) (w : World) (hm : ∀ n ∈ ns, Mk n) (hv : IntsAt w v (ofN ns)) (hl : ns.length ≤ 17592186044416) :
    Calls Try.prog 79 #[v] w fun e w' => ∃ v', e = .returned v' ∧ OwnInts w' w.heap.size v' (ofN (sortK ns)) ∧ Kept w w' := by
  have H1 := Lib.hid (clone_any v _ w hv (by simpa using hl))
  have HM := Lib.hid hm
  clear hv hm hl
  go_enter Try.func79, Try.ntmps79
  go_wp2_with (first
    | (go_at_call 108; refine H1.out.mono ?_; rintro e w1 ⟨v1, rfl, ho1, hk1⟩; have hs1 := hk1.size; have O1 := Lib.hid ho1; clear ho1)
    | (go_at_call 68; refine (sort_any w.heap.size v1 ns w1 HM.out O1.out hs1).mono ?_; rintro e w2 ⟨rfl, rs, hr1, hr2, hr3, hr4, ho2, hb2⟩; have O2 := Lib.hid ho2; have R3 := Lib.hid hr3; have R4 := Lib.hid hr4; clear ho2 hr1 hr2 hr3 hr4)
    | (go_at_call 109; refine (compact_any w.heap.size v1 rs w2 R3.out O2.out (Nat.le_trans hs1 hb2.size)).mono ?_; rintro e w3 ⟨v3, rfl, ho3, hb3⟩))
  go_ret
  refine ⟨_, rfl, ?_, (hk1.app hb2).app hb3⟩
  have e : sortK rs = sortK ns := sortK_congr ns rs R4.out
  rw [e] at ho3
  exact ho3

/-- a is a part of b. -/
def subN (a b : Nat) : Bool := sdiff a b == 0
theorem subB_subN {a b : Nat} (ha : Mk a) (hb : Mk b) : subB (a : Int) (b : Int) = subN a b := by
  unfold subB subN
  rw [cut_mk ha, andNot_i64 a b (by unfold Mk at ha; omega) (by unfold Mk at hb; omega)]
  rw [Bool.eq_iff_iff]; simp
def keepN (out : List Nat) (s : Nat) : List Nat := if out.any (fun t => subN t s) then out else out ++ [s]
def minN (l : List Nat) : List Nat := l.foldl keepN []
theorem mem_minN (l : List Nat) : ∀ out x, x ∈ l.foldl keepN out → x ∈ out ∨ x ∈ l := by
  induction l with
  | nil => intro out x h; exact .inl h
  | cons s l ih =>
    intro out x h
    rcases ih _ x h with h | h
    · unfold keepN at h
      split at h
      · exact .inl h
      · rcases List.mem_append.1 h with h | h
        · exact .inl h
        · simp at h; subst h; exact .inr (List.mem_cons_self ..)
    · exact .inr (List.mem_cons_of_mem _ h)
theorem minOf_ofN (l : List Nat) (hl : ∀ n ∈ l, Mk n) : minOf (ofN l) = ofN (minN l) := by
  have key : ∀ (l : List Nat) (out : List Nat), (∀ n ∈ l, Mk n) → (∀ n ∈ out, Mk n) → (ofN l).foldl keepMin (ofN out) = ofN (l.foldl keepN out) := by
    intro l
    induction l with
    | nil => intro out _ _; rfl
    | cons s l ih =>
      intro out h1 h2
      have hs : Mk s := h1 s (List.mem_cons_self ..)
      have e : keepMin (ofN out) (s : Int) = ofN (keepN out s) := by
        unfold keepMin keepN
        have e1 : (ofN out).any (fun t => subB t s) = out.any (fun t => subN t s) := by
          rw [List.any_map]
          rw [Bool.eq_iff_iff, List.any_eq_true, List.any_eq_true]
          constructor
          · rintro ⟨x, hx, h⟩; exact ⟨x, hx, by rw [← subB_subN (h2 x hx) hs]; exact h⟩
          · rintro ⟨x, hx, h⟩; exact ⟨x, hx, by simp only [Function.comp]; rw [subB_subN (h2 x hx) hs]; exact h⟩
        rw [e1]
        split
        · rfl
        · simp
      have h3 := ih (keepN out s) (fun n hn => h1 n (List.mem_cons_of_mem _ hn)) (fun n hn => by
        unfold keepN at hn
        split at hn
        · exact h2 n hn
        · rcases List.mem_append.1 hn with h | h
          · exact h2 n h
          · simp at h; subst h; exact hs)
      show (ofN l).foldl keepMin (keepMin (ofN out) (s : Int)) = _
      rw [e, h3]; rfl
  exact key l [] hl (by simp)
/-- The minimal sets of a list, sorted. -/
def minK (l : List Nat) : List Nat := minN (sortK l)
theorem mem_minK {l : List Nat} {x : Nat} (h : x ∈ minK l) : x ∈ l := by
  rcases mem_minN _ _ _ h with h | h
  · simp at h
  · exact (mem_sortK _ _).1 h
theorem minK_congr (l r : List Nat) (hm : ∀ x, x ∈ r ↔ x ∈ l) : minK r = minK l := by unfold minK; rw [sortK_congr l r hm]
theorem len_minN (l : List Nat) : ∀ out, (l.foldl keepN out).length ≤ out.length + l.length := by
  induction l with
  | nil => intro out; simp
  | cons s l ih =>
    intro out
    refine Nat.le_trans (ih _) ?_
    unfold keepN
    split <;> simp <;> omega
theorem len_minK (l : List Nat) : (minK l).length ≤ l.length := by
  have h1 := len_minN (sortK l) []
  have h2 := len_sortK l
  simp at h1
  unfold minK minN; omega
theorem minimalK_any (v : Value) (ns : List Nat) (w : World) (hm : ∀ n ∈ ns, Mk n) (hv : IntsAt w v (ofN ns)) (hl : ns.length ≤ 8796093022208) :
    Calls Try.prog 66 #[v] w fun e w' => ∃ v', e = .returned v' ∧ OwnInts w' w.heap.size v' (ofN (minK ns)) ∧ Kept w w' := by
  have hlen := len_sortK ns
  refine (minimal_any v w (ofN (sortK ns)) (by simp; omega) ?_).mono fun e w' ⟨v', h1, h2, h3⟩ => ⟨v', h1, ?_, h3⟩
  · exact (sorted_any v ns w hm hv (by omega)).mono fun e w' ⟨v', h1, h2, h3⟩ => ⟨v', h1, h2.ints, h3⟩
  · rw [minOf_ofN _ fun n hn => hm n ((mem_sortK _ _).1 hn)] at h2
    exact h2
end Go.Proofs.Ytapniojbnochiaa

/-
  Walks: family.lists; slices.Grow of nil, Concat; family.sized, Plus.
-/
namespace Go.Proofs.Ytapniojbnochiaa
open Go.RowKit

theorem rows_one {w : World} {va : Value} {xs : List Int} (ha : IntsAt w va xs) : RowsAt IntsAt (w.alloc (.cells #[va] 27)) (.slice (some ⟨w.heap.size, 0, none⟩) 1 1) [xs] :=
  ⟨_, _, rfl, ⟨by simp, fun h => by cases h⟩, by simp, fun i h => ⟨_, _, va, rfl, by match i, h with | 0, _ => simp, by match i, h with | 0, _ => exact ha.kept ((Kept.refl _).alloc _)⟩⟩
theorem rows_two {w : World} {va vb : Value} {xs ys : List Int} (ha : IntsAt w va xs) (hb : IntsAt w vb ys) : RowsAt IntsAt (w.alloc (.cells #[va, vb] 27)) (.slice (some ⟨w.heap.size, 0, none⟩) 2 2) [xs, ys] :=
  ⟨_, _, rfl, ⟨by simp, fun h => by cases h⟩, by simp, fun i h => by
    match i, h with
    | 0, _ => exact ⟨_, _, va, rfl, by simp, ha.kept ((Kept.refl _).alloc _)⟩
    | 1, _ => exact ⟨_, _, vb, rfl, by simp, hb.kept ((Kept.refl _).alloc _)⟩⟩

theorem valid_yes {s : Int} (h : 0 ≤ s ∧ s ≤ 16777215) (w : World) : Calls Try.prog 65 #[.int .i64 s] w fun e w' => e = .returned (.bool true) ∧ w = w' := by
  have := valid_any s w
  rwa [decide_eq_true h] at this
def listsC (xss : List (List Int)) : Nat := if xss.all (fun xs => decide (xs.length ≤ 1024)) then 0 else 4
set_option maxHeartbeats 1000000 in
theorem lists_any (v : Value) (xss : List (List Int)) (w : World) (hv : RowsAt IntsAt w v xss) (hx : ∀ xs ∈ xss, ∀ x ∈ xs, 0 ≤ x ∧ x ≤ 16777215) :
    Calls Try.prog 64 #[v] w fun e w' => e = .returned (errV (listsC xss)) ∧ Kept w w' := by
  obtain ⟨a, c, rfl, ⟨hc, _⟩, hl, hrow⟩ := hv
  obtain ⟨n, hn⟩ : ∃ n, n = xss.length := ⟨_, rfl⟩
  rw [← hn]
  have hn9 : n ≤ 140737488355328 := by omega
  have HX := Lib.hid hx
  have HR := Lib.hid hrow
  have HN := Lib.hid hn
  clear hx hrow hn hc hl
  go_enter Try.func64, Try.ntmps64
  go_wp2
  go_loopw [4, 6, 9, 19] (fun _ _ i _ wr => ∃ k : Nat, k ≤ n ∧ i = .int .i64 k ∧ Hid (∀ xs ∈ xss.take k, xs.length ≤ 1024) ∧ Kept w wr) (fun _ _ i _ _ => n - (intOf i).toNat)
  case atStart => exact ⟨0, Nat.zero_le _, rfl, Lib.hid (by simp), Kept.refl _⟩
  case round =>
    obtain ⟨k, hk, rfl, HF, hK⟩ := hrel
    by_cases hlt : k < n
    · have hkx : k < xss.length := by have := HN.out; omega
      obtain ⟨b, o, u, rfl, hc0, hI⟩ := HR.out k hkx
      have hcell := hK.cell hc0
      have hI2 := hI.kept hK
      obtain ⟨xs, hxs⟩ : ∃ x, x = xss[k] := ⟨_, rfl⟩
      rw [← hxs] at hI hI2
      have hval := HX.out xs (by rw [hxs]; exact List.getElem_mem _)
      obtain ⟨ax, cx, rfl, _, hlx, hcx⟩ := hI
      obtain ⟨m, hm⟩ : ∃ m, m = xs.length := ⟨_, rfl⟩
      rw [← hm] at hcell
      have hm9 : m ≤ 140737488355328 := by omega
      have HV := Lib.hid hval
      have HCX := Lib.hid hcx
      have HM := Lib.hid hm
      have HXS := Lib.hid hxs
      clear hc0 hval hcx hm hxs hI2 hlx
      by_cases hlen : m ≤ 1024
      · go_wp2
        obtain ⟨wo, hwo⟩ : ∃ wo : World, wo = wr := ⟨_, rfl⟩
        rw [← hwo] at hK
        go_loopw [6, 19] (fun _ j wi => ∃ q : Nat, q ≤ m ∧ j = .int .i64 q ∧ Kept w wi) (fun _ j _ => m - (intOf j).toNat)
        case atStart => exact ⟨0, Nat.zero_le _, rfl, by rw [← hwo]; exact hK⟩
        case round =>
          obtain ⟨q, hq, rfl, hK2⟩ := hrel
          by_cases hqm : q < m
          · have hqx : q < xs.length := by have := HM.out; omega
            obtain ⟨b2, o2, rfl, hc2⟩ := HCX.out q hqx
            have hcell2 := hK2.cell hc2
            obtain ⟨s, hs⟩ : ∃ s, s = xs[q] := ⟨_, rfl⟩
            rw [← hs] at hcell2
            have hsv : 0 ≤ s ∧ s ≤ 16777215 := HV.out s (by rw [hs]; exact List.getElem_mem _)
            have HSV := Lib.hid hsv
            clear hc2 hs hsv
            go_wp2_with (go_at_call 65; refine (valid_yes HSV.out _).mono ?_; rintro e w' ⟨rfl, rfl⟩)
            go_roundw
            case rel => exact ⟨q + 1, by omega, by go_num, hK2⟩
            case measure => simp [intOf]; omega
          · go_wp2
            go_roundw
            case rel =>
              refine ⟨k + 1, by omega, by go_num, Lib.hid ?_, hK2⟩
              intro ys hy
              rw [List.take_succ_eq_append_getElem hkx] at hy
              rcases List.mem_append.1 hy with hy | hy
              · exact HF.out ys hy
              · simp at hy; rw [hy, ← HXS.out, ← HM.out]; exact hlen
            case measure => simp [intOf]; omega
      · go_wp2
        go_ret
        refine ⟨?_, hK⟩
        have : listsC xss = 4 := by
          unfold listsC
          rw [if_neg]
          intro h
          have := List.all_eq_true.1 h xs (by rw [HXS.out]; exact List.getElem_mem _)
          simp at this; have := HM.out; omega
        rw [this]; rfl
    · go_wp2
      go_ret
      refine ⟨?_, hK⟩
      have hh := HF.out
      rw [List.take_of_length_le (by have := HN.out; omega)] at hh
      have : listsC xss = 0 := by
        unfold listsC
        rw [if_pos]
        rw [List.all_eq_true]
        intro ys hy; exact decide_eq_true (hh ys hy)
      rw [this]; rfl

set_option maxHeartbeats 1000000 in
theorem grow_zero (w : World) : Calls Try.prog 118 #[.slice none 0 0, .int .i64 0] w fun e w' => e = .returned (.slice none 0 0) ∧ w = w' := by
  go_enter Try.func118, Try.ntmps118
  go_wp2
  go_ret
  exact ⟨rfl, rfl⟩
set_option maxHeartbeats 1000000 in
theorem grow_some (n : Nat) (h0 : 0 < n) (hn : n ≤ 17592186044416) (w : World) : Calls Try.prog 118 #[.slice none 0 0, .int .i64 n] w fun e w' => ∃ v, e = .returned v ∧ OwnInts w' w.heap.size v [] ∧ Kept w w' := by
  obtain ⟨i0, hi0, hz0, hz1, hz2⟩ := info_parts info_int
  have h1 : ¬ ((n : Int) < 0) := by omega
  have h3 : wrap64 ((n : Int) - ((0 : Int) - (0 : Int))) = n := by unfold wrap64; omega
  have h4 : (n : Int) > 0 := by omega
  have hold : (Builtin.firstCells i0.size 0 (.slice none 0 0)).run Try.prog w.drew = .ok (([] : List Value).toArray) w.drew := run_firstCells_none w.drew i0.size 0 0 0
  have hrz : ∀ ty, (Builtin.append_ #[27, 3] ty #[.slice none 0 0, .int .i64 (n : Int)]).run Try.prog w =
      .ok (.slice (some ⟨w.heap.size, 0, none⟩) n (grownCap w n 0 3)) (w.drew.alloc (.cells (([] : List Value).toArray ++ Builtin.zeroCells (Value.int .i64 0).cells n ++ Builtin.zeroCells (Value.int .i64 0).cells (grownCap w n 0 3 - n)) 3)) := fun ty => by
    have h := Lib.run_append_grow_zeros (P := Try.prog) w 27 3 ty 3 i0 _ .i64 .i64 Try.underlying27 Try.underlying3 hi0 hz0 none 0 0 [] hold n h0 (by omega) (by omega) (by omega)
      (by rw [hz2]; omega) (growslice_fits (by omega) (by rw [hz2]; omega))
    simpa using h
  have hGn : n ≤ grownCap w n 0 3 := grownCap_ge w _ _ _
  obtain ⟨G, hG⟩ : ∃ G, G = grownCap w n 0 3 := ⟨_, rfl⟩
  rw [← hG] at hrz hGn
  have hG63 : G ≤ 9223372036854775807 := by
    have := grownCap_le_maxLen w n 0 3 (by unfold maxLen; omega)
    rw [← hG] at this
    unfold maxLen at this
    omega
  clear hold hG
  obtain ⟨cur, hcur⟩ : ∃ cur, cur = (([] : List Value).toArray ++ Builtin.zeroCells (Value.int .i64 0).cells n ++ Builtin.zeroCells (Value.int .i64 0).cells (G - n)) := ⟨_, rfl⟩
  rw [← hcur] at hrz
  have hsz : cur.size = G := by rw [hcur]; simp [Builtin.zeroCells, Value.cells]; omega
  have HC := Lib.hid hsz
  clear hcur hsz
  go_enter Try.func118, Try.ntmps118
  go_wp2_with (at_builtin; refine Lib.wpList_append_run _ rfl _ _ _ _ rfl _ _ rfl rfl _ _ (hrz _) ?_)
  all_goals
    go_ret
    refine ⟨_, rfl, ⟨?_, by simp⟩, ((Kept.refl _).drew).alloc _⟩
    exact World.ownsRow_made w.drew cur G (base := w.heap.size) (e := 3) (size := 1) (Nat.le_refl _) hG63 (by rw [HC.out]; omega)
set_option maxHeartbeats 1000000 in
theorem concat_any (v : Value) (xss : List (List Int)) (w : World) (hv : RowsAt IntsAt w v xss) (hlen : xss.flatten.length ≤ 17592186044416) :
    Calls Try.prog 86 #[v] w fun e w' => ∃ v', e = .returned v' ∧ OwnInts w' w.heap.size v' xss.flatten ∧ Kept w w' := by
  obtain ⟨a, c, rfl, ⟨hc, _⟩, hl, hrow⟩ := hv
  obtain ⟨n, hn⟩ : ∃ n, n = xss.length := ⟨_, rfl⟩
  rw [← hn]
  have hn9 : n ≤ 140737488355328 := by omega
  have hsum : ∀ k, (xss.take k).flatten.length ≤ xss.flatten.length := fun k => by
    have h1 := List.take_append_drop k xss
    have h2 : xss.flatten.length = (xss.take k).flatten.length + (xss.drop k).flatten.length := by rw [← List.length_append, ← List.flatten_append, h1]
    omega
  have hstep : ∀ k (h : k < xss.length), (xss.take (k + 1)).flatten = (xss.take k).flatten ++ xss[k] := fun k h => by
    rw [List.take_succ_eq_append_getElem h, List.flatten_append]; simp
  have HR := Lib.hid hrow
  have HN := Lib.hid hn
  have HS := Lib.hid hsum
  have HT := Lib.hid hstep
  have HL := Lib.hid hlen
  clear hrow hn hc hl hsum hstep hlen
  go_enter Try.func86, Try.ntmps86
  go_wp2
  go_loopw [3, 5, 11] (fun s _ i wr => ∃ k : Nat, k ≤ n ∧ i = .int .i64 k ∧ s = .int .i64 ((xss.take k).flatten.length : Nat) ∧ Kept w wr) (fun _ _ i _ => n - (intOf i).toNat)
  case atStart => exact ⟨0, Nat.zero_le _, rfl, rfl, Kept.refl _⟩
  case round =>
    obtain ⟨k, hk, rfl, rfl, hK⟩ := hrel
    have hb := HS.out k
    have hb2 := HL.out
    obtain ⟨t, ht⟩ : ∃ t, t = (xss.take k).flatten.length := ⟨_, rfl⟩
    have ht9 : t ≤ 17592186044416 := by omega
    rw [← ht]
    by_cases hlt : k < n
    · have hkx : k < xss.length := by have := HN.out; omega
      obtain ⟨b, o, u, rfl, hc0, hI⟩ := HR.out k hkx
      have hcell := hK.cell hc0
      have hst := HT.out k hkx
      have hb3 := HS.out (k + 1)
      obtain ⟨xs, hxs⟩ : ∃ x, x = xss[k] := ⟨_, rfl⟩
      rw [← hxs] at hI hst
      obtain ⟨ax, cx, rfl, _, hlx, _⟩ := hI
      obtain ⟨m, hm⟩ : ∃ m, m = xs.length := ⟨_, rfl⟩
      rw [← hm] at hcell
      have hnew : t + m = (xss.take (k + 1)).flatten.length := by rw [hst, List.length_append]; omega
      have htm : t + m ≤ 17592186044416 := by omega
      have HNew := Lib.hid hnew
      clear hc0 hlx hm hxs hst hb3 hb hb2 ht hnew
      go_wp2
      go_roundw
      case rel => exact ⟨k + 1, by omega, by go_num, by rw [← HNew.out]; go_num, hK⟩
      case measure => simp [intOf]; omega
    · have e : k = n := by omega
      have htx : t = xss.flatten.length := by rw [ht, e, List.take_of_length_le (by have := HN.out; omega)]
      have HTX := Lib.hid htx
      clear htx ht hb hb2
      have hgrow : Calls Try.prog 118 #[.slice none 0 0, .int .i64 t] wr fun e w' => ∃ v, e = .returned v ∧ OwnInts w' wr.heap.size v [] ∧ Kept wr w' := by
        by_cases h0 : t = 0
        · subst h0
          exact (grow_zero wr).mono fun e w' ⟨h1, h2⟩ => ⟨_, h1, OwnInts.nil _ _, by subst h2; exact Kept.refl _⟩
        · exact grow_some t (by omega) ht9 wr
      have HG := Lib.hid hgrow
      clear hgrow
      go_wp2_with (go_at_call 118; refine HG.out.mono ?_; rintro e w1 ⟨v1, rfl, ho1, hk1⟩; have O1 := Lib.hid ho1; clear ho1)
      have hz := hK.size
      have K1 : Kept w w1 := hK.trans hk1
      go_loopw [6, 8, 27] (fun v _ i wr => ∃ k : Nat, k ≤ n ∧ i = .int .i64 k ∧ OwnInts wr w.heap.size v (xss.take k).flatten ∧ Kept w wr) (fun _ _ i _ => n - (intOf i).toNat)
      case atStart => exact ⟨0, Nat.zero_le _, rfl, O1.out.mono hz, K1⟩
      case round =>
        obtain ⟨q, hq, rfl, hown, hK2⟩ := hrel
        have hz2 := hK2.size
        by_cases hlt2 : q < n
        · have hkx : q < xss.length := by have := HN.out; omega
          obtain ⟨b, o, u, rfl, hc0, hI⟩ := HR.out q hkx
          have hcell := hK2.cell hc0
          have hI2 := hI.kept hK2
          have hst := HT.out q hkx
          have hb3 := HS.out (q + 1)
          have hb4 := HL.out
          obtain ⟨xs, hxs⟩ : ∃ x, x = xss[q] := ⟨_, rfl⟩
          rw [← hxs] at hst hI2
          obtain ⟨acc, hacc⟩ : ∃ x, x = (xss.take q).flatten := ⟨_, rfl⟩
          rw [← hacc] at hst hown
          have hsz : acc.length + xs.length ≤ 17592186044416 := by rw [hst, List.length_append] at hb3; omega
          have HO := Lib.hid hown
          have HST := Lib.hid hst
          have HI := Lib.hid hI2
          clear hc0 hI hown hst hI2 hxs hacc hb3 hb4
          go_wp2_with (at_builtin; refine app_ints rfl _ _ rfl w.heap.size _ acc rfl HO.out _ xs rfl HI.out hsz hz2 ?_; intro v' w3 hown3 _ hb3)
          go_roundw
          case rel => exact ⟨q + 1, by omega, by go_num, by rw [HST.out]; exact hown3, hK2.app hb3⟩
          case measure => simp [intOf]; omega
        · go_wp2
          go_ret
          have e : q = n := by omega
          subst e
          rw [List.take_of_length_le (by have := HN.out; omega)] at hown
          exact ⟨_, rfl, hown, hK2⟩
end Go.Proofs.Ytapniojbnochiaa

/-
  Walks: family.sized, Plus, Product.
-/
namespace Go.Proofs.Ytapniojbnochiaa
open Go.RowKit

theorem sized_ok (v : Value) (xs : List Int) (w : World) (hv : IntsAt w v xs) (h : xs.length ≤ 1024) : Calls Try.prog 85 #[v] w fun e w' => e = .returned (.tuple #[v, .nilIface]) ∧ w = w' := by
  obtain ⟨a, c, rfl, ⟨hc, _⟩, hl, hrow⟩ := hv
  obtain ⟨n, hn⟩ : ∃ n, n = xs.length := ⟨_, rfl⟩
  rw [← hn] at h ⊢
  clear hrow hn hl hc
  go_enter Try.func85, Try.ntmps85
  go_wp2
  go_ret2
  exact ⟨rfl, rfl⟩
theorem sized_large (v : Value) (xs : List Int) (w : World) (hv : IntsAt w v xs) (h : ¬ xs.length ≤ 1024) : Calls Try.prog 85 #[v] w fun e w' => e = .returned (.tuple #[.slice none 0 0, errV 4]) ∧ w = w' := by
  obtain ⟨a, c, rfl, ⟨hc, _⟩, hl, hrow⟩ := hv
  obtain ⟨n, hn⟩ : ∃ n, n = xs.length := ⟨_, rfl⟩
  rw [← hn] at h ⊢
  clear hrow hn hl hc
  go_enter Try.func85, Try.ntmps85
  go_wp2
  go_ret2
  exact ⟨rfl, rfl⟩

theorem ofN_range {ns : List Nat} (h : ∀ n ∈ ns, Mk n) : ∀ x ∈ ofN ns, 0 ≤ x ∧ x ≤ 16777215 := by
  intro x hx
  obtain ⟨n, hn, rfl⟩ := List.mem_map.1 hx
  have := h n hn
  unfold Mk at this
  omega
/-- Sets in memory: masks. -/
def SetsAt (w : World) (v : Value) (ns : List Nat) : Prop := IntsAt w v (ofN ns) ∧ ∀ n ∈ ns, Mk n
theorem SetsAt.kept {w w' : World} {v : Value} {ns : List Nat} (h : SetsAt w v ns) (hk : Kept w w') : SetsAt w' v ns := ⟨h.1.kept hk, h.2⟩
def OwnSets (w : World) (B : Nat) (v : Value) (ns : List Nat) : Prop := OwnInts w B v (ofN ns) ∧ ∀ n ∈ ns, Mk n
theorem OwnSets.sets {w : World} {B : Nat} {v : Value} {ns : List Nat} (h : OwnSets w B v ns) : SetsAt w v ns := ⟨h.1.ints, h.2⟩
theorem OwnSets.kept {w w' : World} {B : Nat} {v : Value} {ns : List Nat} (h : OwnSets w B v ns) (hk : Kept w w') : OwnSets w' B v ns := ⟨h.1.kept hk, h.2⟩
theorem OwnSets.mono {w : World} {B B' : Nat} {v : Value} {ns : List Nat} (h : OwnSets w B v ns) (hb : B' ≤ B) : OwnSets w B' v ns := ⟨h.1.mono hb, h.2⟩
theorem OwnSets.nil (w : World) (B : Nat) : OwnSets w B (.slice none 0 0) [] := ⟨OwnInts.nil _ _, by simp⟩
theorem minK_mk {ns : List Nat} (h : ∀ n ∈ ns, Mk n) : ∀ n ∈ minK ns, Mk n := fun n hn => h n (mem_minK hn)
theorem minimalS_any (v : Value) (ns : List Nat) (w : World) (hv : SetsAt w v ns) (hl : ns.length ≤ 8796093022208) :
    Calls Try.prog 66 #[v] w fun e w' => ∃ v', e = .returned v' ∧ OwnSets w' w.heap.size v' (minK ns) ∧ Kept w w' :=
  (minimalK_any v ns w hv.2 hv.1 hl).mono fun _ _ ⟨v', h1, h2, h3⟩ => ⟨v', h1, ⟨h2, minK_mk hv.2⟩, h3⟩

theorem lists2 (a b : List Nat) (va vb : Value) (w : World) (ha : SetsAt w va a) (hb : SetsAt w vb b) :
    Calls Try.prog 64 #[.slice (some ⟨w.heap.size, 0, none⟩) 2 2] (w.alloc (.cells #[va, vb] 27)) fun e w' => e = .returned (errV (if a.length ≤ 1024 ∧ b.length ≤ 1024 then 0 else 4)) ∧ Kept w w' := by
  refine (lists_any _ [ofN a, ofN b] _ (rows_two ha.1 hb.1) ?_).mono fun e w' ⟨h1, h2⟩ => ⟨?_, ((Kept.refl _).alloc _).trans h2⟩
  · intro xs hxs
    simp at hxs
    rcases hxs with rfl | rfl
    · exact ofN_range ha.2
    · exact ofN_range hb.2
  · rw [h1]; congr 2
    unfold listsC
    simp
theorem lists1 (a : List Nat) (va : Value) (w : World) (ha : SetsAt w va a) :
    Calls Try.prog 64 #[.slice (some ⟨w.heap.size, 0, none⟩) 1 1] (w.alloc (.cells #[va] 27)) fun e w' => e = .returned (errV (if a.length ≤ 1024 then 0 else 4)) ∧ Kept w w' := by
  refine (lists_any _ [ofN a] _ (rows_one ha.1) ?_).mono fun e w' ⟨h1, h2⟩ => ⟨?_, ((Kept.refl _).alloc _).trans h2⟩
  · intro xs hxs
    simp at hxs
    subst hxs
    exact ofN_range ha.2
  · rw [h1]; congr 2
    unfold listsC
    simp

/-- A list of sets, or the error that it is too large. -/
def LRes (w' : World) (B : Nat) (e : Ending) (r : Option (List Nat)) : Prop :=
  match r with
  | some l => ∃ v, e = .returned (.tuple #[v, .nilIface]) ∧ OwnSets w' B v l
  | none => e = .returned (.tuple #[.slice none 0 0, errV 4])
def plusK (a b : List Nat) : Option (List Nat) := if a.length ≤ 1024 ∧ b.length ≤ 1024 then (if (minK (a ++ b)).length ≤ 1024 then some (minK (a ++ b)) else none) else none

set_option maxHeartbeats 1000000 in
theorem plus_any (a b : List Nat) (va vb : Value) (w : World) (ha : SetsAt w va a) (hb : SetsAt w vb b) :
    Calls Try.prog 49 #[va, vb] w fun e w' => LRes w' w.heap.size e (plusK a b) ∧ Kept w w' := by
  obtain ⟨aa, na, ca, rfl⟩ := ha.1.shape
  obtain ⟨ab, nb, cb, rfl⟩ := hb.1.shape
  have H1 := Lib.hid (fun w' (hk : Kept w w') => lists2 a b _ _ w' (ha.kept hk) (hb.kept hk))
  have HA := Lib.hid ha
  have HB := Lib.hid hb
  clear ha hb
  unfold plusK
  by_cases h : a.length ≤ 1024 ∧ b.length ≤ 1024
  · have hflat : ([ofN a, ofN b] : List (List Int)).flatten = ofN (a ++ b) := by simp
    have hfl : ([ofN a, ofN b] : List (List Int)).flatten.length ≤ 17592186044416 := by rw [hflat]; simp; omega
    have habl : (a ++ b).length ≤ 8796093022208 := by simp; omega
    have HF := Lib.hid hflat
    have HFL := Lib.hid hfl
    have HAB := Lib.hid habl
    have E0 := Lib.hid (show errV (if a.length ≤ 1024 ∧ b.length ≤ 1024 then 0 else 4) = .nilIface by rw [if_pos h]; rfl)
    rw [if_pos h]
    clear hflat hfl habl h
    by_cases hm : (minK (a ++ b)).length ≤ 1024
    · have HM := Lib.hid (show (ofN (minK (a ++ b))).length ≤ 1024 by simpa using hm)
      rw [if_pos hm]
      clear hm
      go_enter Try.func49, Try.ntmps49
      go_wp2_with (first
        | (go_at_call 64; refine (H1.out _ (Kept.refl _)).mono ?_; rintro e w1 ⟨rfl, hk1⟩; rw [E0.out])
        | (go_at_call 86; refine (concat_any _ [ofN a, ofN b] _ (rows_two (HA.out.kept hk1).1 (HB.out.kept hk1).1) HFL.out).mono ?_; rintro e w2 ⟨v2, rfl, ho2, hk2⟩; rw [HF.out] at ho2; have O2 := Lib.hid ho2; clear ho2)
        | (go_at_call 66; refine (minimalS_any v2 (a ++ b) w2 ⟨O2.out.ints, fun n hn => (List.mem_append.1 hn).elim (HA.out.2 n) (HB.out.2 n)⟩ HAB.out).mono ?_; rintro e w3 ⟨v3, rfl, ho3, hk3⟩; have O3 := Lib.hid ho3; clear ho3)
        | (go_at_call 85; refine (sized_ok v3 _ w3 O3.out.1.ints HM.out).mono ?_; rintro e w4 ⟨rfl, rfl⟩))
      go_ret2
      have hk := ((hk1.trans ((Kept.refl _).alloc _)).trans hk2)
      exact ⟨⟨_, rfl, O3.out.mono hk.size⟩, hk.trans hk3⟩
    · have HM := Lib.hid (show ¬ (ofN (minK (a ++ b))).length ≤ 1024 by simpa using hm)
      rw [if_neg hm]
      clear hm
      go_enter Try.func49, Try.ntmps49
      go_wp2_with (first
        | (go_at_call 64; refine (H1.out _ (Kept.refl _)).mono ?_; rintro e w1 ⟨rfl, hk1⟩; rw [E0.out])
        | (go_at_call 86; refine (concat_any _ [ofN a, ofN b] _ (rows_two (HA.out.kept hk1).1 (HB.out.kept hk1).1) HFL.out).mono ?_; rintro e w2 ⟨v2, rfl, ho2, hk2⟩; rw [HF.out] at ho2; have O2 := Lib.hid ho2; clear ho2)
        | (go_at_call 66; refine (minimalS_any v2 (a ++ b) w2 ⟨O2.out.ints, fun n hn => (List.mem_append.1 hn).elim (HA.out.2 n) (HB.out.2 n)⟩ HAB.out).mono ?_; rintro e w3 ⟨v3, rfl, ho3, hk3⟩; have O3 := Lib.hid ho3; clear ho3)
        | (go_at_call 85; refine (sized_large v3 _ w3 O3.out.1.ints HM.out).mono ?_; rintro e w4 ⟨rfl, rfl⟩))
      go_ret2
      have hk := ((hk1.trans ((Kept.refl _).alloc _)).trans hk2)
      exact ⟨rfl, hk.trans hk3⟩
  · have E0 := Lib.hid (show errV (if a.length ≤ 1024 ∧ b.length ≤ 1024 then 0 else 4) = .iface 45 (.int .i64 4) by rw [if_neg h]; rfl)
    rw [if_neg h]
    clear h
    go_enter Try.func49, Try.ntmps49
    go_wp2_with (go_at_call 64; refine (H1.out _ (Kept.refl _)).mono ?_; rintro e w1 ⟨rfl, hk1⟩; rw [E0.out])
    go_ret2
    exact ⟨rfl, hk1⟩
end Go.Proofs.Ytapniojbnochiaa

/-
  A map[int]bool of the call's own, by what it answers; family.Product.
-/
namespace Go.Proofs.Ytapniojbnochiaa
open Go.RowKit Go.Maps

/-- Block b is a map from ints to bools with at most n entries that answers mem. -/
def BoolMap (w : World) (b n : Nat) (mem : Int → Bool) : Prop :=
  ∃ D : DataW Unit, w.ownsMap Try.prog 3 (plainElem Try.prog 4) b n D ∧ IsMap D ∧ ∀ x : Int, D.atKey (.int .i64 x) (.lit (.bool false)) = .lit (.bool (mem x))
theorem BoolMap.made (w : World) : BoolMap (w.alloc (.map #[] 0)) w.heap.size 0 (fun _ => false) :=
  ⟨_, World.ownsMap_made _ _ _ _, ⟨_, rfl⟩, fun _ => rfl⟩
theorem BoolMap.kept {w w' : World} {b n : Nat} {mem : Int → Bool} (h : BoolMap w b n mem) (hb : w'.heap[b]? = w.heap[b]?) : BoolMap w' b n mem := by
  obtain ⟨D, ⟨es, cl, h1, h2⟩, h3⟩ := h
  exact ⟨D, ⟨es, cl, hb.trans h1, h2⟩, h3⟩
theorem BoolMap.lt {w : World} {b n : Nat} {mem : Int → Bool} (h : BoolMap w b n mem) : b < w.heap.size := by
  obtain ⟨D, h1, _⟩ := h
  exact h1.lt
theorem wf_mk {n : Nat} (h : Mk n) : (Lit.int .i64 (n : Int)).wf = true := by
  unfold Mk at h
  simp [Lit.wf, IntKind.min, IntKind.max, IntKind.signed, IntKind.bits]; omega

theorem bool_inv {P : Program} {e : TypeId} (he : P.underlying e = some .bool) {v : Value} {x : Bool} {ps : List MemPlace} (h : plainElem (H := Unit) P e v = some (.lit (.bool x), ps)) : v = .bool x := by
  cases v <;> simp [plainElem, he] at h
  rw [h.1]
variable {ops : Array Oper} {rest : List Oper} {o : Oper} {a : Act} {Q : Exit → Act → World → Prop} {w : World}
theorem look_bool (t : TypeId) (ht : Try.prog.underlying t = some (.map 3 4)) (hg : o.guard = none) (m x : Operand) (hop : o.op = Op.lookup t m x false) (b n : Nat) (mem : Int → Bool)
    (hm : a.eval m = .map (some b)) (hown : BoolMap w b n mem) (k : Int) (hx : a.eval x = .int .i64 k) (hk : (Lit.int .i64 k).wf = true)
    (hK : wpList Try.prog ops Q rest (a.put o.dst (.bool (mem k))) w) : wpList Try.prog ops Q (o :: rest) a w := by
  obtain ⟨D, h1, h2, h3⟩ := hown
  refine wpList_plain hg fun K' hK' => ?_
  have hz : (zeroValue 4).run Try.prog w = .ok (.bool false) w := by kernel_rfl
  obtain ⟨v, ps, hrun, hv⟩ := h1.lookup (int_keyed Try.underlying3) ht hz (plainElem_bool (H := Unit) Try.underlying4 false) (keyOf_int_mk Try.underlying3 hk)
  rw [h3 k] at hv
  have hvb : v = .bool (mem k) := by
    exact bool_inv Try.underlying4 hv
  subst hvb
  unfold Oper.wp
  simp [execOp, hop, hm, hx, hrun, Result.andThen]
  exact hK' _ _ hK
theorem store_bool (t : TypeId) (ht : Try.prog.underlying t = some (.map 3 4)) (hg : o.guard = none) (m x v : Operand) (hop : o.op = Op.mapUpdate t m x v) (b n : Nat) (mem : Int → Bool)
    (hm : a.eval m = .map (some b)) (hown : BoolMap w b n mem) (hn : n < maxLen) (k : Int) (hx : a.eval x = .int .i64 k) (hk : (Lit.int .i64 k).wf = true) (c : Bool) (hv : a.eval v = .bool c)
    (hK : ∀ w', BoolMap w' b (n + 1) (fun y => if y = k then c else mem y) → w.grownBy w' (some b) → wpList Try.prog ops Q rest (a.put o.dst undef) w') : wpList Try.prog ops Q (o :: rest) a w := by
  obtain ⟨D, h1, h2, h3⟩ := hown
  refine wpList_mapUpdate_own w hg m x v t hop 3 4 (int_keyed Try.underlying3) ht _ b n D hm h1 hn _ _ _ hx hv (keyOf_int_mk Try.underlying3 hk) (.lit (.bool c)) [] (plainElem_bool Try.underlying4 c) ?_
  intro w' h4 h5
  refine hK w' ⟨_, h4, ?_, fun y => ?_⟩ h5
  · obtain ⟨es, rfl⟩ := h2; exact ⟨_, rfl⟩
  · by_cases e : y = k
    · subst e
      rw [atKey_put_same (k := .int .i64 y) h2 (by simp [WideAt.IsKeyLit])]
      simp
    · rw [atKey_put_other (by intro h; simp at h; exact e h), h3 y]; simp [e]

/-- All unions, each once, in the order of their first appearance. -/
def addU (out : List Nat) (u : Nat) : List Nat := if u ∈ out then out else out ++ [u]
def rowU (x : Nat) (ys : List Nat) (out : List Nat) : List Nat := ys.foldl (fun out y => addU out (x ||| y)) out
def allU (xs ys : List Nat) : List Nat := xs.foldl (fun out x => rowU x ys out) []
theorem mem_addU (out : List Nat) (u z : Nat) : z ∈ addU out u ↔ z ∈ out ∨ z = u := by
  unfold addU
  split
  · constructor
    · exact .inl
    · rintro (h | rfl)
      · exact h
      · assumption
  · simp
theorem mem_rowU (x : Nat) (ys : List Nat) : ∀ out z, z ∈ rowU x ys out ↔ z ∈ out ∨ ∃ y ∈ ys, z = x ||| y := by
  induction ys with
  | nil => intro out z; simp [rowU]
  | cons y ys ih =>
    intro out z
    show z ∈ rowU x ys (addU out (x ||| y)) ↔ _
    rw [ih, mem_addU]
    simp only [List.mem_cons, exists_eq_or_imp, or_assoc]
theorem mem_allU_acc (ys : List Nat) (xs : List Nat) : ∀ out z, z ∈ xs.foldl (fun out x => rowU x ys out) out ↔ z ∈ out ∨ ∃ x ∈ xs, ∃ y ∈ ys, z = x ||| y := by
  induction xs with
  | nil => intro out z; simp
  | cons x xs ih =>
    intro out z
    rw [List.foldl_cons, ih, mem_rowU]
    simp only [List.mem_cons, exists_eq_or_imp, or_assoc]
theorem mem_allU (xs ys : List Nat) (z : Nat) : z ∈ allU xs ys ↔ ∃ x ∈ xs, ∃ y ∈ ys, z = x ||| y := by
  unfold allU
  rw [mem_allU_acc]; simp
theorem len_rowU (x : Nat) (ys : List Nat) : ∀ out, (rowU x ys out).length ≤ out.length + ys.length := by
  induction ys with
  | nil => intro out; simp [rowU]
  | cons y ys ih =>
    intro out
    show (rowU x ys (addU out (x ||| y))).length ≤ _
    refine Nat.le_trans (ih _) ?_
    unfold addU
    split <;> simp <;> omega
theorem len_allU_acc (ys : List Nat) (xs : List Nat) : ∀ out, (xs.foldl (fun out x => rowU x ys out) out).length ≤ out.length + xs.length * ys.length := by
  induction xs with
  | nil => intro out; simp
  | cons x xs ih =>
    intro out
    have h1 := ih (rowU x ys out)
    have h2 := len_rowU x ys out
    rw [List.foldl_cons, List.length_cons, Nat.succ_mul]
    omega
theorem or_mk {a b : Nat} (ha : Mk a) (hb : Mk b) : Mk (a ||| b) := by
  unfold Mk at *
  exact Nat.or_lt_two_pow (n := 24) ha hb
theorem or_int {a b : Nat} (ha : Mk a) (hb : Mk b) : bits .or .i64 (a : Int) (b : Int) = ((a ||| b : Nat) : Int) := or_i64 a b (by unfold Mk at ha; omega) (by unfold Mk at hb; omega)
end Go.Proofs.Ytapniojbnochiaa

/-
  Walks: family.Product.
-/
namespace Go.Proofs.Ytapniojbnochiaa
open Go.RowKit Go.Maps

theorem BoolMap.ne {w : World} {b n : Nat} {mem : Int → Bool} (h : BoolMap w b n mem) {B : Nat} {e : TypeId} {size m : Nat} {v : Value} {xs : List Value} (ho : w.ownsRow B e size v m xs) : some b ≠ v.ownBlock := by
  obtain ⟨D, ⟨es, cl, h1, _⟩, _⟩ := h
  obtain ⟨_, ⟨rfl, _⟩ | ⟨g, cap, cur, rfl, _, hh, _⟩⟩ := ho
  · intro h; cases h
  · intro h
    cases h
    rw [hh] at h1; cases h1
theorem own_ne {w w' : World} {B : Nat} {v : Value} {xs : List Int} {b : Nat} (h : OwnInts w B v xs) (hg : w.grownBy w' (some b)) (hne : some b ≠ v.ownBlock) : OwnInts w' B v xs := by
  obtain ⟨⟨h1, h2⟩, h3⟩ := h
  refine ⟨⟨h1, h2.imp id ?_⟩, h3⟩
  rintro ⟨g, cap, cur, rfl, h5, h6, h7⟩
  exact ⟨g, cap, cur, rfl, h5, (hg.block g (heap_lt h6) (fun e => hne e.symm)).trans h6, h7⟩
theorem kept_ne {w0 w w' : World} {b : Nat} (h : Kept w0 w) (hg : w.grownBy w' (some b)) (hb : w0.heap.size ≤ b) : Kept w0 w' :=
  h.app ⟨hg.os, hg.tape, hg.output, hg.size, fun k hk => hg.block k (Nat.lt_of_lt_of_le hk h.size) (by intro e; cases e; omega)⟩

theorem mem_ofN (u : Nat) (l : List Nat) : (u : Int) ∈ ofN l ↔ u ∈ l := by
  simp only [ofN, List.mem_map]
  constructor
  · rintro ⟨x, hx, e⟩; have : x = u := by omega
    rw [← this]; exact hx
  · intro h; exact ⟨u, h, rfl⟩
/-- What the two loops keep. -/
def ProdInv (wm wr : World) (v : Value) (acc : List Nat) : Prop :=
  OwnInts wr wm.heap.size v (ofN acc) ∧ BoolMap wr wm.heap.size acc.length (fun z => decide (z ∈ ofN acc)) ∧ Kept wm wr
theorem prod_hit {wm wr : World} {v : Value} {acc : List Nat} (h : ProdInv wm wr v acc) {u : Nat} (hu : u ∈ acc) : ProdInv wm wr v (addU acc u) := by
  unfold addU; rw [if_pos hu]; exact h
theorem prod_new {wm wr w1 w2 w3 : World} {v v' : Value} {acc : List Nat} {u : Nat} (h : ProdInv wm wr v acc) (hu : u ∉ acc)
    (h1 : BoolMap w1 wm.heap.size (acc.length + 1) (fun y => if y = (u : Int) then true else decide (y ∈ ofN acc))) (hg1 : wr.grownBy w1 (some wm.heap.size))
    (h2 : w2 = w1.alloc (.cells #[.int .i64 u] 3)) (h3 : OwnInts w3 wm.heap.size v' (ofN acc ++ [(u : Int)])) (hg3 : w2.grownBy w3 v.ownBlock) (hb3 : Below wm.heap.size w2 w3) : ProdInv wm w3 v' (addU acc u) := by
  unfold addU; rw [if_neg hu]
  subst h2
  have hlt := h1.lt
  refine ⟨by simpa using h3, ?_, ?_⟩
  · have hb1 : (w1.alloc (.cells #[.int .i64 u] 3)).heap[wm.heap.size]? = w1.heap[wm.heap.size]? := Below.heap_alloc _ _ _ hlt
    have hb2 := hg3.block wm.heap.size (by simp; omega) (h.2.1.ne h.1.1)
    have h4 := h1.kept (hb2.trans hb1)
    have e : (fun y : Int => if y = (u : Int) then true else decide (y ∈ ofN acc)) = fun z => decide (z ∈ ofN (acc ++ [u])) := by
      funext y
      by_cases hy : y = (u : Int)
      · subst hy; simp
      · rw [if_neg hy]
        congr 1
        simp only [List.map_append, List.mem_append, List.map_cons, List.map_nil, List.mem_singleton, hy, or_false]
    rw [e] at h4
    simpa using h4
  · exact ((kept_ne h.2.2 hg1 (Nat.le_refl _)).alloc _).app hb3

def productK (a b : List Nat) : Option (List Nat) := if a.length ≤ 1024 ∧ b.length ≤ 1024 then (if (minK (allU (minK a) (minK b))).length ≤ 1024 then some (minK (allU (minK a) (minK b))) else none) else none
theorem allU_mk {xs ys : List Nat} (hx : ∀ n ∈ xs, Mk n) (hy : ∀ n ∈ ys, Mk n) : ∀ n ∈ allU xs ys, Mk n := by
  intro n hn
  obtain ⟨x, h1, y, h2, rfl⟩ := (mem_allU xs ys n).1 hn
  exact or_mk (hx x h1) (hy y h2)

set_option maxHeartbeats 4000000 in
theorem product_any (a b : List Nat) (va vb : Value) (w : World) (ha : SetsAt w va a) (hb : SetsAt w vb b) :
    Calls Try.prog 48 #[va, vb] w fun e w' => LRes w' w.heap.size e (productK a b) ∧ Kept w w' := by
  obtain ⟨aa, na, ca, rfl⟩ := ha.1.shape
  obtain ⟨ab, nb, cb, rfl⟩ := hb.1.shape
  have H1 := Lib.hid (fun w' (hk : Kept w w') => lists2 a b _ _ w' (ha.kept hk) (hb.kept hk))
  have HA := Lib.hid ha
  have HB := Lib.hid hb
  clear ha hb
  unfold productK
  by_cases h : a.length ≤ 1024 ∧ b.length ≤ 1024
  · have E0 := Lib.hid (show errV (if a.length ≤ 1024 ∧ b.length ≤ 1024 then 0 else 4) = .nilIface by rw [if_pos h]; rfl)
    rw [if_pos h]
    have hla := len_minK a
    have hlb := len_minK b
    have hal : a.length ≤ 8796093022208 := by omega
    have hbl : b.length ≤ 8796093022208 := by omega
    have HAL := Lib.hid hal
    have HBL := Lib.hid hbl
    obtain ⟨n, hn⟩ : ∃ n, n = (minK a).length := ⟨_, rfl⟩
    obtain ⟨m, hm⟩ : ∃ m, m = (minK b).length := ⟨_, rfl⟩
    have hn9 : n ≤ 1024 := by omega
    have hm9 : m ≤ 1024 := by omega
    have HN := Lib.hid hn
    have HM := Lib.hid hm
    have HMA := Lib.hid (minK_mk HA.out.2)
    have HMB := Lib.hid (minK_mk HB.out.2)
    obtain ⟨A, hA⟩ : ∃ A, A = minK a := ⟨_, rfl⟩
    obtain ⟨Bs, hB⟩ : ∃ A, A = minK b := ⟨_, rfl⟩
    rw [← hA] at HN HMA ⊢
    rw [← hB] at HM HMB ⊢
    have HAe := Lib.hid hA
    have HBe := Lib.hid hB
    clear h hla hlb hal hbl hn hm hA hB
    go_enter Try.func48, Try.ntmps48
    have hmm := @run_makeMap Try.prog
    go_wp2_with (first
      | (go_at_call 64; refine (H1.out _ (Kept.refl _)).mono ?_; rintro e w1 ⟨rfl, hk1⟩; rw [E0.out]; have tok1 : True := trivial)
      | (go_at_call 66; clear tok1; refine (minimalS_any _ a _ (HA.out.kept hk1) HAL.out).mono ?_; rintro e w2 ⟨v2, rfl, ho2, hk2⟩; have O2 := Lib.hid ho2; clear ho2)
      | (go_at_call 66; refine (minimalS_any _ b _ (HB.out.kept (hk1.trans hk2)) HBL.out).mono ?_; rintro e w3 ⟨v3, rfl, ho3, hk3⟩; have O3 := Lib.hid ho3; clear ho3; rw [← HAe.out] at O2; rw [← HBe.out] at O3; obtain ⟨a2, c2, rfl, _, _, hc2⟩ := O2.out.1.ints; obtain ⟨a3, c3, rfl, _, _, hc3⟩ := O3.out.1.ints; have C2 := Lib.hid hc2; have C3 := Lib.hid hc3; clear hc2 hc3 O2 O3; rw [show (ofN A).length = n by rw [HN.out]; simp, show (ofN Bs).length = m by rw [HM.out]; simp]))
    have hK03 := (hk1.trans hk2).trans hk3
    go_loopw [8, 10, 12, 13, 28, 34] (fun v _ _ _ i _ wr => ∃ k : Nat, k ≤ n ∧ i = .int .i64 k ∧ ProdInv w3 wr v ((A.take k).foldl (fun out x => rowU x Bs out) [])) (fun _ _ _ _ i _ _ => n - (intOf i).toNat)
    case atStart => exact ⟨0, Nat.zero_le _, rfl, OwnInts.nil _ _, by simpa using BoolMap.made w3, (Kept.refl _).alloc _⟩
    case round =>
      obtain ⟨k, hk, rfl, hinv⟩ := hrel
      by_cases hlt : k < n
      · have hkx : k < A.length := by have := HN.out; omega
        obtain ⟨b2, o2, rfl, hc0⟩ := C2.out k (by simpa using hkx)
        have hcell := (hk3.trans hinv.2.2).cell hc0
        obtain ⟨x, hx⟩ : ∃ x, x = A[k] := ⟨_, rfl⟩
        have hxm : Mk x := HMA.out x (by rw [hx]; exact List.getElem_mem _)
        simp only [List.getElem_map] at hcell
        rw [← hx] at hcell
        have hstep : (A.take (k + 1)).foldl (fun out x => rowU x Bs out) [] = rowU x Bs ((A.take k).foldl (fun out x => rowU x Bs out) []) := by
          rw [List.take_succ_eq_append_getElem hkx, List.foldl_append, ← hx]; rfl
        have hlen := len_allU_acc Bs (A.take k) []
        obtain ⟨acc, hacc⟩ : ∃ acc, acc = (A.take k).foldl (fun out x => rowU x Bs out) [] := ⟨_, rfl⟩
        rw [← hacc] at hinv hstep hlen
        have hal : acc.length ≤ 1048576 := by
          have h1 : (A.take k).length ≤ 1024 := by simp; omega
          have h2 : Bs.length ≤ 1024 := by have := HM.out; omega
          have h3 := Nat.mul_le_mul h1 h2
          simp at hlen h3; omega
        have HST := Lib.hid hstep
        have HXM := Lib.hid hxm
        have HI := Lib.hid hinv
        have HAL9 := Lib.hid hal
        clear hstep hxm hinv hx hacc hlen hal hc0
        go_wp2
        obtain ⟨wo, hwo⟩ : ∃ wo : World, wo = wr := ⟨_, rfl⟩
        rw [← hwo] at HI hcell
        clear hcell
        go_loopw [8, 12, 13, 34] (fun v _ _ j wi => ∃ q : Nat, q ≤ m ∧ j = .int .i64 q ∧ ProdInv w3 wi v (rowU x (Bs.take q) acc)) (fun _ _ _ j _ => m - (intOf j).toNat)
        case atStart => exact ⟨0, Nat.zero_le _, rfl, by rw [← hwo]; exact HI.out⟩
        case round =>
          obtain ⟨q, hq, rfl, hinv⟩ := hrel
          by_cases hqm : q < m
          · have hqx : q < Bs.length := by have := HM.out; omega
            obtain ⟨b3, o3, rfl, hc0⟩ := C3.out q (by simpa using hqx)
            have hcell := hinv.2.2.cell hc0
            obtain ⟨y, hy⟩ : ∃ y, y = Bs[q] := ⟨_, rfl⟩
            have hym : Mk y := HMB.out y (by rw [hy]; exact List.getElem_mem _)
            simp only [List.getElem_map] at hcell
            rw [← hy] at hcell
            have hstep : rowU x (Bs.take (q + 1)) acc = addU (rowU x (Bs.take q) acc) (x ||| y) := by
              unfold rowU
              rw [List.take_succ_eq_append_getElem hqx, List.foldl_append, ← hy]; rfl
            have hlen := len_rowU x (Bs.take q) acc
            have hbit := or_int HXM.out hym
            have hmk := or_mk HXM.out hym
            obtain ⟨u, hu⟩ : ∃ u, u = x ||| y := ⟨_, rfl⟩
            rw [← hu] at hstep hbit hmk
            obtain ⟨ac2, hac2⟩ : ∃ ac, ac = rowU x (Bs.take q) acc := ⟨_, rfl⟩
            rw [← hac2] at hinv hstep hlen
            have hal : ac2.length ≤ 2097152 := by have := HAL9.out; simp at hlen; omega
            have hsz := hinv.2.2.size
            have HST2 := Lib.hid hstep
            have HUM := Lib.hid hmk
            have HI2 := Lib.hid hinv
            clear hstep hym hinv hy hac2 hlen hc0 hu hmk
            by_cases hin : u ∈ ac2
            · have hdec : decide ((u : Int) ∈ ofN ac2) = true := decide_eq_true ((mem_ofN u ac2).2 hin)
              have HD := Lib.hid hdec
              have HIN := Lib.hid hin
              clear hdec hin
              go_wp2_with (at_lookup; refine look_bool 108 Try.underlying108 rfl _ _ rfl w3.heap.size _ _ rfl HI2.out.2.1 (u : Int) rfl (wf_mk HUM.out) ?_; rw [HD.out])
              go_roundw
              case rel => exact ⟨q + 1, by omega, by go_num, by rw [HST2.out]; exact prod_hit HI2.out HIN.out⟩
              case measure => simp [intOf]; omega
            · have hdec : decide ((u : Int) ∈ ofN ac2) = false := decide_eq_false fun h => hin ((mem_ofN u ac2).1 h)
              have HD := Lib.hid hdec
              have HIN := Lib.hid hin
              clear hdec hin
              go_wp2_with (first
                | (at_lookup; refine look_bool 108 Try.underlying108 rfl _ _ rfl w3.heap.size _ _ rfl HI2.out.2.1 (u : Int) rfl (wf_mk HUM.out) ?_; rw [HD.out])
                | (at_mapUpdate; refine store_bool 108 Try.underlying108 rfl _ _ _ rfl w3.heap.size _ _ rfl HI2.out.2.1 (by unfold maxLen; omega) (u : Int) rfl (wf_mk HUM.out) true rfl ?_; intro w5 hm5 hg5; have ho5 := own_ne HI2.out.1 hg5 (HI2.out.2.1.ne HI2.out.1.1); have hs5 := hg5.size; have HM5 := Lib.hid hm5; have HO5 := Lib.hid ho5; clear hm5 ho5)
                | (at_builtin; refine app_int rfl _ _ rfl w3.heap.size _ (ofN ac2) rfl (HO5.out.kept ((Kept.refl _).alloc _)) _ (u : Int) rfl (by simp) (by simp; omega) (by simp; omega) ?_; intro v' w6 hown6 hg6 hb6))
              go_roundw
              case rel => exact ⟨q + 1, by omega, by go_num, by rw [HST2.out]; exact prod_new HI2.out HIN.out HM5.out hg5 rfl hown6 hg6 hb6⟩
              case measure => simp [intOf]; omega
          · have e : q = m := by omega
            have hfin : rowU x (Bs.take q) acc = (A.take (k + 1)).foldl (fun out x => rowU x Bs out) [] := by
              rw [HST.out, e, List.take_of_length_le (by have := HM.out; omega)]
            rw [hfin] at hinv
            have HI3 := Lib.hid hinv
            clear hinv hfin e
            go_wp2
            go_roundw
            case rel => exact ⟨k + 1, by omega, by go_num, HI3.out⟩
            case measure => simp [intOf]; omega
      · have e : k = n := by omega
        have hfin : (A.take k).foldl (fun out x => rowU x Bs out) [] = allU A Bs := by
          rw [e, List.take_of_length_le (by have := HN.out; omega)]; rfl
        rw [hfin] at hinv
        have hlen := len_allU_acc Bs A []
        have hal : (allU A Bs).length ≤ 8796093022208 := by
          have h1 : A.length ≤ 1024 := by have := HN.out; omega
          have h2 : Bs.length ≤ 1024 := by have := HM.out; omega
          have h3 := Nat.mul_le_mul h1 h2
          unfold allU
          simp at hlen h3; omega
        have hset : SetsAt wr u8 (allU A Bs) := ⟨hinv.1.ints, allU_mk HMA.out HMB.out⟩
        have hmin := minimalS_any _ _ _ hset hal
        have HS := Lib.hid hmin
        have hK := hK03.trans hinv.2.2
        clear hmin hset hlen hal hfin hinv e
        by_cases hm : (minK (allU A Bs)).length ≤ 1024
        · have HMn := Lib.hid (show (ofN (minK (allU A Bs))).length ≤ 1024 by simpa using hm)
          have HMo := Lib.hid hm
          clear hm
          go_wp2_with (first
            | (go_at_call 66; refine HS.out.mono ?_; rintro e w4 ⟨v4, rfl, ho4, hk4⟩; have O4 := Lib.hid ho4; clear ho4)
            | (go_at_call 85; refine (sized_ok v4 _ w4 O4.out.1.ints HMn.out).mono ?_; rintro e w5 ⟨rfl, rfl⟩))
          go_ret2
          try rw [if_pos HMo.out]
          exact ⟨⟨_, rfl, O4.out.mono hK.size⟩, hK.trans hk4⟩
        · have HMn := Lib.hid (show ¬ (ofN (minK (allU A Bs))).length ≤ 1024 by simpa using hm)
          have HMo := Lib.hid hm
          clear hm
          go_wp2_with (first
            | (go_at_call 66; refine HS.out.mono ?_; rintro e w4 ⟨v4, rfl, ho4, hk4⟩; have O4 := Lib.hid ho4; clear ho4)
            | (go_at_call 85; refine (sized_large v4 _ w4 O4.out.1.ints HMn.out).mono ?_; rintro e w5 ⟨rfl, rfl⟩))
          go_ret2
          try rw [if_neg HMo.out]
          exact ⟨rfl, hK.trans hk4⟩
  · have E0 := Lib.hid (show errV (if a.length ≤ 1024 ∧ b.length ≤ 1024 then 0 else 4) = .iface 45 (.int .i64 4) by rw [if_neg h]; rfl)
    rw [if_neg h]
    clear h
    go_enter Try.func48, Try.ntmps48
    go_wp2_with (go_at_call 64; refine (H1.out _ (Kept.refl _)).mono ?_; rintro e w1 ⟨rfl, hk1⟩; rw [E0.out])
    go_ret2
    exact ⟨rfl, hk1⟩
end Go.Proofs.Ytapniojbnochiaa

/-
  Rows of the call's own that are stored into: laws.
-/
namespace Go.Proofs.Ytapniojbnochiaa
open Go.RowKit

/-- Block g is a row whose first cells are xs; none is frozen. -/
def RowAt (w : World) (g : Nat) (e : TypeId) (xs : List Value) : Prop :=
  ∃ cur, w.heap[g]? = some (.cells cur e (0, 0)) ∧ xs.length ≤ cur.size ∧ cur.toList.take xs.length = xs
theorem RowAt.made (w : World) (cs : Array Value) (e : TypeId) : RowAt (w.alloc (.cells cs e)) w.heap.size e cs.toList :=
  ⟨cs, heap_alloc_new w _, by simp, List.take_of_length_le (by simp)⟩
theorem RowAt.lt {w : World} {g : Nat} {e : TypeId} {xs : List Value} (h : RowAt w g e xs) : g < w.heap.size := by
  obtain ⟨cur, h1, _⟩ := h
  rcases Nat.lt_or_ge g w.heap.size with h2 | h2
  · exact h2
  · simp [Array.getElem?_eq_none h2] at h1
theorem RowAt.kept {w w' : World} {g : Nat} {e : TypeId} {xs : List Value} (h : RowAt w g e xs) (hk : Kept w w') : RowAt w' g e xs := by
  have hl := h.lt
  obtain ⟨cur, h1, h2⟩ := h
  exact ⟨cur, (hk.block g hl).trans h1, h2⟩
theorem RowAt.same {w w' : World} {g : Nat} {e : TypeId} {xs : List Value} (h : RowAt w g e xs) (hk : w'.heap[g]? = w.heap[g]?) : RowAt w' g e xs := by
  obtain ⟨cur, h1, h2⟩ := h
  exact ⟨cur, hk.trans h1, h2⟩
theorem RowAt.cell {w : World} {g : Nat} {e : TypeId} {xs : List Value} (h : RowAt w g e xs) {i : Nat} (hi : i < xs.length) : w.cell? ⟨g, i, none⟩ = some xs[i] := by
  obtain ⟨cur, h1, h2, h3⟩ := h
  have e1 : (cur.toList.take xs.length)[i]? = xs[i]? := by rw [h3]
  rw [List.getElem?_take_of_lt hi] at e1
  simp only [World.cell?, h1]
  simpa [hi] using e1
theorem RowAt.free {w : World} {g : Nat} {e : TypeId} {xs : List Value} (h : RowAt w g e xs) (i : Nat) : w.frozen? ⟨g, i, none⟩ = false := by
  obtain ⟨cur, h1, _⟩ := h
  simp [World.frozen?, h1]
theorem RowAt.store {w : World} {g : Nat} {e : TypeId} {xs : List Value} (h : RowAt w g e xs) (i : Nat) (u : Value) : RowAt (w.setCell ⟨g, i, none⟩ u) g e (xs.set i u) := by
  obtain ⟨cur, h1, h2, h3⟩ := h
  refine ⟨cur.setIfInBounds i u, by simp [World.setCell, Array.getElem?_modify, h1], by simpa using h2, ?_⟩
  rw [List.length_set, Array.toList_setIfInBounds, List.take_set, h3]
theorem Kept.store {w0 w : World} (h : Kept w0 w) {g : Nat} (hg : w0.heap.size ≤ g) (i : Nat) (u : Value) : Kept w0 (w.setCell ⟨g, i, none⟩ u) := Below.setCell h hg u
theorem RowAt.other {w : World} {g : Nat} {e : TypeId} {xs : List Value} (h : RowAt w g e xs) {p : Nat} (hp : g ≠ p) (i : Nat) (u : Value) : RowAt (w.setCell ⟨p, i, none⟩ u) g e xs :=
  h.same (Below.heap_setCell w ⟨p, i, none⟩ u g hp)
theorem cell_other {w : World} {a : Addr} {v : Value} (h : w.cell? a = some v) {p : Nat} (hp : a.block ≠ p) (i : Nat) (u : Value) : (w.setCell ⟨p, i, none⟩ u).cell? a = some v :=
  (World.cell?_of_block (w := w) (Below.heap_setCell w ⟨p, i, none⟩ u a.block hp)).trans h
theorem RowAt.ints {w : World} {g : Nat} {xs : List Int} {c : Nat} (h : RowAt w g 3 (xs.map (.int .i64))) (hc : xs.length ≤ c) (hl : xs.length ≤ 140737488355328) : IntsAt w (.slice (some ⟨g, 0, none⟩) xs.length c) xs :=
  ⟨_, c, rfl, ⟨hc, fun h => by cases h⟩, hl, fun i hi => ⟨g, 0, rfl, by have := h.cell (i := i) (by simpa using hi); simpa using this⟩⟩

theorem made_one (z : Value) (hz : z.cells = #[z]) (n : Nat) : (madeCells z.cells (n * 1)).toList = List.replicate n z := by
  rw [hz]
  unfold madeCells
  apply List.ext_getElem
  · simp
  · intro i h1 h2
    simp [Nat.mod_one]
theorem info_bool : (Try.prog.info? 4).map (fun i => (i.zero, i.size, i.bytes)) = some (some (.bool false), 1, 1) := by kernel_rfl
variable {ops : Array Oper} {rest : List Oper} {o : Oper} {a : Act} {Q : Exit → Act → World → Prop} {w : World}
theorem make_one (t e : TypeId) (z : Value) (bytes : Nat) (hi : (Try.prog.info? e).map (fun i => (i.zero, i.size, i.bytes)) = some (some z, 1, bytes)) (ht : Try.prog.underlying t = some (.slice e)) (hz : z.cells = #[z]) (hg : o.guard = none) (l c : Operand)
    (hop : o.op = Op.makeSlice t l c) (n : Nat) (hl : a.eval l = .int .i64 n) (hc : a.eval c = .int .i64 n) (hb : bytes * n ≤ 281474976710656) (hm : n ≤ maxLen)
    (hK : ∀ w', RowAt w' w.heap.size e (List.replicate n z) → Kept w w' → wpList Try.prog ops Q rest (a.put o.dst (.slice (some ⟨w.heap.size, 0, none⟩) n n)) w') : wpList Try.prog ops Q (o :: rest) a w := by
  obtain ⟨i0, hi0, hz0, hz1, hz2⟩ := info_parts hi
  refine wpList_make_full w hg l c t hop w.heap.size e i0 z 1 ht hi0 hz0 hz1 .i64 .i64 _ _ n hl hc rfl rfl (by rw [hz2]; exact hb) hm (Nat.le_refl _) ?_
  intro w' h1 h2
  rw [made_one z hz n] at h1
  refine hK w' ?_ ⟨h2.os, h2.tape, h2.output, h2.size, fun k hk => h2.block k hk (by simp)⟩
  obtain ⟨h3, h4⟩ := h1
  rcases h4 with ⟨h4, _⟩ | ⟨g, cap, cur, h4, h5, h6, h7, h8, h9, h10⟩
  · cases h4
  · cases h4
    exact ⟨cur, h6, by simp; omega, by simpa using h10⟩
end Go.Proofs.Ytapniojbnochiaa

/-
  Plain: formulas, and the first error of a formula.
-/
namespace Go.Proofs.Ytapniojbnochiaa

structure Nd where
  kind : Int
  k : Int
  args : List Int
structure Fm where
  vars : Int
  nodes : List Nd
  top : Int
def argsOk (kind : Int) (n : Nat) : Bool := if kind = 0 then decide (n = 0) else if kind = 1 then decide (n = 1) else decide (1 ≤ n ∧ n ≤ 16)
def chkK (kind k : Int) (n : Nat) : Nat := if kind = 0 then (if k = 0 ∨ k = 1 then 0 else 3) else if kind = 4 then (if 1 ≤ k ∧ k ≤ n then 0 else 3) else if k = 0 then 0 else 2
def chkNd (b : Int) (x : Nd) : Nat :=
  if x.kind < 0 ∨ 5 < x.kind then 7 else if argsOk x.kind x.args.length = false then 11
  else if x.args.all (fun a => decide (0 ≤ a ∧ a < b)) = false then 10 else chkK x.kind x.k x.args.length
def chkFrom (b : Int) : List Nd → Nat
  | [] => 0
  | x :: l => if chkNd b x = 0 then chkFrom (b + 1) l else chkNd b x
/-- arg is an event or a node. -/
def okArg (f : Fm) (arg : Int) : Bool := decide (0 ≤ f.vars ∧ 0 ≤ arg ∧ (arg < f.vars ∨ arg - f.vars < f.nodes.length))
def chkF (f : Fm) : Nat :=
  if f.vars < 0 ∨ 24 < f.vars then 3 else if 128 < f.nodes.length then 4 else if chkFrom f.vars f.nodes = 0 then (if okArg f f.top then 0 else 10) else chkFrom f.vars f.nodes
end Go.Proofs.Ytapniojbnochiaa

/-
  Formulas in memory. Walks: formula.arguments, checkNode.
-/
namespace Go.Proofs.Ytapniojbnochiaa
open Go.RowKit

def NodeAt (w : World) (b o : Nat) (x : Nd) : Prop :=
  ∃ u, w.cell? ⟨b, o, none⟩ = some (.int .i64 x.kind) ∧ w.cell? ⟨b, o + 1, none⟩ = some (.int .i64 x.k) ∧ w.cell? ⟨b, o + 2, none⟩ = some u ∧ IntsAt w u x.args
/-- A slice of nodes that can be read. -/
def NodesAt (w : World) (v : Value) (xs : List Nd) : Prop :=
  ∃ (a : Option Addr) (c : Nat), v = .slice a xs.length c ∧ (xs.length ≤ c ∧ (a = none → c = 0)) ∧ xs.length ≤ 140737488355328 ∧
    ∀ i (h : i < xs.length), ∃ b o, a = some ⟨b, o, none⟩ ∧ NodeAt w b (o + i * 3) xs[i]
theorem node_range {w : World} {b o : Nat} {kind k : Int} {u : Value} (h1 : w.cell? ⟨b, o, none⟩ = some (.int .i64 kind)) (h2 : w.cell? ⟨b, o + 1, none⟩ = some (.int .i64 k)) (h3 : w.cell? ⟨b, o + 2, none⟩ = some u) : w.rangeAt b o [.int .i64 kind, .int .i64 k, u] := by
  intro j v hj
  match j, hj with
  | 0, hj => simp at hj; subst hj; exact h1
  | 1, hj => simp at hj; subst hj; exact h2
  | 2, hj => simp at hj; subst hj; exact h3
theorem NodeAt.kept {w w' : World} {b o : Nat} {x : Nd} (h : NodeAt w b o x) (hk : Kept w w') : NodeAt w' b o x := by
  obtain ⟨u, h1, h2, h3, h4⟩ := h
  exact ⟨u, hk.cell h1, hk.cell h2, hk.cell h3, h4.kept hk⟩
theorem NodesAt.kept {w w' : World} {v : Value} {xs : List Nd} (h : NodesAt w v xs) (hk : Kept w w') : NodesAt w' v xs := by
  obtain ⟨a, c, h1, h2, h3, h4⟩ := h
  exact ⟨a, c, h1, h2, h3, fun i hi => let ⟨b, o, h5, h6⟩ := h4 i hi; ⟨b, o, h5, h6.kept hk⟩⟩

set_option maxHeartbeats 1000000 in
theorem arguments_any (kind : Int) (n : Nat) (w : World) : Calls Try.prog 91 #[.int .i64 kind, .int .i64 n] w fun e w' => e = .returned (.bool (argsOk kind n)) ∧ w = w' := by
  unfold argsOk
  by_cases h0 : kind = 0
  · subst h0
    go_enter Try.func91, Try.ntmps91
    go_wp2
    go_ret
    exact ⟨by simp; congr 1; rw [Bool.eq_iff_iff]; simp; try omega, rfl⟩
  · rw [if_neg h0]
    by_cases h1 : kind = 1
    · subst h1
      go_enter Try.func91, Try.ntmps91
      go_wp2
      go_ret
      exact ⟨by simp; congr 1; rw [Bool.eq_iff_iff]; simp; try omega, rfl⟩
    · rw [if_neg h1]
      have b0 : (kind == 0) = false := by simpa using h0
      have b1 : (kind == 1) = false := by simpa using h1
      clear h0 h1
      by_cases h2 : 1 ≤ n
      · by_cases h3 : n ≤ 16
        · rw [decide_eq_true ⟨h2, h3⟩]
          have h4 : (n : Int) ≤ 16 := by omega
          go_enter Try.func91, Try.ntmps91
          go_wp2
          go_ret
          exact ⟨rfl, rfl⟩
        · rw [decide_eq_false fun h => h3 h.2]
          have h4 : ¬ (n : Int) ≤ 16 := by omega
          go_enter Try.func91, Try.ntmps91
          go_wp2
          go_ret
          exact ⟨rfl, rfl⟩
      · rw [decide_eq_false fun h => h2 h.1]
        have h4 : ¬ (1 : Int) ≤ (n : Int) := by omega
        go_enter Try.func91, Try.ntmps91
        go_wp2
        go_ret
        exact ⟨rfl, rfl⟩
end Go.Proofs.Ytapniojbnochiaa

/-
  Plain: what lies below Top; valid formulas.
-/
namespace Go.Proofs.Ytapniojbnochiaa

def noNd : Nd := ⟨0, 0, []⟩
def markAll (m : List Bool) (args : List Int) : List Bool := args.foldl (fun m a => m.set a.toNat true) m
def belowGo (V : Nat) (nodes : List Nd) : Nat → List Bool → List Bool
  | 0, m => m
  | k + 1, m => belowGo V nodes k (if m.getD (V + k) false then markAll m (nodes.getD k noNd).args else m)
/-- The arguments below Top. -/
def belowK (V T : Nat) (nodes : List Nd) : List Bool := belowGo V nodes nodes.length ((List.replicate (V + nodes.length) false).set T true)
theorem len_markAll (args : List Int) : ∀ m, (markAll m args).length = m.length := by
  induction args with
  | nil => intro m; rfl
  | cons a l ih => intro m; show (markAll (m.set a.toNat true) l).length = _; rw [ih]; simp
theorem len_belowGo (V : Nat) (nodes : List Nd) : ∀ k m, (belowGo V nodes k m).length = m.length := by
  intro k
  induction k with
  | zero => intro m; rfl
  | succ k ih =>
    intro m
    unfold belowGo
    rw [ih]
    split
    · exact len_markAll _ _
    · rfl
theorem len_belowK (V T : Nat) (nodes : List Nd) : (belowK V T nodes).length = V + nodes.length := by
  unfold belowK; rw [len_belowGo]; simp

/-- A valid formula with V events. -/
structure Ok (f : Fm) (V T : Nat) : Prop where
  vars : f.vars = V
  top : f.top = T
  v24 : V ≤ 24
  n128 : f.nodes.length ≤ 128
  tlt : T < V + f.nodes.length
  kind : ∀ i (h : i < f.nodes.length), 0 ≤ f.nodes[i].kind ∧ f.nodes[i].kind ≤ 5
  args : ∀ i (h : i < f.nodes.length), ∀ a ∈ f.nodes[i].args, 0 ≤ a ∧ a < (V : Int) + i
  argc : ∀ i (h : i < f.nodes.length), argsOk f.nodes[i].kind f.nodes[i].args.length = true
  arity : ∀ i (h : i < f.nodes.length), chkK f.nodes[i].kind f.nodes[i].k f.nodes[i].args.length = 0
theorem argsOk_le {kind : Int} {n : Nat} (h : argsOk kind n = true) : n ≤ 16 := by
  unfold argsOk at h
  split at h
  · simp at h; omega
  · split at h
    · simp at h; omega
    · simp at h; omega
theorem chkNd_zero {b : Int} {x : Nd} (h : chkNd b x = 0) : (0 ≤ x.kind ∧ x.kind ≤ 5) ∧ argsOk x.kind x.args.length = true ∧ (∀ a ∈ x.args, 0 ≤ a ∧ a < b) ∧ chkK x.kind x.k x.args.length = 0 := by
  unfold chkNd at h
  split at h
  · cases h
  · split at h
    · cases h
    · split at h
      · cases h
      · rename_i h1 h2 h3
        refine ⟨by omega, by simpa using h2, ?_, h⟩
        rw [Bool.not_eq_false, List.all_eq_true] at h3
        intro a ha
        simpa using h3 a ha
theorem chkFrom_zero (b : Int) (xs : List Nd) (h : chkFrom b xs = 0) : ∀ i (hi : i < xs.length), chkNd (b + i) xs[i] = 0 := by
  induction xs generalizing b with
  | nil => intro i hi; simp at hi
  | cons x xs ih =>
    unfold chkFrom at h
    split at h
    · rename_i h0
      intro i hi
      cases i with
      | zero => simpa using h0
      | succ i =>
        have := ih (b + 1) h i (by simpa using hi)
        simpa [Int.add_assoc, Int.add_comm 1] using this
    · rename_i h0; exact absurd h h0
theorem ok_of (f : Fm) (h : chkF f = 0) : ∃ V T, Ok f V T := by
  unfold chkF at h
  split at h
  · cases h
  · split at h
    · cases h
    · split at h
      · rename_i h1 h2 h3
        split at h
        · rename_i h4
          simp only [okArg, decide_eq_true_eq] at h4
          obtain ⟨V, hV⟩ := Int.eq_ofNat_of_zero_le h4.1
          obtain ⟨T, hT⟩ := Int.eq_ofNat_of_zero_le h4.2.1
          have hz := chkFrom_zero _ _ h3
          refine ⟨V, T, hV, hT, by omega, by omega, by omega, ?_, ?_, ?_, ?_⟩
          · exact fun i hi => (chkNd_zero (hz i hi)).1
          · intro i hi a ha
            have := (chkNd_zero (hz i hi)).2.2.1 a ha
            omega
          · exact fun i hi => (chkNd_zero (hz i hi)).2.1
          · exact fun i hi => (chkNd_zero (hz i hi)).2.2.2
        · cases h
      · rename_i h3; exact absurd h h3
end Go.Proofs.Ytapniojbnochiaa

/-
  Walks: formula.below, bottomup.needed, faultlineref08.Below.
-/
namespace Go.Proofs.Ytapniojbnochiaa
open Go.RowKit

theorem getD_map_bool (m : List Bool) (i : Nat) (h : i < m.length) : (m.map Value.bool)[i]'(by simpa using h) = .bool (m.getD i false) := by
  simp [List.getD_eq_getElem?_getD, h]
set_option maxHeartbeats 4000000 in
theorem below_any (v : Value) (f : Fm) (V T : Nat) (w : World) (hv : NodesAt w v f.nodes) (hok : Ok f V T) :
    Calls Try.prog 72 #[.agg #[.int .i64 V, v, .int .i64 T]] w fun e w' => ∃ g, e = .returned (.slice (some ⟨g, 0, none⟩) (V + f.nodes.length) (V + f.nodes.length)) ∧ w.heap.size ≤ g ∧ RowAt w' g 4 ((belowK V T f.nodes).map .bool) ∧ Kept w w' := by
  obtain ⟨a, c, rfl, _, hl, hx⟩ := hv
  obtain ⟨n, hn⟩ : ∃ n, n = f.nodes.length := ⟨_, rfl⟩
  rw [← hn] at hl ⊢
  have hn9 : n ≤ 128 := by rw [hn]; exact hok.n128
  have hV9 := hok.v24
  have hT9 : T < V + n := by rw [hn]; exact hok.tlt
  obtain ⟨R, hR⟩ : ∃ R, R = belowK V T f.nodes := ⟨_, rfl⟩
  rw [← hR]
  have HX := Lib.hid hx
  have HN := Lib.hid hn
  have HO := Lib.hid hok
  have HR := Lib.hid hR
  have hTV : ((T : Nat) : Int) < ((V + n : Nat) : Int) := by omega
  have hTV2 : (T : Int) < (V : Int) + (n : Int) := by omega
  clear hx hn hok hR hl
  go_enter Try.func72, Try.ntmps72
  go_wp2_with (at_make; refine make_one 54 4 _ 1 info_bool Try.underlying54 rfl rfl _ _ rfl (V + n) (by show Value.int .i64 ((V : Int) + (n : Int)) = .int .i64 ((V + n : Nat) : Int); rw [Int.natCast_add]) (by show Value.int .i64 ((V : Int) + (n : Int)) = .int .i64 ((V + n : Nat) : Int); rw [Int.natCast_add]) (by omega) (by unfold maxLen; omega) ?_; intro w1 hr1 hk1; simp only [World.size_alloc] at hr1; have hs1 := hk1.size; simp only [World.size_alloc] at hs1; have c0 := hr1.cell (i := T) (by simp; omega); simp only [List.getElem_replicate] at c0; have f0 := hr1.free T; have b0 := hk1.cell (p := ⟨w.heap.size, 0, none⟩) (v := .int .i64 V) (by simp); have b1 := hk1.cell (p := ⟨w.heap.size, 1, none⟩) (v := .slice a n c) (by simp); have b2 := hk1.cell (p := ⟨w.heap.size, 2, none⟩) (v := .int .i64 T) (by simp); have HR1 := Lib.hid hr1; clear hr1)
  have hKb : Kept (w.alloc (.cells #[.int .i64 V, .slice a n c, .int .i64 T] 24)) (w1.setCell ⟨w.heap.size + 1, T, none⟩ (.bool true)) := hk1.store (by simp) _ _
  have hRow := HR1.out.store T (.bool true)
  have hRw : RowAt (w1.setCell ⟨w.heap.size + 1, T, none⟩ (.bool true)) (w.heap.size + 1) 4 ((((List.replicate (V + n) false).set T true)).map .bool) := by
    rw [List.map_set, List.map_replicate]; exact hRow
  clear hRow c0 f0 b0 b1 b2 hs1 hk1 HR1
  go_loopw [4, 6, 40] (fun i _ _ wr => ∃ (k : Nat) (m : List Bool), k ≤ n ∧ i = .int .i64 ((k : Int) - 1) ∧ Hid (m.length = V + n ∧ belowGo V f.nodes k m = R) ∧ RowAt wr (w.heap.size + 1) 4 (m.map .bool) ∧ Kept (w.alloc (.cells #[.int .i64 V, .slice a n c, .int .i64 T] 24)) wr) (fun i _ _ _ => (intOf i + 1).toNat)
  case atStart => exact ⟨n, _, Nat.le_refl _, rfl, Lib.hid ⟨by simp, by rw [HR.out, HN.out]; rfl⟩, hRw, hKb⟩
  case round =>
    clear hRw hKb
    obtain ⟨k, m, hk, rfl, HM, hrow, hK⟩ := hrel
    have hlen := HM.out.1
    by_cases hpos : 0 < k
    · obtain ⟨q, rfl⟩ : ∃ q, k = q + 1 := ⟨k - 1, by omega⟩
      have e1 : ((q + 1 : Nat) : Int) - 1 = (q : Int) := by omega
      rw [e1]
      have hqx : q < f.nodes.length := by have := HN.out; omega
      obtain ⟨b, o, rfl, u, hc1, hc2, hc3, hI⟩ := HX.out q hqx
      have hn3 := (((Kept.refl w).alloc (.cells #[.int .i64 V, .slice (some ⟨b, o, none⟩) n c, .int .i64 T] 24)).trans hK).cell hc3
      have b0 := hK.cell (p := ⟨w.heap.size, 0, none⟩) (v := .int .i64 V) (by simp)
      have b1 := hK.cell (p := ⟨w.heap.size, 1, none⟩) (v := .slice (some ⟨b, o, none⟩) n c) (by simp)
      have cm := hrow.cell (i := V + q) (by simp; omega)
      rw [getD_map_bool m (V + q) (by omega)] at cm
      have harg : ∀ x ∈ f.nodes[q].args, 0 ≤ x ∧ x < (V : Int) + q := HO.out.args q hqx
      have hgo : belowGo V f.nodes (q + 1) m = belowGo V f.nodes q (if m.getD (V + q) false then markAll m f.nodes[q].args else m) := by
        show belowGo V f.nodes q (if m.getD (V + q) false then markAll m (f.nodes.getD q noNd).args else m) = _
        rw [show f.nodes.getD q noNd = f.nodes[q] by simp [List.getD_eq_getElem?_getD, hqx]]
      obtain ⟨args, hargs⟩ : ∃ x, x = f.nodes[q].args := ⟨_, rfl⟩
      rw [← hargs] at harg hgo hI
      obtain ⟨ax, cx, rfl, _, hlx, hcx⟩ := hI
      obtain ⟨na, hna⟩ : ∃ x, x = args.length := ⟨_, rfl⟩
      rw [← hna] at hn3 hlx
      have hq1 : (0 : Int) ≤ (V : Int) + (q : Int) ∧ (V : Int) + (q : Int) < (V : Int) + (n : Int) := by omega
      have hq2 : (V : Int) + (q : Int) < ((V + n : Nat) : Int) := by omega
      have hq3 : (q : Int) < (n : Int) := by omega
      have HG := Lib.hid hgo
      have HAR := Lib.hid harg
      have HCX := Lib.hid hcx
      have HNA := Lib.hid hna
      have HROW := Lib.hid hrow
      have HKK := Lib.hid hK
      clear hc1 hc2 hc3 harg hgo hcx hna hargs hrow e1
      cases hmk : m.getD (V + q) false with
      | false =>
        rw [hmk] at cm
        have HMK := Lib.hid hmk
        clear hmk hK
        go_wp2
        go_roundw
        case rel => exact ⟨q, m, by omega, by go_num, Lib.hid ⟨hlen, by have := HM.out.2; rw [HG.out, HMK.out] at this; exact this⟩, HROW.out, HKK.out⟩
        case measure => simp [intOf]
      | true =>
        rw [hmk] at cm
        have HMK := Lib.hid hmk
        clear hmk hK
        go_wp2
        obtain ⟨wo, hwo⟩ : ∃ wo : World, wo = wr := ⟨_, rfl⟩
        rw [← hwo] at HROW HKK hn3 b0 b1 cm
        clear hn3 b0 b1 cm
        go_loopw [6, 40] (fun _ j wi => ∃ (p : Nat) (m2 : List Bool), p ≤ na ∧ j = .int .i64 p ∧ Hid (m2 = markAll m (args.take p)) ∧ RowAt wi (w.heap.size + 1) 4 (m2.map .bool) ∧ Kept (w.alloc (.cells #[.int .i64 V, .slice (some ⟨b, o, none⟩) n c, .int .i64 T] 24)) wi) (fun _ j _ => na - (intOf j).toNat)
        case atStart => exact ⟨0, m, Nat.zero_le _, rfl, Lib.hid rfl, by rw [← hwo]; exact HROW.out, by rw [← hwo]; exact HKK.out⟩
        case round =>
          obtain ⟨p, m2, hp, rfl, HM2, hrow2, hK2⟩ := hrel
          have hlen2 : m2.length = V + n := by rw [HM2.out, len_markAll]; exact hlen
          by_cases hpa : p < na
          · have hpx : p < args.length := by have := HNA.out; omega
            obtain ⟨b2, o2, rfl, hc0⟩ := HCX.out p hpx
            have hcell := (((Kept.refl w).alloc (.cells #[.int .i64 V, .slice (some ⟨b, o, none⟩) n c, .int .i64 T] 24)).trans hK2).cell hc0
            obtain ⟨y, hy⟩ : ∃ y, y = args[p] := ⟨_, rfl⟩
            have hy2 := HAR.out args[p] (List.getElem_mem _)
            rw [← hy] at hcell hy2
            obtain ⟨Y, hY⟩ := Int.eq_ofNat_of_zero_le hy2.1
            subst hY
            have hstep : markAll m (args.take (p + 1)) = (markAll m (args.take p)).set Y true := by
              unfold markAll
              rw [List.take_succ_eq_append_getElem hpx, List.foldl_append, ← hy]; simp
            have hYl : Y < V + n := by omega
            have cY := hrow2.cell (i := Y) (by simp; omega)
            rw [getD_map_bool m2 Y (by omega)] at cY
            have fY := hrow2.free Y
            have hnew := hrow2.store Y (.bool true)
            rw [← List.map_set] at hnew
            have hKn := hK2.store (g := w.heap.size + 1) (by simp) Y (.bool true)
            have hY1 : (Y : Int) < (V : Int) + (n : Int) := by omega
            have hY2 : (Y : Int) < ((V + n : Nat) : Int) := by omega
            have HST := Lib.hid hstep
            have HNW := Lib.hid hnew
            have HKN := Lib.hid hKn
            clear hc0 hy hstep hnew hKn hK2 hrow2 hlen2
            go_wp2
            go_roundw
            case rel => exact ⟨p + 1, _, by omega, by go_num, Lib.hid (by rw [HST.out, ← HM2.out]), HNW.out, HKN.out⟩
            case measure => simp [intOf]; omega
          · have e : p = na := by omega
            have hfin : m2 = markAll m args := by rw [HM2.out, e, List.take_of_length_le (by have := HNA.out; omega)]
            have HFIN := Lib.hid hfin
            have HR2 := Lib.hid hrow2
            have HK2 := Lib.hid hK2
            clear hfin e hrow2 hK2 hlen2
            go_wp2
            go_roundw
            case rel => exact ⟨q, m2, by omega, by go_num, Lib.hid ⟨by rw [HFIN.out, len_markAll]; exact hlen, by have := HM.out.2; rw [HG.out, HMK.out] at this; rw [HFIN.out]; exact this⟩, HR2.out, HK2.out⟩
            case measure => simp [intOf]
    · have e : k = 0 := by omega
      subst e
      have hRm : R = m := HM.out.2.symm
      have HRM := Lib.hid hRm
      have HRW := Lib.hid hrow
      have HKK := Lib.hid hK
      clear hRm hrow hK
      go_wp2
      go_ret
      exact ⟨_, rfl, by omega, by rw [HRM.out]; exact HRW.out, ((Kept.refl _).alloc _).trans HKK.out⟩
set_option maxHeartbeats 4000000 in
theorem needed_any (v : Value) (f : Fm) (V T : Nat) (w : World) (hv : NodesAt w v f.nodes) (hok : Ok f V T) :
    Calls Try.prog 57 #[.agg #[.int .i64 V, v, .int .i64 T]] w fun e w' => ∃ g, e = .returned (.slice (some ⟨g, 0, none⟩) (V + f.nodes.length) (V + f.nodes.length)) ∧ w.heap.size ≤ g ∧ RowAt w' g 4 ((belowK V T f.nodes).map .bool) ∧ Kept w w' := by
  obtain ⟨a, c, rfl, _, hl, hx⟩ := hv
  obtain ⟨n, hn⟩ : ∃ n, n = f.nodes.length := ⟨_, rfl⟩
  rw [← hn] at hl ⊢
  have hn9 : n ≤ 128 := by rw [hn]; exact hok.n128
  have hV9 := hok.v24
  have hT9 : T < V + n := by rw [hn]; exact hok.tlt
  obtain ⟨R, hR⟩ : ∃ R, R = belowK V T f.nodes := ⟨_, rfl⟩
  rw [← hR]
  have HX := Lib.hid hx
  have HN := Lib.hid hn
  have HO := Lib.hid hok
  have HR := Lib.hid hR
  have hTV : ((T : Nat) : Int) < ((V + n : Nat) : Int) := by omega
  have hTV2 : (T : Int) < (V : Int) + (n : Int) := by omega
  clear hx hn hok hR hl
  go_enter Try.func57, Try.ntmps57
  go_wp2_with (at_make; refine make_one 54 4 _ 1 info_bool Try.underlying54 rfl rfl _ _ rfl (V + n) (by show Value.int .i64 ((V : Int) + (n : Int)) = .int .i64 ((V + n : Nat) : Int); rw [Int.natCast_add]) (by show Value.int .i64 ((V : Int) + (n : Int)) = .int .i64 ((V + n : Nat) : Int); rw [Int.natCast_add]) (by omega) (by unfold maxLen; omega) ?_; intro w1 hr1 hk1; simp only [World.size_alloc] at hr1; have hs1 := hk1.size; simp only [World.size_alloc] at hs1; have c0 := hr1.cell (i := T) (by simp; omega); simp only [List.getElem_replicate] at c0; have f0 := hr1.free T; have b0 := hk1.cell (p := ⟨w.heap.size, 0, none⟩) (v := .int .i64 V) (by simp); have b1 := hk1.cell (p := ⟨w.heap.size, 1, none⟩) (v := .slice a n c) (by simp); have b2 := hk1.cell (p := ⟨w.heap.size, 2, none⟩) (v := .int .i64 T) (by simp); have HR1 := Lib.hid hr1; clear hr1)
  have hKb : Kept (w.alloc (.cells #[.int .i64 V, .slice a n c, .int .i64 T] 24)) (w1.setCell ⟨w.heap.size + 1, T, none⟩ (.bool true)) := hk1.store (by simp) _ _
  have hRow := HR1.out.store T (.bool true)
  have hRw : RowAt (w1.setCell ⟨w.heap.size + 1, T, none⟩ (.bool true)) (w.heap.size + 1) 4 ((((List.replicate (V + n) false).set T true)).map .bool) := by
    rw [List.map_set, List.map_replicate]; exact hRow
  clear hRow c0 f0 b0 b1 b2 hs1 hk1 HR1
  go_loopw [4, 6, 40] (fun i _ _ wr => ∃ (k : Nat) (m : List Bool), k ≤ n ∧ i = .int .i64 ((k : Int) - 1) ∧ Hid (m.length = V + n ∧ belowGo V f.nodes k m = R) ∧ RowAt wr (w.heap.size + 1) 4 (m.map .bool) ∧ Kept (w.alloc (.cells #[.int .i64 V, .slice a n c, .int .i64 T] 24)) wr) (fun i _ _ _ => (intOf i + 1).toNat)
  case atStart => exact ⟨n, _, Nat.le_refl _, rfl, Lib.hid ⟨by simp, by rw [HR.out, HN.out]; rfl⟩, hRw, hKb⟩
  case round =>
    clear hRw hKb
    obtain ⟨k, m, hk, rfl, HM, hrow, hK⟩ := hrel
    have hlen := HM.out.1
    by_cases hpos : 0 < k
    · obtain ⟨q, rfl⟩ : ∃ q, k = q + 1 := ⟨k - 1, by omega⟩
      have e1 : ((q + 1 : Nat) : Int) - 1 = (q : Int) := by omega
      rw [e1]
      have hqx : q < f.nodes.length := by have := HN.out; omega
      obtain ⟨b, o, rfl, u, hc1, hc2, hc3, hI⟩ := HX.out q hqx
      have hn3 := (((Kept.refl w).alloc (.cells #[.int .i64 V, .slice (some ⟨b, o, none⟩) n c, .int .i64 T] 24)).trans hK).cell hc3
      have b0 := hK.cell (p := ⟨w.heap.size, 0, none⟩) (v := .int .i64 V) (by simp)
      have b1 := hK.cell (p := ⟨w.heap.size, 1, none⟩) (v := .slice (some ⟨b, o, none⟩) n c) (by simp)
      have cm := hrow.cell (i := V + q) (by simp; omega)
      rw [getD_map_bool m (V + q) (by omega)] at cm
      have harg : ∀ x ∈ f.nodes[q].args, 0 ≤ x ∧ x < (V : Int) + q := HO.out.args q hqx
      have hgo : belowGo V f.nodes (q + 1) m = belowGo V f.nodes q (if m.getD (V + q) false then markAll m f.nodes[q].args else m) := by
        show belowGo V f.nodes q (if m.getD (V + q) false then markAll m (f.nodes.getD q noNd).args else m) = _
        rw [show f.nodes.getD q noNd = f.nodes[q] by simp [List.getD_eq_getElem?_getD, hqx]]
      obtain ⟨args, hargs⟩ : ∃ x, x = f.nodes[q].args := ⟨_, rfl⟩
      rw [← hargs] at harg hgo hI
      obtain ⟨ax, cx, rfl, _, hlx, hcx⟩ := hI
      obtain ⟨na, hna⟩ : ∃ x, x = args.length := ⟨_, rfl⟩
      rw [← hna] at hn3 hlx
      have hq1 : (0 : Int) ≤ (V : Int) + (q : Int) ∧ (V : Int) + (q : Int) < (V : Int) + (n : Int) := by omega
      have hq2 : (V : Int) + (q : Int) < ((V + n : Nat) : Int) := by omega
      have hq3 : (q : Int) < (n : Int) := by omega
      have HG := Lib.hid hgo
      have HAR := Lib.hid harg
      have HCX := Lib.hid hcx
      have HNA := Lib.hid hna
      have HROW := Lib.hid hrow
      have HKK := Lib.hid hK
      clear hc1 hc2 hc3 harg hgo hcx hna hargs hrow e1
      cases hmk : m.getD (V + q) false with
      | false =>
        rw [hmk] at cm
        have HMK := Lib.hid hmk
        clear hmk hK
        go_wp2
        go_roundw
        case rel => exact ⟨q, m, by omega, by go_num, Lib.hid ⟨hlen, by have := HM.out.2; rw [HG.out, HMK.out] at this; exact this⟩, HROW.out, HKK.out⟩
        case measure => simp [intOf]
      | true =>
        rw [hmk] at cm
        have HMK := Lib.hid hmk
        clear hmk hK
        go_wp2
        obtain ⟨wo, hwo⟩ : ∃ wo : World, wo = wr := ⟨_, rfl⟩
        rw [← hwo] at HROW HKK hn3 b0 b1 cm
        clear hn3 b0 b1 cm
        go_loopw [6, 40] (fun _ j wi => ∃ (p : Nat) (m2 : List Bool), p ≤ na ∧ j = .int .i64 p ∧ Hid (m2 = markAll m (args.take p)) ∧ RowAt wi (w.heap.size + 1) 4 (m2.map .bool) ∧ Kept (w.alloc (.cells #[.int .i64 V, .slice (some ⟨b, o, none⟩) n c, .int .i64 T] 24)) wi) (fun _ j _ => na - (intOf j).toNat)
        case atStart => exact ⟨0, m, Nat.zero_le _, rfl, Lib.hid rfl, by rw [← hwo]; exact HROW.out, by rw [← hwo]; exact HKK.out⟩
        case round =>
          obtain ⟨p, m2, hp, rfl, HM2, hrow2, hK2⟩ := hrel
          have hlen2 : m2.length = V + n := by rw [HM2.out, len_markAll]; exact hlen
          by_cases hpa : p < na
          · have hpx : p < args.length := by have := HNA.out; omega
            obtain ⟨b2, o2, rfl, hc0⟩ := HCX.out p hpx
            have hcell := (((Kept.refl w).alloc (.cells #[.int .i64 V, .slice (some ⟨b, o, none⟩) n c, .int .i64 T] 24)).trans hK2).cell hc0
            obtain ⟨y, hy⟩ : ∃ y, y = args[p] := ⟨_, rfl⟩
            have hy2 := HAR.out args[p] (List.getElem_mem _)
            rw [← hy] at hcell hy2
            obtain ⟨Y, hY⟩ := Int.eq_ofNat_of_zero_le hy2.1
            subst hY
            have hstep : markAll m (args.take (p + 1)) = (markAll m (args.take p)).set Y true := by
              unfold markAll
              rw [List.take_succ_eq_append_getElem hpx, List.foldl_append, ← hy]; simp
            have hYl : Y < V + n := by omega
            have cY := hrow2.cell (i := Y) (by simp; omega)
            rw [getD_map_bool m2 Y (by omega)] at cY
            have fY := hrow2.free Y
            have hnew := hrow2.store Y (.bool true)
            rw [← List.map_set] at hnew
            have hKn := hK2.store (g := w.heap.size + 1) (by simp) Y (.bool true)
            have hY1 : (Y : Int) < (V : Int) + (n : Int) := by omega
            have hY2 : (Y : Int) < ((V + n : Nat) : Int) := by omega
            have HST := Lib.hid hstep
            have HNW := Lib.hid hnew
            have HKN := Lib.hid hKn
            clear hc0 hy hstep hnew hKn hK2 hrow2 hlen2
            go_wp2
            go_roundw
            case rel => exact ⟨p + 1, _, by omega, by go_num, Lib.hid (by rw [HST.out, ← HM2.out]), HNW.out, HKN.out⟩
            case measure => simp [intOf]; omega
          · have e : p = na := by omega
            have hfin : m2 = markAll m args := by rw [HM2.out, e, List.take_of_length_le (by have := HNA.out; omega)]
            have HFIN := Lib.hid hfin
            have HR2 := Lib.hid hrow2
            have HK2 := Lib.hid hK2
            clear hfin e hrow2 hK2 hlen2
            go_wp2
            go_roundw
            case rel => exact ⟨q, m2, by omega, by go_num, Lib.hid ⟨by rw [HFIN.out, len_markAll]; exact hlen, by have := HM.out.2; rw [HG.out, HMK.out] at this; rw [HFIN.out]; exact this⟩, HR2.out, HK2.out⟩
            case measure => simp [intOf]
    · have e : k = 0 := by omega
      subst e
      have hRm : R = m := HM.out.2.symm
      have HRM := Lib.hid hRm
      have HRW := Lib.hid hrow
      have HKK := Lib.hid hK
      clear hRm hrow hK
      go_wp2
      go_ret
      exact ⟨_, rfl, by omega, by rw [HRM.out]; exact HRW.out, ((Kept.refl _).alloc _).trans HKK.out⟩
set_option maxHeartbeats 4000000 in
theorem refBelow_any (v : Value) (f : Fm) (V T : Nat) (w : World) (hv : NodesAt w v f.nodes) (hok : Ok f V T) :
    Calls Try.prog 38 #[.agg #[.int .i64 V, v, .int .i64 T]] w fun e w' => ∃ g, e = .returned (.slice (some ⟨g, 0, none⟩) (V + f.nodes.length) (V + f.nodes.length)) ∧ w.heap.size ≤ g ∧ RowAt w' g 4 ((belowK V T f.nodes).map .bool) ∧ Kept w w' := by
  obtain ⟨a, c, rfl, _, hl, hx⟩ := hv
  obtain ⟨n, hn⟩ : ∃ n, n = f.nodes.length := ⟨_, rfl⟩
  rw [← hn] at hl ⊢
  have hn9 : n ≤ 128 := by rw [hn]; exact hok.n128
  have hV9 := hok.v24
  have hT9 : T < V + n := by rw [hn]; exact hok.tlt
  obtain ⟨R, hR⟩ : ∃ R, R = belowK V T f.nodes := ⟨_, rfl⟩
  rw [← hR]
  have HX := Lib.hid hx
  have HN := Lib.hid hn
  have HO := Lib.hid hok
  have HR := Lib.hid hR
  have hTV : ((T : Nat) : Int) < ((V + n : Nat) : Int) := by omega
  have hTV2 : (T : Int) < (V : Int) + (n : Int) := by omega
  clear hx hn hok hR hl
  go_enter Try.func38, Try.ntmps38
  go_wp2_with (at_make; refine make_one 54 4 _ 1 info_bool Try.underlying54 rfl rfl _ _ rfl (V + n) (by show Value.int .i64 ((V : Int) + (n : Int)) = .int .i64 ((V + n : Nat) : Int); rw [Int.natCast_add]) (by show Value.int .i64 ((V : Int) + (n : Int)) = .int .i64 ((V + n : Nat) : Int); rw [Int.natCast_add]) (by omega) (by unfold maxLen; omega) ?_; intro w1 hr1 hk1; simp only [World.size_alloc] at hr1; have hs1 := hk1.size; simp only [World.size_alloc] at hs1; have c0 := hr1.cell (i := T) (by simp; omega); simp only [List.getElem_replicate] at c0; have f0 := hr1.free T; have b0 := hk1.cell (p := ⟨w.heap.size, 0, none⟩) (v := .int .i64 V) (by simp); have b1 := hk1.cell (p := ⟨w.heap.size, 1, none⟩) (v := .slice a n c) (by simp); have b2 := hk1.cell (p := ⟨w.heap.size, 2, none⟩) (v := .int .i64 T) (by simp); have HR1 := Lib.hid hr1; clear hr1)
  have hKb : Kept (w.alloc (.cells #[.int .i64 V, .slice a n c, .int .i64 T] 24)) (w1.setCell ⟨w.heap.size + 1, T, none⟩ (.bool true)) := hk1.store (by simp) _ _
  have hRow := HR1.out.store T (.bool true)
  have hRw : RowAt (w1.setCell ⟨w.heap.size + 1, T, none⟩ (.bool true)) (w.heap.size + 1) 4 ((((List.replicate (V + n) false).set T true)).map .bool) := by
    rw [List.map_set, List.map_replicate]; exact hRow
  clear hRow c0 f0 b0 b1 b2 hs1 hk1 HR1
  go_loopw [4, 6, 41] (fun i _ _ wr => ∃ (k : Nat) (m : List Bool), k ≤ n ∧ i = .int .i64 ((k : Int) - 1) ∧ Hid (m.length = V + n ∧ belowGo V f.nodes k m = R) ∧ RowAt wr (w.heap.size + 1) 4 (m.map .bool) ∧ Kept (w.alloc (.cells #[.int .i64 V, .slice a n c, .int .i64 T] 24)) wr) (fun i _ _ _ => (intOf i + 1).toNat)
  case atStart => exact ⟨n, _, Nat.le_refl _, rfl, Lib.hid ⟨by simp, by rw [HR.out, HN.out]; rfl⟩, hRw, hKb⟩
  case round =>
    clear hRw hKb
    obtain ⟨k, m, hk, rfl, HM, hrow, hK⟩ := hrel
    have hlen := HM.out.1
    by_cases hpos : 0 < k
    · obtain ⟨q, rfl⟩ : ∃ q, k = q + 1 := ⟨k - 1, by omega⟩
      have e1 : ((q + 1 : Nat) : Int) - 1 = (q : Int) := by omega
      rw [e1]
      have hqx : q < f.nodes.length := by have := HN.out; omega
      obtain ⟨b, o, rfl, u, hc1, hc2, hc3, hI⟩ := HX.out q hqx
      have hn3 := (((Kept.refl w).alloc (.cells #[.int .i64 V, .slice (some ⟨b, o, none⟩) n c, .int .i64 T] 24)).trans hK).cell hc3
      have b0 := hK.cell (p := ⟨w.heap.size, 0, none⟩) (v := .int .i64 V) (by simp)
      have b1 := hK.cell (p := ⟨w.heap.size, 1, none⟩) (v := .slice (some ⟨b, o, none⟩) n c) (by simp)
      have cm := hrow.cell (i := V + q) (by simp; omega)
      rw [getD_map_bool m (V + q) (by omega)] at cm
      have harg : ∀ x ∈ f.nodes[q].args, 0 ≤ x ∧ x < (V : Int) + q := HO.out.args q hqx
      have hgo : belowGo V f.nodes (q + 1) m = belowGo V f.nodes q (if m.getD (V + q) false then markAll m f.nodes[q].args else m) := by
        show belowGo V f.nodes q (if m.getD (V + q) false then markAll m (f.nodes.getD q noNd).args else m) = _
        rw [show f.nodes.getD q noNd = f.nodes[q] by simp [List.getD_eq_getElem?_getD, hqx]]
      obtain ⟨args, hargs⟩ : ∃ x, x = f.nodes[q].args := ⟨_, rfl⟩
      rw [← hargs] at harg hgo hI
      obtain ⟨ax, cx, rfl, _, hlx, hcx⟩ := hI
      obtain ⟨na, hna⟩ : ∃ x, x = args.length := ⟨_, rfl⟩
      rw [← hna] at hn3 hlx
      have hq1 : (0 : Int) ≤ (V : Int) + (q : Int) ∧ (V : Int) + (q : Int) < (V : Int) + (n : Int) := by omega
      have hq2 : (V : Int) + (q : Int) < ((V + n : Nat) : Int) := by omega
      have hq3 : (q : Int) < (n : Int) := by omega
      have HG := Lib.hid hgo
      have HAR := Lib.hid harg
      have HCX := Lib.hid hcx
      have HNA := Lib.hid hna
      have HROW := Lib.hid hrow
      have HKK := Lib.hid hK
      clear hc1 hc2 hc3 harg hgo hcx hna hargs hrow e1
      cases hmk : m.getD (V + q) false with
      | false =>
        rw [hmk] at cm
        have HMK := Lib.hid hmk
        clear hmk hK
        go_wp2
        go_roundw
        case rel => exact ⟨q, m, by omega, by go_num, Lib.hid ⟨hlen, by have := HM.out.2; rw [HG.out, HMK.out] at this; exact this⟩, HROW.out, HKK.out⟩
        case measure => simp [intOf]
      | true =>
        rw [hmk] at cm
        have HMK := Lib.hid hmk
        clear hmk hK
        go_wp2
        obtain ⟨wo, hwo⟩ : ∃ wo : World, wo = wr := ⟨_, rfl⟩
        rw [← hwo] at HROW HKK hn3 b0 b1 cm
        clear hn3 b0 b1 cm
        go_loopw [6, 41] (fun _ j wi => ∃ (p : Nat) (m2 : List Bool), p ≤ na ∧ j = .int .i64 p ∧ Hid (m2 = markAll m (args.take p)) ∧ RowAt wi (w.heap.size + 1) 4 (m2.map .bool) ∧ Kept (w.alloc (.cells #[.int .i64 V, .slice (some ⟨b, o, none⟩) n c, .int .i64 T] 24)) wi) (fun _ j _ => na - (intOf j).toNat)
        case atStart => exact ⟨0, m, Nat.zero_le _, rfl, Lib.hid rfl, by rw [← hwo]; exact HROW.out, by rw [← hwo]; exact HKK.out⟩
        case round =>
          obtain ⟨p, m2, hp, rfl, HM2, hrow2, hK2⟩ := hrel
          have hlen2 : m2.length = V + n := by rw [HM2.out, len_markAll]; exact hlen
          by_cases hpa : p < na
          · have hpx : p < args.length := by have := HNA.out; omega
            obtain ⟨b2, o2, rfl, hc0⟩ := HCX.out p hpx
            have hcell := (((Kept.refl w).alloc (.cells #[.int .i64 V, .slice (some ⟨b, o, none⟩) n c, .int .i64 T] 24)).trans hK2).cell hc0
            obtain ⟨y, hy⟩ : ∃ y, y = args[p] := ⟨_, rfl⟩
            have hy2 := HAR.out args[p] (List.getElem_mem _)
            rw [← hy] at hcell hy2
            obtain ⟨Y, hY⟩ := Int.eq_ofNat_of_zero_le hy2.1
            subst hY
            have hstep : markAll m (args.take (p + 1)) = (markAll m (args.take p)).set Y true := by
              unfold markAll
              rw [List.take_succ_eq_append_getElem hpx, List.foldl_append, ← hy]; simp
            have hYl : Y < V + n := by omega
            have cY := hrow2.cell (i := Y) (by simp; omega)
            rw [getD_map_bool m2 Y (by omega)] at cY
            have fY := hrow2.free Y
            have hnew := hrow2.store Y (.bool true)
            rw [← List.map_set] at hnew
            have hKn := hK2.store (g := w.heap.size + 1) (by simp) Y (.bool true)
            have hY1 : (Y : Int) < (V : Int) + (n : Int) := by omega
            have hY2 : (Y : Int) < ((V + n : Nat) : Int) := by omega
            have HST := Lib.hid hstep
            have HNW := Lib.hid hnew
            have HKN := Lib.hid hKn
            clear hc0 hy hstep hnew hKn hK2 hrow2 hlen2
            go_wp2
            go_roundw
            case rel => exact ⟨p + 1, _, by omega, by go_num, Lib.hid (by rw [HST.out, ← HM2.out]), HNW.out, HKN.out⟩
            case measure => simp [intOf]; omega
          · have e : p = na := by omega
            have hfin : m2 = markAll m args := by rw [HM2.out, e, List.take_of_length_le (by have := HNA.out; omega)]
            have HFIN := Lib.hid hfin
            have HR2 := Lib.hid hrow2
            have HK2 := Lib.hid hK2
            clear hfin e hrow2 hK2 hlen2
            go_wp2
            go_roundw
            case rel => exact ⟨q, m2, by omega, by go_num, Lib.hid ⟨by rw [HFIN.out, len_markAll]; exact hlen, by have := HM.out.2; rw [HG.out, HMK.out] at this; rw [HFIN.out]; exact this⟩, HR2.out, HK2.out⟩
            case measure => simp [intOf]
    · have e : k = 0 := by omega
      subst e
      have hRm : R = m := HM.out.2.symm
      have HRM := Lib.hid hRm
      have HRW := Lib.hid hrow
      have HKK := Lib.hid hK
      clear hRm hrow hK
      go_wp2
      go_ret
      exact ⟨_, rfl, by omega, by rw [HRM.out]; exact HRW.out, ((Kept.refl _).alloc _).trans HKK.out⟩
end Go.Proofs.Ytapniojbnochiaa
