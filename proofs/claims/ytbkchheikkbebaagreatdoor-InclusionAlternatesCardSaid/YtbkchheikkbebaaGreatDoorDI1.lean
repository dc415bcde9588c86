import Derived.Test.YtbkchheikkbebaaGreatDoorRows
import Derived.WalkKit
import Derived.WalkSpells
import Derived.WalkLawsBesides
import Derived.Deep.QuietTactic
import Derived.BigQuiet
import Derived.Lib.Hide
import Derived.Shelf.Abstract
import Derived.Deep.RegionWith
import Derived.Laws.AppendOwnNone
import Derived.Lib.AppendZerosOnto
import Derived.Lib.SliceRun
import Derived.Lib.SlicesCompact
import Derived.Shelf.SlSortCmp.NoneTotal
import Derived.Test.YtbkchheikkbebaaGreatDoorShelf
import Derived.Maps.OwnOps
import Derived.Maps.OwnSet
import Derived.Maps.Views
import Derived.Deep.MidRow
import Derived.Deep.RegionHeld3
import Derived.Deep.AppendLies
import Derived.Deep.RegionLaw
import Derived.IntWalk
import Derived.StillTailTactics
import Derived.ProofKit
import Derived.OpenShut
import Derived.SizedLaws
import Derived.Lib.SmallJoins
import Derived.Deep.Slices
import Derived.Deep.Fields
import Derived.Deep.Strs
import Derived.Carry
import Derived.Deep.DeepCutAuto
/-
  What the walks say of memory: slices of ints and of slices, and how such readings stay. Plain lemmas on worlds.
-/
namespace Go.Proofs.YtbkchheikkbebaaGreatDoor
open Go.RowKit

/-- No memory that lay there has changed. -/
abbrev Kept (w w' : World) : Prop := Below w.heap.size w w'

theorem Kept.refl (w : World) : Kept w w := Below.refl _ _
theorem Kept.trans {a b c : World} (h : Kept a b) (k : Kept b c) : Kept a c := Below.trans h (Below.mono k h.size)
theorem Kept.drew {a w : World} (h : Kept a w) : Kept a w.drew := Below.drew h
theorem Kept.alloc {a w : World} (h : Kept a w) (o : Obj) : Kept a (w.alloc o) := Below.alloc h h.size o
theorem Kept.cell {w w' : World} (h : Kept w w') {p : Addr} {v : Value} (hc : w.cell? p = some v) : w'.cell? p = some v :=
  (Below.cell h (World.block_lt_of_cell? w _ hc)).trans hc
theorem Kept.drewN {a w : World} (h : Kept a w) (n : Nat) : Kept a (w.drewN n) := ⟨h.os, h.tape, h.output, h.size, h.block⟩

theorem Kept.app {a b c : World} (h : Kept a b) (k : Below a.heap.size b c) : Kept a c := Below.trans h k

/-- A slice of ints that can be read. -/
def IntsAt (w : World) (v : Value) (xs : List Int) : Prop :=
  ∃ (a : Option Addr) (c : Nat), v = .slice a xs.length c ∧ (xs.length ≤ c ∧ (a = none → c = 0)) ∧ xs.length ≤ 140737488355328 ∧
    ∀ i (h : i < xs.length), ∃ b o, a = some ⟨b, o, none⟩ ∧ w.cell? ⟨b, o + i, none⟩ = some (.int .i64 xs[i])

theorem IntsAt.kept {w w' : World} {v : Value} {xs : List Int} (h : IntsAt w v xs) (hb : Kept w w') : IntsAt w' v xs := by
  obtain ⟨a, c, h1, h0, h2, h3⟩ := h
  refine ⟨a, c, h1, h0, h2, fun i hi => ?_⟩
  obtain ⟨b, o, h4, h5⟩ := h3 i hi
  exact ⟨b, o, h4, hb.cell h5⟩

theorem IntsAt.shape {w : World} {v : Value} {xs : List Int} (h : IntsAt w v xs) : ∃ a n c, v = .slice a n c := by
  obtain ⟨a, c, h1, _⟩ := h
  exact ⟨a, _, c, h1⟩

theorem IntsAt.nil (w : World) : IntsAt w (.slice none 0 0) [] := ⟨none, 0, rfl, ⟨by simp, fun _ => rfl⟩, by simp, fun i h => by simp at h⟩

/-- A slice whose cells hold values of which R speaks, each of one cell. -/
def RowsAt {α : Type} (R : World → Value → α → Prop) (w : World) (v : Value) (xs : List α) : Prop :=
  ∃ (a : Option Addr) (c : Nat), v = .slice a xs.length c ∧ (xs.length ≤ c ∧ (a = none → c = 0)) ∧ xs.length ≤ 140737488355328 ∧
    ∀ i (h : i < xs.length), ∃ b o u, a = some ⟨b, o, none⟩ ∧ w.cell? ⟨b, o + i, none⟩ = some u ∧ R w u xs[i]

/-- An error by its number; 0: none. -/
def errV (c : Nat) : Value := if c = 0 then .nilIface else .iface 50 (.int .i64 c)
theorem errV_zero : errV 0 = .nilIface := rfl
theorem errV_pos {c : Nat} (h : c ≠ 0) : errV c = .iface 50 (.int .i64 c) := by simp [errV, h]

/-- An int slice of the call's own. -/
def OwnInts (w : World) (B : Nat) (v : Value) (xs : List Int) : Prop :=
  w.ownsRow B 3 1 v xs.length (xs.map (Value.int .i64)) ∧ xs.length ≤ 140737488355328

theorem OwnInts.ints {w : World} {B : Nat} {v : Value} {xs : List Int} (h : OwnInts w B v xs) : IntsAt w v xs := by
  obtain ⟨⟨h1, h2⟩, h3⟩ := h
  rcases h2 with ⟨rfl, h4⟩ | ⟨g, cap, cur, rfl, h5, h6, h7, h8, h9, h10⟩
  · have : xs = [] := List.eq_nil_of_length_eq_zero h4
    subst this
    exact IntsAt.nil w
  · refine ⟨_, cap, rfl, ⟨h7, fun h => by cases h⟩, h3, fun i hi => ⟨g, 0, rfl, ?_⟩⟩
    have e1 : (cur.toList.take (xs.length * 1))[i]? = (xs.map (Value.int .i64))[i]? := by rw [h10]
    rw [List.getElem?_take_of_lt (by omega)] at e1
    simp only [World.cell?, h6, Nat.zero_add]
    simpa [hi] using e1

theorem own_kept {w w' : World} {B : Nat} {e : TypeId} {size : Nat} {v : Value} {n : Nat} {xs : List Value} (h : w.ownsRow B e size v n xs) (hb : Kept w w') : w'.ownsRow B e size v n xs := by
  obtain ⟨h1, h2⟩ := h
  refine ⟨h1, h2.imp id ?_⟩
  rintro ⟨g, cap, cur, h3, h4, h5, h6⟩
  have hg : g < w.heap.size := by
    rcases Nat.lt_or_ge g w.heap.size with h | h
    · exact h
    · simp [Array.getElem?_eq_none h] at h5
  exact ⟨g, cap, cur, h3, h4, (hb.block g hg).trans h5, h6⟩
theorem OwnInts.kept {w w' : World} {B : Nat} {v : Value} {xs : List Int} (h : OwnInts w B v xs) (hb : Kept w w') : OwnInts w' B v xs := ⟨own_kept h.1 hb, h.2⟩
theorem OwnInts.nil (w : World) (B : Nat) : OwnInts w B (.slice none 0 0) [] := ⟨World.ownsRow_nil _ _ _ _, by simp⟩
theorem own_mono {w : World} {B B' : Nat} {e : TypeId} {size : Nat} {v : Value} {n : Nat} {xs : List Value} (h : w.ownsRow B e size v n xs) (hb : B' ≤ B) : w.ownsRow B' e size v n xs := by
  obtain ⟨h1, h2⟩ := h
  refine ⟨h1, h2.imp id ?_⟩
  rintro ⟨g, cap, cur, h3, h4, h5⟩
  exact ⟨g, cap, cur, h3, by omega, h5⟩
theorem OwnInts.mono {w : World} {B B' : Nat} {v : Value} {xs : List Int} (h : OwnInts w B v xs) (hb : B' ≤ B) : OwnInts w B' v xs := ⟨own_mono h.1 hb, h.2⟩

/-- What an append to a row of the call's own leaves unchanged. -/
theorem grown_below {B : Nat} {w w' : World} {v : Value} {e : TypeId} {size n : Nat} {xs : List Value} (hg : w.grownBy w' v.ownBlock) (ho : w.ownsRow B e size v n xs) (hB : B ≤ w.heap.size) : Below B w w' :=
  Below.grown (Below.refl _ _) hg hB fun k hk => (ho.lt k hk).1

end Go.Proofs.YtbkchheikkbebaaGreatDoor

/-
  The laws of append, make and indexing for the slices of the call's own, in the words of B0.
-/
namespace Go.Proofs.YtbkchheikkbebaaGreatDoor
open Go.RowKit

theorem info_int : (Tryz.prog.info? 3).map (fun i => (i.zero, i.size, i.bytes)) = some (some (.int .i64 0), 1, 8) := by kernel_rfl
variable {ops : Array Oper} {rest : List Oper} {o : Oper} {a : Act} {Q : Exit → Act → World → Prop} {w : World}

/-- append of one cell to a row of the call's own. -/
theorem app_one (t e : TypeId) (z : Value) (bytes : Nat) (hi : (Tryz.prog.info? e).map (fun i => (i.zero, i.size, i.bytes)) = some (some z, 1, bytes)) (ht : Tryz.prog.underlying t = some (.slice e)) (hz : z.cells.size = 1) (hgd : o.guard = none) (s x : Operand)
    (ho : o.op = .call { callee := .builtin .append, args := #[s, x], argTypes := #[t, t] }) (B : Nat) (v : Value) (xs : List Value) (hs : a.eval s = v) (hown : w.ownsRow B e 1 v xs.length xs)
    (ad : Addr) (y : Value) (hx : a.eval x = .slice (some ad) 1 1) (hc : w.cell? ad = some y) (h1 : y.oneCell' = true) (hl : (xs.length + 1) * bytes ≤ 140737488355328) (hl2 : xs.length + 1 ≤ maxLen) (hB : B ≤ w.heap.size)
    (h : ∀ v' w', w'.ownsRow B e 1 v' (xs ++ [y]).length (xs ++ [y]) → w.grownBy w' v.ownBlock → Below B w w' → wpList Tryz.prog ops Q rest (a.put o.dst v') w') : wpList Tryz.prog ops Q (o :: rest) a w := by
  obtain ⟨i0, hi0, hz0, hz1, hz2⟩ := info_parts hi
  refine wpList_append_own _ hgd s x t ho B e i0 z 1 bytes ht hi0 hz0 hz1 hz2 hz (by decide) v xs.length xs hs hown ad 1 1 [y] hx rfl ?_ ?_ hl2 hl hB ?_
  · intro j u hj
    match j, hj with
    | 0, hj => simp at hj; subst hj; simpa [Addr.add] using hc
  · intro u hu; simp at hu; subst hu; exact h1
  · intro v' w' h2 h3 _
    refine h v' w' ?_ h3 (grown_below h3 hown hB)
    simpa using h2

theorem app_int (hgd : o.guard = none) (s x : Operand)
    (ho : o.op = .call { callee := .builtin .append, args := #[s, x], argTypes := #[22, 22] }) (B : Nat) (v : Value) (xs : List Int) (hs : a.eval s = v) (hown : OwnInts w B v xs)
    (ad : Addr) (y : Int) (hx : a.eval x = .slice (some ad) 1 1) (hc : w.cell? ad = some (.int .i64 y)) (hl : xs.length < 17592186044416) (hB : B ≤ w.heap.size)
    (h : ∀ v' w', OwnInts w' B v' (xs ++ [y]) → w.grownBy w' v.ownBlock → Below B w w' → wpList Tryz.prog ops Q rest (a.put o.dst v') w') : wpList Tryz.prog ops Q (o :: rest) a w := by
  refine app_one 22 3 _ 8 info_int Tryz.underlying22 rfl hgd s x ho B v (xs.map (.int .i64)) hs (by simpa using hown.1) ad _ hx hc rfl (by simp; omega) (by simp [maxLen]; omega) hB ?_
  intro v' w' h2 h3 h4
  refine h v' w' ⟨?_, by simp; omega⟩ h3 h4
  simpa using h2

/-- append of a whole slice of ints. -/
theorem app_ints (hgd : o.guard = none) (s x : Operand)
    (ho : o.op = .call { callee := .builtin .append, args := #[s, x], argTypes := #[22, 22] }) (B : Nat) (v : Value) (xs : List Int) (hs : a.eval s = v) (hown : OwnInts w B v xs)
    (u : Value) (ys : List Int) (hx : a.eval x = u) (hu : IntsAt w u ys) (hl : xs.length + ys.length ≤ 17592186044416) (hB : B ≤ w.heap.size)
    (h : ∀ v' w', OwnInts w' B v' (xs ++ ys) → (∀ k, k < w.heap.size → some k ≠ v.ownBlock → w'.heap[k]? = w.heap[k]?) → Below B w w' → wpList Tryz.prog ops Q rest (a.put o.dst v') w') : wpList Tryz.prog ops Q (o :: rest) a w := by
  obtain ⟨i0, hi0, hz0, hz1, hz2⟩ := info_parts info_int
  obtain ⟨ad, c, rfl, ⟨hc, hcn⟩, hl2, hcell⟩ := hu
  cases ad with
  | none =>
    have hy : ys = [] := by
      cases ys with
      | nil => rfl
      | cons y ys => obtain ⟨b, o, h, _⟩ := hcell 0 (by simp); cases h
    subst hy
    rw [hcn rfl] at hx
    refine wpList_append_own_none hgd s x 22 ho B 3 i0 1 Tryz.underlying22 hi0 v xs.length _ hs hown.1 hx ?_
    exact h v w (by simpa using hown) (fun _ _ _ => rfl) (Below.refl _ _)
  | some ad =>
    refine wpList_append_own _ hgd s x 22 ho B 3 i0 _ 1 8 Tryz.underlying22 hi0 hz0 hz1 hz2 rfl (by decide) v xs.length _ hs hown.1 ad ys.length c (ys.map (.int .i64)) hx (by simp) ?_ ?_ (by simp [maxLen]; omega) (by omega) hB ?_
    · intro j u hj
      have hj' : j < ys.length := by
        rcases Nat.lt_or_ge j ys.length with h | h
        · exact h
        · rw [List.getElem?_eq_none (by simpa using h)] at hj; cases hj
      obtain ⟨b, o, h1, h2⟩ := hcell j hj'
      cases h1
      simp [hj'] at hj
      subst hj
      rcases Nat.eq_zero_or_pos j with h0 | h0
      · subst h0; simpa [Addr.add] using h2
      · simpa [Addr.add, Nat.ne_of_gt h0] using h2
    · intro u hu; obtain ⟨y, _, rfl⟩ := List.mem_map.1 hu; rfl
    · intro v' w' h2 h3 _
      refine h v' w' ⟨by simpa using h2, by simp; omega⟩ (fun k hk hne => h3.block k hk hne) (grown_below h3 hown.1 hB)
end Go.Proofs.YtbkchheikkbebaaGreatDoor

/-
  Walks: sets.Valid, Cut, Has, Subset; slices.IndexFunc, ContainsFunc at []int.
-/
namespace Go.Proofs.YtbkchheikkbebaaGreatDoor
open Go.RowKit

theorem valid_any (s : Int) (w : World) : Calls Tryz.prog 101 #[.int .i64 s] w fun e w' => e = .returned (.bool (decide (0 ≤ s ∧ s ≤ 16777215))) ∧ w = w' := by
  by_cases h : 0 ≤ s
  · by_cases h2 : s ≤ 16777215
    all_goals
      go_enter Tryz.func101, Tryz.ntmps101
      go_wp2
      go_ret
      exact ⟨by simp [h, h2], rfl⟩
  · go_enter Tryz.func101, Tryz.ntmps101
    go_wp2
    go_ret
    exact ⟨by congr 2; simp; omega, rfl⟩
theorem cut_any (s : Int) (w : World) : Calls Tryz.prog 167 #[.int .i64 s] w fun e w' => e = .returned (.int .i64 (bits .and .i64 s 16777215)) ∧ w = w' := by
  go_enter Tryz.func167, Tryz.ntmps167
  go_wp2
  go_ret
  exact ⟨rfl, rfl⟩
def subB (a b : Int) : Bool := bits .andNot .i64 (bits .and .i64 a 16777215) b == 0
theorem subset_any (a b : Int) (w : World) : Calls Tryz.prog 104 #[.int .i64 a, .int .i64 b] w fun e w' => e = .returned (.bool (subB a b)) ∧ w = w' := by
  go_enter Tryz.func104, Tryz.ntmps104
  go_wp2_with (go_at_call 167; refine (cut_any _ _).mono ?_; rintro e w' ⟨rfl, rfl⟩)
  go_ret
  exact ⟨rfl, rfl⟩

/-- A function value that decides p, wherever it is called. -/
def Decides (g : Nat) (lb : Array Value) (p : Int → Bool) (w : World) : Prop :=
  ∀ (W : World) (x : Int), Kept w W → Calls Tryz.prog g (#[.int .i64 x] ++ lb) W fun e W' => e = .returned (.bool (p x)) ∧ Kept W W'

theorem contains_any (g : Nat) (lb : Array Value) (eg : ∀ args w, (callFunc g args).run Tryz.prog w = .ok (.enter g args) w) (p : Int → Bool) (v : Value) (xs : List Int) (w : World)
    (hp : Decides g lb p w) (hv : IntsAt w v xs) :
    Calls Tryz.prog 181 #[v, .func (.func g) #[] lb] w fun e w' => (∃ n : Int, e = .returned (.int .i64 n) ∧ (decide (0 ≤ n) = xs.any p)) ∧ Kept w w' := by
  obtain ⟨a, c, rfl, ⟨hc, _⟩, hl, hx⟩ := hv
  obtain ⟨n, hn⟩ : ∃ n, n = xs.length := ⟨_, rfl⟩
  have hbig : n ≤ 140737488355328 := by omega
  rw [← hn]
  have HX := Lib.hid hx
  have HN := Lib.hid hn
  have HP := Lib.hid hp
  clear hx hn hp hl hc
  go_enter Tryz.func181, Tryz.ntmps181
  go_wp2
  go_loopw [5, 8] (fun _ i wr => ∃ k : Nat, k ≤ n ∧ i = .int .i64 k ∧ Hid (∀ x ∈ xs.take k, p x = false) ∧ Kept w wr) (fun _ i _ => n - (intOf i).toNat)
  case atStart => exact ⟨0, Nat.zero_le _, rfl, Lib.hid (by simp), Kept.refl _⟩
  case round =>
    obtain ⟨k, hk, rfl, HF, hK⟩ := hrel
    by_cases hlt : k < n
    · have hkx : k < xs.length := by have := HN.out; omega
      obtain ⟨b, o, rfl, hcell⟩ := HX.out k hkx
      have hcell' := hK.cell hcell
      obtain ⟨x, hxx⟩ : ∃ x, x = xs[k] := ⟨_, rfl⟩
      rw [← hxx] at hcell hcell'
      have HXX := Lib.hid hxx
      clear hxx hcell
      cases hq : p x with
      | true =>
        have hcall := fun W h => HP.out W x h
        rw [hq] at hcall
        have HC := Lib.hid hcall
        clear hcall
        go_wp2_with (go_at_fn g; refine (HC.out _ hK).mono ?_; rintro e w' ⟨rfl, hK2⟩)
        go_ret
        refine ⟨⟨k, rfl, ?_⟩, hK.trans hK2⟩
        have : xs.any p = true := List.any_eq_true.2 ⟨x, by rw [HXX.out]; exact List.getElem_mem _, hq⟩
        rw [this]; simp
      | false =>
        have hcall := fun W h => HP.out W x h
        rw [hq] at hcall
        have HC := Lib.hid hcall
        clear hcall
        go_wp2_with (go_at_fn g; refine (HC.out _ hK).mono ?_; rintro e w' ⟨rfl, hK2⟩)
        go_roundw
        case rel =>
          refine ⟨k + 1, by omega, by go_num, Lib.hid ?_, hK.trans hK2⟩
          intro y hy
          rw [List.take_succ_eq_append_getElem hkx] at hy
          rcases List.mem_append.1 hy with hy | hy
          · exact HF.out y hy
          · simp at hy; rw [hy, ← HXX.out]; exact hq
        case measure => simp [intOf]; omega
    · go_wp2
      go_ret
      refine ⟨⟨-1, rfl, ?_⟩, hK⟩
      have hh := HF.out
      rw [List.take_of_length_le (by have := HN.out; omega)] at hh
      have : xs.any p = false := by rw [List.any_eq_false]; intro y hy; simp [hh y hy]
      rw [this]; rfl
end Go.Proofs.YtbkchheikkbebaaGreatDoor

/-
  Walks: slices.ContainsFunc; family.minimal.
-/
namespace Go.Proofs.YtbkchheikkbebaaGreatDoor
open Go.RowKit

theorem has_any (g : Nat) (lb : Array Value) (eg : ∀ args w, (callFunc g args).run Tryz.prog w = .ok (.enter g args) w) (p : Int → Bool) (v : Value) (xs : List Int) (w : World)
    (hp : Decides g lb p w) (hv : IntsAt w v xs) :
    Calls Tryz.prog 102 #[v, .func (.func g) #[] lb] w fun e w' => e = .returned (.bool (xs.any p)) ∧ Kept w w' := by
  have h := contains_any g lb eg p v xs w hp hv
  have H := Lib.hid h
  clear h hp hv eg
  obtain ⟨r, hr⟩ : ∃ r, r = xs.any p := ⟨_, rfl⟩
  rw [← hr] at H ⊢
  clear hr
  go_enter Tryz.func102, Tryz.ntmps102
  go_wp2_with (go_at_call 181; refine H.out.mono ?_; rintro e w' ⟨⟨n, rfl, hn⟩, hK⟩; have HN := Lib.hid hn; clear hn)
  go_ret
  exact ⟨by rw [← HN.out]; rfl, hK⟩

theorem decides_sub (s : Int) (B : Nat) (w : World) (hc : w.cell? ⟨B, 0, none⟩ = some (.int .i64 s)) : Decides 180 #[.pointer (some ⟨B, 0, none⟩)] (fun t => subB t s) w := by
  intro W x hK
  have hc' := hK.cell hc
  clear hc
  go_enter Tryz.func180, Tryz.ntmps180
  go_wp2_with (go_at_call 104; refine (subset_any _ _ _).mono ?_; rintro e w' ⟨rfl, rfl⟩)
  go_ret
  exact ⟨rfl, Kept.refl _⟩

def keepMin (out : List Int) (s : Int) : List Int := if out.any (fun t => subB t s) then out else out ++ [s]
def minOf (l : List Int) : List Int := l.foldl keepMin []
theorem keepMin_len (l : List Int) : ∀ out, (l.foldl keepMin out).length ≤ out.length + l.length := by
  induction l with
  | nil => intro out; simp
  | cons s l ih =>
    intro out
    simp only [List.foldl_cons, List.length_cons]
    refine Nat.le_trans (ih _) ?_
    unfold keepMin
    split <;> simp <;> omega
theorem minOf_take (l : List Int) (k : Nat) (h : k < l.length) : minOf (l.take (k + 1)) = keepMin (minOf (l.take k)) l[k] := by
  unfold minOf
  rw [List.take_succ_eq_append_getElem h, List.foldl_append]; rfl

theorem minimal_any (v : Value) (w : World) (xs : List Int) (hx : xs.length ≤ 8796093022208)
    (hs : Calls Tryz.prog 99 #[v] w fun e w' => ∃ v', e = .returned v' ∧ IntsAt w' v' xs ∧ Kept w w') :
    Calls Tryz.prog 100 #[v] w fun e w' => ∃ v', e = .returned v' ∧ OwnInts w' w.heap.size v' (minOf xs) ∧ Kept w w' := by
  have HS := Lib.hid hs
  clear hs
  obtain ⟨n, hn⟩ : ∃ n, n = xs.length := ⟨_, rfl⟩
  rw [← hn] at hx
  have HN := Lib.hid hn
  clear hn
  go_enter Tryz.func100, Tryz.ntmps100
  go_wp2_with (go_at_call 99; refine HS.out.mono ?_; rintro e w1 ⟨v', rfl, hI, hK1⟩; obtain ⟨a, c, rfl, ⟨hc, _⟩, hl, hcell⟩ := hI; have HX := Lib.hid hcell; clear hcell hc hl; rw [← HN.out])
  go_loopw [3, 9] (fun v i wr => ∃ k : Nat, k ≤ n ∧ i = .int .i64 k ∧ OwnInts wr w1.heap.size v (minOf (xs.take k)) ∧ Kept w1 wr) (fun _ i _ => n - (intOf i).toNat)
  case atStart => exact ⟨0, Nat.zero_le _, rfl, OwnInts.nil _ _, Kept.refl _⟩
  case round =>
    obtain ⟨k, hk, rfl, hown, hK⟩ := hrel
    have hB := hK.size
    by_cases hlt : k < n
    · have hkx : k < xs.length := by have := HN.out; omega
      obtain ⟨b, o, rfl, hc0⟩ := HX.out k hkx
      have hcell := hK.cell hc0
      obtain ⟨s, hs⟩ : ∃ x, x = xs[k] := ⟨_, rfl⟩
      rw [← hs] at hcell hc0
      have hstep := minOf_take xs k hkx
      rw [← hs] at hstep
      have hlen := keepMin_len (xs.take k) []
      obtain ⟨m, hm⟩ : ∃ m, m = minOf (xs.take k) := ⟨_, rfl⟩
      have hml : m.length ≤ k := by rw [hm]; refine Nat.le_trans hlen ?_; simp; omega
      rw [← hm] at hown hstep
      have HSt := Lib.hid hstep
      clear hstep hlen hs hm hc0
      have HO := Lib.hid hown
      clear hown
      cases hq : m.any (fun t => subB t s) with
      | true =>
        have HQ := Lib.hid hq
        clear hq
        go_wp2_with (go_at_call 102; refine (has_any _ _ (enters_of Tryz.func180 (by kernel_rfl) rfl) _ _ m _ (decides_sub s _ _ (by simp)) ((HO.out.kept ((Kept.refl _).alloc _)).ints)).mono ?_; rintro e w2 ⟨rfl, hK2⟩; rw [HQ.out])
        go_roundw
        case rel => exact ⟨k + 1, by omega, by go_num, by rw [HSt.out, keepMin, HQ.out]; exact HO.out.kept (((Kept.refl _).alloc _).trans hK2), hK.trans (((Kept.refl _).alloc _).trans hK2)⟩
        case measure => simp [intOf]; omega
      | false =>
        have HQ := Lib.hid hq
        clear hq
        go_wp2_with (first
          | (go_at_call 102; refine (has_any _ _ (enters_of Tryz.func180 (by kernel_rfl) rfl) _ _ m _ (decides_sub s _ _ (by simp)) ((HO.out.kept ((Kept.refl _).alloc _)).ints)).mono ?_; rintro e w2 ⟨rfl, hK2⟩; rw [HQ.out]; have hbox := hK2.cell (p := ⟨wr.heap.size, 0, none⟩) (v := .int .i64 s) (by simp); have hz := hK2.size)
          | (at_builtin; refine app_int rfl _ _ rfl w1.heap.size _ m rfl (HO.out.kept ((((Kept.refl _).alloc _).trans hK2).alloc _)) _ s rfl (by simp) (by omega) (by simp at hz ⊢; omega) ?_; intro v' w3 hown3 hg3 hb3))
        go_roundw
        case rel => exact ⟨k + 1, by omega, by go_num, by rw [HSt.out, keepMin, HQ.out]; exact hown3, (hK.trans ((((Kept.refl _).alloc _).trans hK2).alloc _)).app hb3⟩
        case measure => simp [intOf]; omega
    · go_wp2
      go_ret
      have e : k = n := by omega
      subst e
      rw [List.take_of_length_le (by have := HN.out; omega)] at hown
      exact ⟨_, rfl, hown.mono hK1.size, hK1.trans hK⟩
end Go.Proofs.YtbkchheikkbebaaGreatDoor

/-
  Plain numbers: what the bit operations are on masks; the number of bits by the swar sum.
-/
namespace Go.Proofs.YtbkchheikkbebaaGreatDoor
open Go.RowKit

theorem wrap_u64 (n : Nat) (h : n < 18446744073709551616) : IntKind.u64.wrap (n : Int) = n := by
  have h1 : IntKind.u64.wrap (n : Int) = (n : Int) % 18446744073709551616 := rfl
  rw [h1]; omega
theorem wrap_i64 (x : Int) (h0 : 0 ≤ x) (h : x < 9223372036854775808) : IntKind.i64.wrap x = x := by
  rw [IntKind.wrap_i64]; omega
theorem ofNat_toNat (n : Nat) (h : n < 18446744073709551616) : (BitVec.ofInt 64 (n : Int)).toNat = n := by
  simp; omega
theorem and_u64 (a b : Nat) (ha : a < 18446744073709551616) (hb : b < 18446744073709551616) : bits .and .u64 (a : Int) (b : Int) = ((a &&& b : Nat) : Int) := by
  have h : (BitVec.ofInt 64 (a : Int) &&& BitVec.ofInt 64 (b : Int)).toNat = a &&& b := by rw [BitVec.toNat_and, ofNat_toNat a ha, ofNat_toNat b hb]
  show IntKind.u64.wrap (((BitVec.ofInt 64 (a : Int) &&& BitVec.ofInt 64 (b : Int)).toNat : Nat) : Int) = _
  rw [h]; exact wrap_u64 _ (Nat.lt_of_le_of_lt Nat.and_le_left ha)
theorem and_i64 (a b : Nat) (ha : a < 9223372036854775808) (hb : b < 9223372036854775808) : bits .and .i64 (a : Int) (b : Int) = ((a &&& b : Nat) : Int) := by
  have h : (BitVec.ofInt 64 (a : Int) &&& BitVec.ofInt 64 (b : Int)).toNat = a &&& b := by rw [BitVec.toNat_and, ofNat_toNat a (by omega), ofNat_toNat b (by omega)]
  show IntKind.i64.wrap (((BitVec.ofInt 64 (a : Int) &&& BitVec.ofInt 64 (b : Int)).toNat : Nat) : Int) = _
  rw [h]; have := Nat.and_le_left (n := a) (m := b); exact wrap_i64 _ (by omega) (by omega)
theorem or_i64 (a b : Nat) (ha : a < 9223372036854775808) (hb : b < 9223372036854775808) : bits .or .i64 (a : Int) (b : Int) = ((a ||| b : Nat) : Int) := by
  have h : (BitVec.ofInt 64 (a : Int) ||| BitVec.ofInt 64 (b : Int)).toNat = a ||| b := by rw [BitVec.toNat_or, ofNat_toNat a (by omega), ofNat_toNat b (by omega)]
  show IntKind.i64.wrap (((BitVec.ofInt 64 (a : Int) ||| BitVec.ofInt 64 (b : Int)).toNat : Nat) : Int) = _
  rw [h]; have := Nat.or_lt_two_pow (n := 63) (x := a) (y := b) (by omega) (by omega); exact wrap_i64 _ (by omega) (by omega)
/-- a without b. -/
def sdiff (a b : Nat) : Nat := a ^^^ (a &&& b)
theorem andNot_i64 (a b : Nat) (ha : a < 9223372036854775808) (hb : b < 9223372036854775808) : bits .andNot .i64 (a : Int) (b : Int) = ((sdiff a b : Nat) : Int) := by
  have h : (BitVec.ofInt 64 (a : Int) &&& ~~~ BitVec.ofInt 64 (b : Int)).toNat = sdiff a b := by
    have e : BitVec.ofInt 64 (a : Int) &&& ~~~ BitVec.ofInt 64 (b : Int) = BitVec.ofInt 64 (a : Int) ^^^ (BitVec.ofInt 64 (a : Int) &&& BitVec.ofInt 64 (b : Int)) := by
      ext i hi
      simp only [BitVec.getElem_and, BitVec.getElem_not, BitVec.getElem_xor]
      cases (BitVec.ofInt 64 (a : Int))[i] <;> cases (BitVec.ofInt 64 (b : Int))[i] <;> rfl
    rw [e, BitVec.toNat_xor, BitVec.toNat_and, ofNat_toNat a (by omega), ofNat_toNat b (by omega)]; rfl
  show IntKind.i64.wrap (((BitVec.ofInt 64 (a : Int) &&& ~~~ BitVec.ofInt 64 (b : Int)).toNat : Nat) : Int) = _
  rw [h]
  have h2 : sdiff a b < 2 ^ 63 := Nat.xor_lt_two_pow (by omega) (Nat.lt_of_le_of_lt Nat.and_le_left (by omega))
  exact wrap_i64 _ (by omega) (by omega)

/-- The number of bits. -/
def pc (n : Nat) : Nat := if n = 0 then 0 else n % 2 + pc (n / 2)
decreasing_by omega
theorem and_256 (h l H L : Nat) (hl : l < 256) (hL : L < 256) : (256 * h + l) &&& (256 * H + L) = 256 * (h &&& H) + (l &&& L) := by
  have h1 : ((256 * h + l) &&& (256 * H + L)) % 2 ^ 8 = l &&& L := by
    rw [Nat.and_mod_two_pow]; congr 1 <;> omega
  have h2 : ((256 * h + l) &&& (256 * H + L)) / 2 ^ 8 = h &&& H := by
    rw [Nat.and_div_two_pow]; congr 1 <;> omega
  have := Nat.div_add_mod ((256 * h + l) &&& (256 * H + L)) (2 ^ 8)
  rw [h1, h2] at this
  omega
theorem and_bytes (a b c m : Nat) (ha : a < 256) (hb : b < 256) (M : Nat) (hm : m < 256) (hM : M = 256 * (256 * (256 * (M / 16777216) + m) + m) + m) (hc : c < 256) :
    (a + 256 * b + 65536 * c) &&& M = (a &&& m) + 256 * (b &&& m) + 65536 * (c &&& m) := by
  rw [hM, show a + 256 * b + 65536 * c = 256 * (256 * c + b) + a from by omega, and_256 _ _ _ _ ha hm, and_256 _ _ _ _ hb hm,
    show c = 256 * 0 + c from by omega, and_256 _ _ _ _ hc hm]
  simp; omega
def t1 (a : Nat) : Nat := (a / 2 &&& 0x55) + (a &&& 0x55)
def t2 (a : Nat) : Nat := (a / 4 &&& 0x33) + (a &&& 0x33)
def t3 (a : Nat) : Nat := (a / 16 + a) &&& 15
set_option maxRecDepth 100000 in
theorem byte1 : ∀ a < 256, (a / 2 &&& 0x55) = ((a / 2 + 128) &&& 0x55) ∧ t1 a < 171 := by decide
set_option maxRecDepth 100000 in
theorem byte2 : ∀ a < 171, ∀ r < 4, (a / 4 &&& 0x33) = ((a / 4 + 64 * r) &&& 0x33) ∧ t2 a < 103 ∧ t2 a % 16 < 7 := by decide

set_option maxRecDepth 100000 in
theorem byte3 : ∀ a < 103, ∀ r < 7, (a / 16 + 16 * r + a) &&& 15 = (t3 a) ∧ t3 a < 16 := by decide
set_option maxRecDepth 100000 in
theorem byte_pc : ∀ a < 256, t3 (t2 (t1 a)) < 9 := by decide
def s1 (x : Int) : Int := IntKind.u64.wrap (bits .and .u64 (x / 2) 6148914691236517205 + bits .and .u64 x 6148914691236517205)
def s2 (x : Int) : Int := IntKind.u64.wrap (bits .and .u64 (x / 4) 3689348814741910323 + bits .and .u64 x 3689348814741910323)
def s3 (x : Int) : Int := bits .and .u64 (IntKind.u64.wrap (x / 16 + x)) 1085102592571150095
def s4 (x : Int) : Int := IntKind.u64.wrap (x + x / 256)
def s5 (x : Int) : Int := IntKind.u64.wrap (x + x / 65536)
def s6 (x : Int) : Int := IntKind.u64.wrap (x + x / 4294967296)
theorem s1_bytes (a b c : Nat) (ha : a < 256) (hb : b < 256) (hc : c < 256) : s1 ((a + 256 * b + 65536 * c : Nat) : Int) = ((t1 a + 256 * t1 b + 65536 * t1 c : Nat) : Int) := by
  have e1 : ((a + 256 * b + 65536 * c : Nat) : Int) / 2 = (((a / 2 + 128 * (b % 2)) + 256 * (b / 2 + 128 * (c % 2)) + 65536 * (c / 2) : Nat) : Int) := by omega
  have hb2 : b % 2 = 0 ∨ b % 2 = 1 := by omega
  have hc2 : c % 2 = 0 ∨ c % 2 = 1 := by omega
  have ka := byte1 a ha
  have kb := byte1 b hb
  have kc := byte1 c hc
  unfold s1
  rw [e1, show (6148914691236517205 : Int) = ((6148914691236517205 : Nat) : Int) from rfl, and_u64 _ _ (by omega) (by decide), and_u64 _ _ (by omega) (by decide),
    and_bytes _ _ _ 0x55 (by omega) (by omega) _ (by decide) (by decide) (by omega), and_bytes _ _ _ 0x55 ha hb _ (by decide) (by decide) hc]
  have ea : (a / 2 + 128 * (b % 2)) &&& 0x55 = a / 2 &&& 0x55 := by
    rcases hb2 with h | h <;> rw [h]
    · rfl
    · exact ka.1.symm
  have eb : (b / 2 + 128 * (c % 2)) &&& 0x55 = b / 2 &&& 0x55 := by
    rcases hc2 with h | h <;> rw [h]
    · rfl
    · exact kb.1.symm
  rw [ea, eb]
  have ja := ka.2; have jb := kb.2; have jc := kc.2
  unfold t1 at *
  rw [show (((a / 2 &&& 85) + 256 * (b / 2 &&& 85) + 65536 * (c / 2 &&& 85) : Nat) : Int) + (((a &&& 85) + 256 * (b &&& 85) + 65536 * (c &&& 85) : Nat) : Int) = ((((a / 2 &&& 85) + (a &&& 85)) + 256 * ((b / 2 &&& 85) + (b &&& 85)) + 65536 * ((c / 2 &&& 85) + (c &&& 85)) : Nat) : Int) from by omega]
  exact wrap_u64 _ (by omega)
theorem s2_bytes (a b c : Nat) (ha : a < 171) (hb : b < 171) (hc : c < 171) : s2 ((a + 256 * b + 65536 * c : Nat) : Int) = ((t2 a + 256 * t2 b + 65536 * t2 c : Nat) : Int) := by
  have e1 : ((a + 256 * b + 65536 * c : Nat) : Int) / 4 = (((a / 4 + 64 * (b % 4)) + 256 * (b / 4 + 64 * (c % 4)) + 65536 * (c / 4) : Nat) : Int) := by omega
  have ka := byte2 a ha (b % 4) (by omega)
  have kb := byte2 b hb (c % 4) (by omega)
  have kc := byte2 c hc 0 (by omega)
  unfold s2
  rw [e1, show (3689348814741910323 : Int) = ((3689348814741910323 : Nat) : Int) from rfl, and_u64 _ _ (by omega) (by decide), and_u64 _ _ (by omega) (by decide),
    and_bytes _ _ _ 0x33 (by omega) (by omega) _ (by decide) (by decide) (by omega), and_bytes _ _ _ 0x33 (by omega) (by omega) _ (by decide) (by decide) (by omega), ← ka.1, ← kb.1]
  have ja := ka.2.1; have jb := kb.2.1; have jc := kc.2.1
  clear ka kb kc e1
  unfold t2 at *
  rw [show (((a / 4 &&& 51) + 256 * (b / 4 &&& 51) + 65536 * (c / 4 &&& 51) : Nat) : Int) + (((a &&& 51) + 256 * (b &&& 51) + 65536 * (c &&& 51) : Nat) : Int) = ((((a / 4 &&& 51) + (a &&& 51)) + 256 * ((b / 4 &&& 51) + (b &&& 51)) + 65536 * ((c / 4 &&& 51) + (c &&& 51)) : Nat) : Int) from by omega]
  exact wrap_u64 _ (by omega)
theorem s3_bytes (a b c : Nat) (ha : a < 103) (hb : b < 103) (hc : c < 103) (hb6 : b % 16 < 7) (hc6 : c % 16 < 7) : s3 ((a + 256 * b + 65536 * c : Nat) : Int) = ((t3 a + 256 * t3 b + 65536 * t3 c : Nat) : Int) := by
  have e1 : ((a + 256 * b + 65536 * c : Nat) : Int) / 16 + ((a + 256 * b + 65536 * c : Nat) : Int) = (((a / 16 + 16 * (b % 16) + a) + 256 * (b / 16 + 16 * (c % 16) + b) + 65536 * (c / 16 + c) : Nat) : Int) := by omega
  have ka := byte3 a ha (b % 16) hb6
  have kb := byte3 b hb (c % 16) hc6
  have kc := byte3 c hc 0 (by omega)
  unfold s3
  rw [e1, wrap_u64 _ (by omega), show (1085102592571150095 : Int) = ((1085102592571150095 : Nat) : Int) from rfl, and_u64 _ _ (by omega) (by decide),
    and_bytes _ _ _ 0x0f (by omega) (by omega) _ (by decide) (by decide) (by omega), ka.1, kb.1, show c / 16 + c = c / 16 + 16 * 0 + c from by omega, kc.1]
def pcS (x : Int) : Int := bits .and .i64 (wrap64 (s6 (s5 (s4 (s3 (s2 (s1 x))))))) 127
def pc3 (n : Nat) : Nat := t3 (t2 (t1 (n % 256))) + t3 (t2 (t1 (n / 256 % 256))) + t3 (t2 (t1 (n / 65536)))
theorem pcS_eq (n : Nat) (h : n < 16777216) : pcS (n : Int) = (pc3 n : Nat) := by
  unfold pcS pc3
  obtain ⟨a, ha⟩ : ∃ a, a = n % 256 := ⟨_, rfl⟩
  obtain ⟨b, hb⟩ : ∃ b, b = n / 256 % 256 := ⟨_, rfl⟩
  obtain ⟨c, hc⟩ : ∃ c, c = n / 65536 := ⟨_, rfl⟩
  rw [← ha, ← hb, ← hc]
  have e : n = a + 256 * b + 65536 * c := by omega
  have la : a < 256 := by omega
  have lb : b < 256 := by omega
  have lc : c < 256 := by omega
  clear ha hb hc h
  subst e
  have a1 := (byte1 a la).2; have b1 := (byte1 b lb).2; have c1 := (byte1 c lc).2
  have a2 := (byte2 _ a1 0 (by omega)).2; have b2 := (byte2 _ b1 0 (by omega)).2; have c2 := (byte2 _ c1 0 (by omega)).2
  have a3 := byte_pc a la; have b3 := byte_pc b lb; have c3 := byte_pc c lc
  rw [s1_bytes a b c la lb lc, s2_bytes _ _ _ a1 b1 c1, s3_bytes _ _ _ a2.1 b2.1 c2.1 b2.2 c2.2]
  generalize t3 (t2 (t1 a)) = x at *
  generalize t3 (t2 (t1 b)) = y at *
  generalize t3 (t2 (t1 c)) = z at *
  clear a1 b1 c1 a2 b2 c2 la lb lc
  have f4 : s4 ((x + 256 * y + 65536 * z : Nat) : Int) = ((x + y + 256 * (y + z) + 65536 * z : Nat) : Int) := by
    unfold s4
    rw [show ((x + 256 * y + 65536 * z : Nat) : Int) + ((x + 256 * y + 65536 * z : Nat) : Int) / 256 = ((x + y + 256 * (y + z) + 65536 * z : Nat) : Int) from by omega]
    exact wrap_u64 _ (by omega)
  have f5 : s5 ((x + y + 256 * (y + z) + 65536 * z : Nat) : Int) = ((x + y + z + 256 * (y + z) + 65536 * z : Nat) : Int) := by
    unfold s5
    rw [show ((x + y + 256 * (y + z) + 65536 * z : Nat) : Int) + ((x + y + 256 * (y + z) + 65536 * z : Nat) : Int) / 65536 = ((x + y + z + 256 * (y + z) + 65536 * z : Nat) : Int) from by omega]
    exact wrap_u64 _ (by omega)
  have f6 : s6 ((x + y + z + 256 * (y + z) + 65536 * z : Nat) : Int) = ((x + y + z + 256 * (y + z) + 65536 * z : Nat) : Int) := by
    unfold s6
    rw [show ((x + y + z + 256 * (y + z) + 65536 * z : Nat) : Int) + ((x + y + z + 256 * (y + z) + 65536 * z : Nat) : Int) / 4294967296 = ((x + y + z + 256 * (y + z) + 65536 * z : Nat) : Int) from by omega]
    exact wrap_u64 _ (by omega)
  rw [f4, f5, f6, show wrap64 ((x + y + z + 256 * (y + z) + 65536 * z : Nat) : Int) = ((x + y + z + 256 * (y + z) + 65536 * z : Nat) : Int) from by unfold wrap64; omega, show (127 : Int) = ((127 : Nat) : Int) from rfl, and_i64 _ _ (by omega) (by decide)]
  rw [show (127 : Nat) = 2 ^ 7 - 1 from rfl, Nat.and_two_pow_sub_one_eq_mod]
  omega
theorem pc_zero : pc 0 = 0 := by rw [pc, if_pos rfl]
theorem pc_one (m : Nat) : pc m = m % 2 + pc (m / 2) := by
  by_cases h0 : m = 0
  · subst h0; rw [pc_zero]
  · rw [pc, if_neg h0]
theorem pc_byte_step (n h : Nat) (hn : n < 256) : pc (256 * h + n) = pc n + pc h := by
  have key : ∀ k n, n < 2 ^ k → ∀ h, pc (2 ^ k * h + n) = pc n + pc h := by
    intro k
    induction k with
    | zero => intro n hn h; have : n = 0 := by simpa using hn
              subst this; rw [pc_zero]; simp
    | succ k ih =>
      intro n hn h
      rw [pc_one, pc_one n]
      have e1 : (2 ^ (k + 1) * h + n) % 2 = n % 2 := by rw [Nat.pow_succ, Nat.mul_comm (2 ^ k) 2, Nat.mul_assoc]; omega
      have e2 : (2 ^ (k + 1) * h + n) / 2 = 2 ^ k * h + n / 2 := by rw [Nat.pow_succ, Nat.mul_comm (2 ^ k) 2, Nat.mul_assoc]; omega
      rw [e1, e2, ih (n / 2) (by rw [Nat.pow_succ] at hn; omega) h]
      omega
  exact key 8 n hn h
theorem pc_256 : ∀ a < 256, t3 (t2 (t1 a)) = pc a := by
  have e : ∀ a, a < 256 → pc a = a % 2 + (a / 2 % 2 + (a / 4 % 2 + (a / 8 % 2 + (a / 16 % 2 + (a / 32 % 2 + (a / 64 % 2 + a / 128 % 2)))))) := by
    intro a ha
    rw [pc_one a, pc_one (a / 2), pc_one (a / 2 / 2), pc_one (a / 2 / 2 / 2), pc_one (a / 2 / 2 / 2 / 2), pc_one (a / 2 / 2 / 2 / 2 / 2), pc_one (a / 2 / 2 / 2 / 2 / 2 / 2), pc_one (a / 2 / 2 / 2 / 2 / 2 / 2 / 2)]
    rw [show a / 2 / 2 / 2 / 2 / 2 / 2 / 2 / 2 = 0 from by omega, pc_zero]
    omega
  have d : ∀ a < 256, t3 (t2 (t1 a)) = a % 2 + (a / 2 % 2 + (a / 4 % 2 + (a / 8 % 2 + (a / 16 % 2 + (a / 32 % 2 + (a / 64 % 2 + a / 128 % 2)))))) := by
    set_option maxRecDepth 100000 in decide
  intro a ha
  rw [d a ha, e a ha]
theorem pc3_eq (n : Nat) (h : n < 16777216) : pc3 n = pc n := by
  unfold pc3
  rw [pc_256 _ (by omega), pc_256 _ (by omega), pc_256 _ (by omega)]
  have e1 := pc_byte_step (n % 256) (n / 256) (by omega)
  have e2 := pc_byte_step (n / 256 % 256) (n / 65536) (by omega)
  rw [show 256 * (n / 256) + n % 256 = n from by omega] at e1
  rw [show 256 * (n / 65536) + n / 256 % 256 = n / 256 from by omega] at e2
  omega
theorem pcS_pc (n : Nat) (h : n < 16777216) : pcS (n : Int) = (pc n : Nat) := by rw [pcS_eq n h, pc3_eq n h]
end Go.Proofs.YtbkchheikkbebaaGreatDoor

/-
  Walks: math/bits.OnesCount, cmp.Compare[int], sets.Count, Compare.
-/
namespace Go.Proofs.YtbkchheikkbebaaGreatDoor
open Go.RowKit

theorem isNaN_any (x : Int) (w : World) : Calls Tryz.prog 267 #[.int .i64 x] w fun e w' => e = .returned (.bool false) ∧ w = w' := by
  go_enter Tryz.func267, Tryz.ntmps267
  go_wp2
  go_ret
  exact ⟨by simp, rfl⟩
def cmpI (x y : Int) : Int := if x < y then -1 else if y < x then 1 else 0
theorem cmp_any (x y : Int) (w : World) : Calls Tryz.prog 212 #[.int .i64 x, .int .i64 y] w fun e w' => e = .returned (.int .i64 (cmpI x y)) ∧ w = w' := by
  unfold cmpI
  by_cases h1 : x < y
  · rw [if_pos h1]
    go_enter Tryz.func212, Tryz.ntmps212
    go_wp2_with (go_at_call 267; refine (isNaN_any _ _).mono ?_; rintro e w' ⟨rfl, rfl⟩)
    go_ret
    exact ⟨rfl, rfl⟩
  · rw [if_neg h1]
    by_cases h2 : y < x
    · rw [if_pos h2]
      go_enter Tryz.func212, Tryz.ntmps212
      go_wp2_with (go_at_call 267; refine (isNaN_any _ _).mono ?_; rintro e w' ⟨rfl, rfl⟩)
      go_ret
      exact ⟨rfl, rfl⟩
    · rw [if_neg h2]
      go_enter Tryz.func212, Tryz.ntmps212
      go_wp2_with (go_at_call 267; refine (isNaN_any _ _).mono ?_; rintro e w' ⟨rfl, rfl⟩)
      go_ret
      exact ⟨rfl, rfl⟩
theorem ones64_any (x : Int) (w : World) : Calls Tryz.prog 241 #[.int .u64 x] w fun e w' => e = .returned (.int .i64 (pcS x)) ∧ w = w' := by
  go_enter Tryz.func241, Tryz.ntmps241
  go_wp2
  go_ret
  exact ⟨rfl, rfl⟩
theorem ones_any (x : Int) (w : World) : Calls Tryz.prog 192 #[.int .u64 x] w fun e w' => e = .returned (.int .i64 (pcS x)) ∧ w = w' := by
  go_enter Tryz.func192, Tryz.ntmps192
  go_wp2_with (go_at_call 241; refine (ones64_any _ _).mono ?_; rintro e w' ⟨rfl, rfl⟩)
  go_ret
  exact ⟨rfl, rfl⟩
/-- A set of events: a mask. -/
def Mk (n : Nat) : Prop := n < 16777216
theorem cut_mk {n : Nat} (h : Mk n) : bits .and .i64 (n : Int) 16777215 = n := by
  unfold Mk at h
  rw [show (16777215 : Int) = ((16777215 : Nat) : Int) from rfl, and_i64 _ _ (by omega) (by decide), show (16777215 : Nat) = 2 ^ 24 - 1 from rfl, Nat.and_two_pow_sub_one_eq_mod]
  omega
theorem cutk_any {n : Nat} (h : Mk n) (w : World) : Calls Tryz.prog 167 #[.int .i64 n] w fun e w' => e = .returned (.int .i64 n) ∧ w = w' := by
  have := cut_any n w
  rwa [cut_mk h] at this
theorem wrap_mk {n : Nat} (h : Mk n) : IntKind.u64.wrap (n : Int) = n := wrap_u64 n (by unfold Mk at h; omega)
theorem count_any {n : Nat} (h : Mk n) (w : World) : Calls Tryz.prog 213 #[.int .i64 n] w fun e w' => e = .returned (.int .i64 (pc n)) ∧ w = w' := by
  have hw := wrap_mk h
  have hp : pcS (n : Int) = (pc n : Nat) := pcS_pc n h
  have H := Lib.hid h
  clear h
  go_enter Tryz.func213, Tryz.ntmps213
  go_wp2_with (first
    | (go_at_call 167; refine (cutk_any H.out _).mono ?_; rintro e w' ⟨rfl, rfl⟩)
    | (go_at_call 192; refine (ones_any _ _).mono ?_; rintro e w' ⟨rfl, rfl⟩))
  go_ret
  exact ⟨rfl, rfl⟩
/-- The order of sets: by size, then as numbers. -/
def cmpK (a b : Nat) : Int := if pc a < pc b then -1 else if pc b < pc a then 1 else if a < b then -1 else if b < a then 1 else 0
theorem compare_any {a b : Nat} (ha : Mk a) (hb : Mk b) (w : World) : Calls Tryz.prog 154 #[.int .i64 a, .int .i64 b] w fun e w' => e = .returned (.int .i64 (cmpK a b)) ∧ w = w' := by
  have HA := Lib.hid ha
  have HB := Lib.hid hb
  clear ha hb
  obtain ⟨x, hx⟩ : ∃ x, x = cmpI (pc a) (pc b) := ⟨_, rfl⟩
  have HX := Lib.hid hx
  clear hx
  have hr : cmpK a b = if x == 0 then cmpI a b else x := by
    have := HX.out
    unfold cmpK
    unfold cmpI at this ⊢
    split at this
    · rw [if_pos (by omega)]; simp [this]
    · split at this
      · rw [if_neg (by omega), if_pos (by omega)]; simp [this]
      · rw [if_neg (by omega), if_neg (by omega)]; simp [this]
  rw [hr]
  clear hr
  cases hx0 : x == 0
  all_goals
    have hx1 : (x != 0) = !(x == 0) := rfl
    rw [hx0] at hx1
    simp only [Bool.not_true, Bool.not_false] at hx1
    go_enter Tryz.func154, Tryz.ntmps154
    go_wp2_with (first
      | (go_at_call 213; refine (count_any (by first | exact HA.out | exact HB.out) _).mono ?_; rintro e w' ⟨rfl, rfl⟩)
      | (go_at_call 212; refine (cmp_any _ _ _).mono ?_; rintro e w' ⟨rfl, rfl⟩; rw [← HX.out])
      | (go_at_call 212; refine (cmp_any _ _ _).mono ?_; rintro e w' ⟨rfl, rfl⟩)
      | (go_at_call 167; refine (cutk_any (by first | exact HA.out | exact HB.out) _).mono ?_; rintro e w' ⟨rfl, rfl⟩))
    go_ret
    exact ⟨rfl, rfl⟩
end Go.Proofs.YtbkchheikkbebaaGreatDoor

/-
  Plain lists: the one strictly ascending list of a set; slices.Compact of a sorted list; the order of sets by size, then as numbers.
-/
namespace Go.Proofs.YtbkchheikkbebaaGreatDoor
open Go.Lib Go.Sort Go.RowKit

theorem pair_unique {α : Type} (lt : α → α → Prop) (irr : ∀ a, ¬ lt a a) (tr : ∀ a b c, lt a b → lt b c → lt a c) :
    ∀ (l1 l2 : List α), l1.Pairwise lt → l2.Pairwise lt → (∀ x, x ∈ l1 ↔ x ∈ l2) → l1 = l2 := by
  intro l1
  induction l1 with
  | nil =>
    intro l2 _ _ h
    cases l2 with
    | nil => rfl
    | cons b l2 => exact absurd ((h b).2 (List.mem_cons_self ..)) (by simp)
  | cons a l1 ih =>
    intro l2 h1 h2 h
    cases l2 with
    | nil => exact absurd ((h a).1 (List.mem_cons_self ..)) (by simp)
    | cons b l2 =>
      rw [List.pairwise_cons] at h1 h2
      have hab : a = b := by
        rcases List.mem_cons.1 ((h a).1 (List.mem_cons_self ..)) with e | e
        · exact e
        · rcases List.mem_cons.1 ((h b).2 (List.mem_cons_self ..)) with e2 | e2
          · exact e2.symm
          · exact absurd (tr _ _ _ (h1.1 b e2) (h2.1 a e)) (irr a)
      subst hab
      congr 1
      refine ih l2 h1.2 h2.2 fun x => ⟨fun hx => ?_, fun hx => ?_⟩
      · rcases List.mem_cons.1 ((h x).1 (List.mem_cons_of_mem _ hx)) with e | e
        · subst e; exact absurd (h1.1 x hx) (irr x)
        · exact e
      · rcases List.mem_cons.1 ((h x).2 (List.mem_cons_of_mem _ hx)) with e | e
        · subst e; exact absurd (h2.1 x hx) (irr x)
        · exact e

theorem compact_sorted {α : Type} [Inhabited α] [DecidableEq α] (lt : α → α → Prop) (tr : ∀ a b c, lt a b → lt b c → lt a c) (d : Array α)
    (hs : ∀ i j, i < j → j < d.size → lt d[i]! d[j]! ∨ d[i]! = d[j]!) : ∀ m, m ≤ d.size → (compactUpTo d m).Pairwise lt ∧ ∀ x, x ∈ compactUpTo d m ↔ ∃ j, j < m ∧ d[j]! = x := by
  intro m
  induction m with
  | zero => intro _; simp [compactUpTo]
  | succ m ih =>
    intro hm
    obtain ⟨i1, i2⟩ := ih (by omega)
    rw [compactUpTo_succ]
    by_cases h0 : m = 0
    · subst h0
      simp [keeps, compactUpTo]
      exact fun x => eq_comm
    by_cases h : d[m]! = d[m - 1]!
    · rw [keeps_neg (by omega) h]
      simp only [Bool.false_eq_true, if_false, List.append_nil]
      refine ⟨i1, fun x => ?_⟩
      rw [i2]
      constructor
      · rintro ⟨j, hj, e⟩; exact ⟨j, by omega, e⟩
      · rintro ⟨j, hj, e⟩
        by_cases e2 : j = m
        · subst e2; exact ⟨j - 1, by omega, by rw [← e, h]⟩
        · exact ⟨j, by omega, e⟩
    · rw [keeps_pos h]
      simp only [if_true]
      refine ⟨?_, fun x => ?_⟩
      · rw [List.pairwise_append]
        refine ⟨i1, by simp, ?_⟩
        intro x hx y hy
        simp at hy
        subst hy
        obtain ⟨j, hj, e⟩ := (i2 x).1 hx
        subst e
        have hlast : lt d[m - 1]! d[m]! := (hs (m - 1) m (by omega) (by omega)).resolve_right (fun e => h e.symm)
        by_cases e3 : j = m - 1
        · subst e3; exact hlast
        · rcases hs j (m - 1) (by omega) (by omega) with e4 | e4
          · exact tr _ _ _ e4 hlast
          · rw [e4]; exact hlast
      · rw [List.mem_append, i2]
        simp only [List.mem_singleton]
        constructor
        · rintro (⟨j, hj, e⟩ | e)
          · exact ⟨j, by omega, e⟩
          · exact ⟨m, by omega, e.symm⟩
        · rintro ⟨j, hj, e⟩
          by_cases e2 : j = m
          · subst e2; exact .inr e.symm
          · exact .inl ⟨j, by omega, e⟩

/-- The order of sets. -/
def ltK (a b : Nat) : Prop := pc a < pc b ∨ pc a = pc b ∧ a < b
instance : DecidableRel ltK := fun a b => by unfold ltK; exact inferInstance
theorem ltK_irr (a : Nat) : ¬ ltK a a := by unfold ltK; omega
theorem ltK_tr (a b c : Nat) (h1 : ltK a b) (h2 : ltK b c) : ltK a c := by unfold ltK at *; omega
theorem ltK_total (a b : Nat) : ltK a b ∨ a = b ∨ ltK b a := by unfold ltK; omega
/-- x put into an ascending list, once. -/
def insK (x : Nat) : List Nat → List Nat
  | [] => [x]
  | y :: l => if ltK x y then x :: y :: l else if x = y then y :: l else y :: insK x l
/-- The sets of a list, sorted, each once. -/
def sortK : List Nat → List Nat
  | [] => []
  | x :: l => insK x (sortK l)
theorem mem_insK (x : Nat) (l : List Nat) (z : Nat) : z ∈ insK x l ↔ z = x ∨ z ∈ l := by
  induction l with
  | nil => simp [insK]
  | cons y l ih =>
    unfold insK
    split
    · simp
    · split
      · rename_i h; subst h; simp
      · simp [ih]; constructor <;> rintro (h | h | h) <;> simp [h]
theorem pair_insK (x : Nat) (l : List Nat) (h : l.Pairwise ltK) : (insK x l).Pairwise ltK := by
  induction l with
  | nil => simp [insK]
  | cons y l ih =>
    rw [List.pairwise_cons] at h
    unfold insK
    split
    · rename_i hx
      refine List.pairwise_cons.2 ⟨fun z hz => ?_, List.pairwise_cons.2 h⟩
      rcases List.mem_cons.1 hz with e | e
      · rw [e]; exact hx
      · exact ltK_tr _ _ _ hx (h.1 z e)
    · split
      · exact List.pairwise_cons.2 h
      · rename_i h1 h2
        refine List.pairwise_cons.2 ⟨fun z hz => ?_, ih h.2⟩
        rcases (mem_insK x l z).1 hz with e | e
        · rw [e]; rcases ltK_total x y with e2 | e2 | e2
          · exact absurd e2 h1
          · exact absurd e2 h2
          · exact e2
        · exact h.1 z e
theorem mem_sortK (l : List Nat) (z : Nat) : z ∈ sortK l ↔ z ∈ l := by
  induction l with
  | nil => simp [sortK]
  | cons x l ih => simp [sortK, mem_insK, ih]
theorem pair_sortK (l : List Nat) : (sortK l).Pairwise ltK := by
  induction l with
  | nil => simp [sortK]
  | cons x l ih => exact pair_insK x _ ih
theorem sortK_unique (l r : List Nat) (h : r.Pairwise ltK) (hm : ∀ x, x ∈ r ↔ x ∈ l) : r = sortK l :=
  pair_unique ltK ltK_irr ltK_tr r (sortK l) h (pair_sortK l) fun x => by rw [hm, mem_sortK]
theorem sortK_congr (l r : List Nat) (hm : ∀ x, x ∈ r ↔ x ∈ l) : sortK r = sortK l :=
  sortK_unique l (sortK r) (pair_sortK r) fun x => by rw [mem_sortK, hm]
theorem len_insK (x : Nat) (l : List Nat) : (insK x l).length ≤ l.length + 1 := by
  induction l with
  | nil => simp [insK]
  | cons y l ih =>
    unfold insK
    split
    · simp
    · split
      · simp
      · simp; omega
theorem len_sortK (l : List Nat) : (sortK l).length ≤ l.length := by
  induction l with
  | nil => simp [sortK]
  | cons x l ih => have := len_insK x (sortK l); simp [sortK]; omega
end Go.Proofs.YtbkchheikkbebaaGreatDoor

/-
  Walks: slices.Clone, SortFunc, Compact in the words of B0; family.sorted.
-/
namespace Go.Proofs.YtbkchheikkbebaaGreatDoor
open Go.RowKit Go.Lib Go.Sort Go.Shelf

theorem clone_any (v : Value) (xs : List Int) (w : World) (hv : IntsAt w v xs) (hl : xs.length ≤ 17592186044416) :
    Calls Tryz.prog 158 #[v] w fun e w' => ∃ v', e = .returned v' ∧ OwnInts w' w.heap.size v' xs ∧ Kept w w' := by
  obtain ⟨a, c, rfl, ⟨hc, _⟩, hl2, hx⟩ := hv
  cases a with
  | none =>
    have h0 : xs = [] := by
      cases xs with
      | nil => rfl
      | cons x xs => obtain ⟨b, o, h, _⟩ := hx 0 (by simp); cases h
    subst h0
    exact (Go.Proofs.Tryz.slices_Clone_int_nil _ _ _).mono fun e w' ⟨h1, h2⟩ => ⟨_, h1, by subst h2; exact OwnInts.nil _ _, by subst h2; exact Kept.refl _⟩
  | some a =>
    by_cases h0 : xs = []
    · subst h0
      exact (Go.Proofs.Tryz.slices_Clone_int_zero a c w).mono fun e w' ⟨v', h1, h2, _, h3⟩ => ⟨v', h1, ⟨by simpa using h2, by simp⟩, h3⟩
    · obtain ⟨b, o, h1, _⟩ := hx 0 (List.length_pos_iff.2 h0)
      cases h1
      refine (Go.Proofs.Tryz.slices_Clone_int b o xs.length c xs w (Nat.le_refl _) (by omega) ?_).mono fun e w' ⟨v', h1, h2, _, h3⟩ => ⟨v', h1, ⟨by simpa using h2, hl2⟩, h3⟩
      intro j hj
      obtain ⟨b', o', h2, h3⟩ := hx j hj
      cases h2
      rw [h3]; simp [hj]

/-- Numbers as ints. -/
abbrev ofN (ns : List Nat) : List Int := ns.map fun n : Nat => (n : Int)

/-- Masks as a type of their own. -/
abbrev MkT := Fin 16777216
def encM (n : MkT) : Value := .int .i64 (n.val : Int)
def cfM (a b : MkT) : Int := cmpK a.val b.val
theorem ltM (a b : MkT) : ltOf cfM a b = decide (ltK a.val b.val) := by
  unfold ltOf cfM cmpK ltK
  by_cases h1 : pc a.val < pc b.val
  · simp [h1]
  · by_cases h2 : pc b.val < pc a.val
    · have : ¬ pc a.val = pc b.val := by omega
      simp [h1, h2, this]
    · have : pc a.val = pc b.val := by omega
      by_cases h3 : a.val < b.val
      · simp [this, h3]
      · by_cases h4 : b.val < a.val <;> simp [this, h3, h4]
theorem swoM : SWO (ltOf cfM) where
  irrefl x := by rw [ltM]; simp [ltK_irr]
  trans x y z h1 h2 := by rw [ltM] at *; simp at *; exact ltK_tr _ _ _ h1 h2
  ntrans x y z h1 h2 := by rw [ltM] at *; simp at *; unfold ltK at *; omega
theorem totM (x y : MkT) (h1 : ltOf cfM x y = false) (h2 : ltOf cfM y x = false) : x = y := by
  rw [ltM] at *
  simp at *
  rcases ltK_total x.val y.val with h | h | h
  · exact absurd h h1
  · exact Fin.ext h
  · exact absurd h h2
theorem cmpLays (blk off size : Nat) (w : World) : CmpLays1 Tryz.prog 154 #[] encM cfM blk off size w := by
  refine CmpReads.lays fun m os dk _ x y => ?_
  exact (compare_any (show Mk x.val from x.isLt) (show Mk y.val from y.isLt) _).mono fun e w' ⟨h1, h2⟩ => ⟨h1, 0, by subst h2; rfl⟩

theorem heap_lt {w : World} {g : Nat} {o : Obj} (h : w.heap[g]? = some o) : g < w.heap.size := by
  rcases Nat.lt_or_ge g w.heap.size with h1 | h1
  · exact h1
  · simp [Array.getElem?_eq_none h1] at h
theorem heap_putRow {α : Type} [Inhabited α] (enc : α → Value) (w : World) (q g off : Nat) (d : Array α) {cur : Array Value} {e : TypeId} {fr : Nat × Nat} (h : w.heap[g]? = some (.cells cur e fr)) :
    (putRow enc (Sort.ahead w q) g off d).heap[g]? = some (.cells (putCells enc off d cur) e fr) := by
  show (w.heap.modify g (onCells (putCells enc off d)))[g]? = _
  simp [Array.getElem?_modify, h, onCells]
theorem heap_putRow_ne {α : Type} [Inhabited α] (enc : α → Value) (w : World) (q g off k : Nat) (d : Array α) (hk : k ≠ g) : (putRow enc (Sort.ahead w q) g off d).heap[k]? = w.heap[k]? := by
  show (w.heap.modify g (onCells (putCells enc off d)))[k]? = _
  simp [Array.getElem?_modify, Ne.symm hk]
theorem putCells_take {α : Type} [Inhabited α] (enc : α → Value) (d : Array α) (cur : Array Value) (n : Nat) (hd : d.size = n) (hc : n ≤ cur.size) :
    (putCells enc 0 d cur).size = cur.size ∧ (putCells enc 0 d cur).toList.take n = d.toList.map enc := by
  refine ⟨by simp [putCells], ?_⟩
  apply List.ext_getElem?
  intro i
  simp only [putCells, Array.toList_mapIdx, List.getElem?_take, List.getElem?_mapIdx, List.getElem?_map]
  by_cases h : i < n
  · have h1 : i < cur.toList.length := by simpa using (by omega : i < cur.size)
    have h2 : i < d.size := by omega
    rw [if_pos h, List.getElem?_eq_getElem h1]
    simp [h2, getElem!_pos, Nat.zero_add]
  · rw [if_neg h, List.getElem?_eq_none (by simp; omega)]; rfl

theorem sort_any (B : Nat) (v : Value) (ns : List Nat) (w : World) (hm : ∀ n ∈ ns, Mk n) (hv : OwnInts w B v (ofN ns)) (hB : B ≤ w.heap.size) :
    Calls Tryz.prog 153 #[v, .func (.func 154) #[] #[]] w fun e w' => e = .returned (.tuple #[]) ∧ ∃ rs : List Nat, (∀ n ∈ rs, Mk n) ∧ rs.length = ns.length ∧ rs.Pairwise (fun a b => ltK a b ∨ a = b) ∧ (∀ x, x ∈ rs ↔ x ∈ ns) ∧ OwnInts w' B v (ofN rs) ∧ Below B w w' := by
  obtain ⟨hv1, hv2⟩ := hv
  by_cases h0 : ns = []
  · subst h0
    have hv3 := hv1
    obtain ⟨_, h2⟩ := hv1
    have : ∃ p c, v = .slice p 0 c := by
      rcases h2 with ⟨h2, _⟩ | ⟨g, cap, cur, h2, _⟩
      · exact ⟨_, _, h2⟩
      · exact ⟨_, cap, by simpa using h2⟩
    obtain ⟨p, c, rfl⟩ := this
    exact (Go.Proofs.Tryz.slices_SortFunc_none (α := Nat) p c _ w).mono fun e w' ⟨h3, h4⟩ => ⟨h3, [], by simp, by simp, by simp, by simp, by subst h4; exact ⟨hv3, by simp⟩, by subst h4; exact Below.refl _ _⟩
  · obtain ⟨h1, h2⟩ := hv1
    rcases h2 with ⟨_, h2⟩ | ⟨g, cap, cur, rfl, hg, hh, hn, hcap, hsz, htk⟩
    · simp at h2; exact absurd h2 h0
    · obtain ⟨ds, hds⟩ : ∃ ds : List MkT, ds.map (fun n => n.val) = ns := ⟨ns.pmap (fun n (h : Mk n) => (⟨n, h⟩ : MkT)) hm, by rw [List.map_pmap]; simp⟩
      have hlen : ds.length = ns.length := by rw [← hds]; simp
      have hH : Holds encM w g 0 ds.toArray := by
        intro j hj
        have hj' : j < ns.length := by rw [← hlen]; simpa using hj
        refine ⟨?_, by simp [World.frozen?, hh]⟩
        have e1 : (cur.toList.take ((ofN ns).length * 1))[j]? = ((ofN ns).map (Value.int .i64))[j]? := by rw [htk]
        rw [List.getElem?_take_of_lt (by simpa using hj')] at e1
        simp only [World.cell?, hh, Nat.zero_add]
        rw [show cur[j]? = cur.toList[j]? from by simp]
        simp only [Option.isSome_none, Bool.false_eq_true, if_false]
        rw [e1]
        have hjd : j < ds.length := by simpa using hj
        have e2 : ns[j]? = some (ds[j].val) := by rw [← hds]; simp [hjd]
        have e3 : ns[j] = ds[j].val := by rw [List.getElem?_eq_getElem hj'] at e2; exact Option.some.inj e2
        simp [hj', encM, e3, getElem!_pos, hjd]
      have hS := Go.Proofs.Tryz.slices_SortFunc_total encM (fun _ => rfl) cfM swoM 154 #[] g 0 cap ds.toArray w (enters_of Tryz.func154 (by kernel_rfl) rfl) (cmpLays g 0 _ w) hH (heap_lt hh) (by simp at hv2 ⊢; omega) totM
      have el : (ofN ns).length = ds.toArray.size := by simp [hlen]
      rw [el]
      refine hS.mono fun e w' ⟨h3, n, os, h4⟩ => ⟨h3, ?_⟩
      clear hS h3
      obtain ⟨ms, hms⟩ : ∃ ms, ms = ds.toArray.toList.mergeSort fun x y => !(ltOf cfM) y x := ⟨_, rfl⟩
      rw [← hms] at h4
      have hperm : ms.Perm ds := by rw [hms]; simpa using List.mergeSort_perm ds _
      have hsorted : ms.Pairwise fun a b => (!(ltOf cfM) b a) = true := by
        rw [hms]
        refine List.pairwise_mergeSort (fun a b c h1 h2 => ?_) (fun a b => ?_) _
        · rw [ltM] at *; simp at *; unfold ltK at *; omega
        · rw [ltM, ltM]; simp; unfold ltK; omega
      have hml : ms.length = ds.length := hperm.length_eq
      refine ⟨ms.map (fun n => n.val), ?_, by simp [hml, hlen], ?_, ?_, ?_, ?_⟩
      · intro n hn; obtain ⟨m, _, rfl⟩ := List.mem_map.1 hn; exact m.isLt
      · rw [List.pairwise_map]
        refine hsorted.imp fun h => ?_
        rw [ltM] at h; simp at h
        rcases ltK_total _ _ with h5 | h5 | h5
        · exact .inl h5
        · exact .inr h5
        · exact absurd h5 h
      · intro x; rw [← hds]; simp [hperm.mem_iff]
      · subst h4
        have hg1 := heap_putRow encM w n g 0 ms.toArray hh
        have hps := putCells_take encM ms.toArray cur ms.length (by simp) (by rw [hsz]; simp at hn; omega)
        refine ⟨⟨by simp, .inr ⟨g, cap, putCells encM 0 ms.toArray cur, by simp [hml], hg, ?_, by simp at hn ⊢; omega, hcap, by rw [hps.1]; exact hsz, ?_⟩⟩, by simp at hv2 ⊢; omega⟩
        · rw [sortWorld, heap_grow_old _ _ (heap_lt hg1)]; exact hg1
        · have := hps.2
          simp only [List.length_map, Nat.mul_one]
          rw [this]; simp [encM]
      · subst h4
        refine ⟨rfl, rfl, rfl, ?_, fun k hk => ?_⟩
        · show w.heap.size ≤ ((w.heap.modify g _) ++ os).size
          simp
        · have hkg : k ≠ g := by omega
          rw [sortWorld, heap_grow_old _ _ (by show k < (w.heap.modify g _).size; simp; omega)]
          exact heap_putRow_ne encM w n g 0 k _ hkg
end Go.Proofs.YtbkchheikkbebaaGreatDoor

/-
  Walks: slices.Compact of a sorted row; family.sorted, minimal on masks.
-/
namespace Go.Proofs.YtbkchheikkbebaaGreatDoor
open Go.RowKit Go.Lib Go.Sort Go.Shelf

theorem compact_ofN (rs : List Nat) (hr : rs.Pairwise (fun a b => ltK a b ∨ a = b)) : Lib.compact (ofN rs) = ofN (sortK rs) := by
  have h := compact_sorted (α := Int) (fun a b => ltK a.toNat b.toNat) (fun a b c h1 h2 => ltK_tr _ _ _ h1 h2) (ofN rs).toArray (by
    intro i j hij hj
    have hj' : j < rs.length := by simpa using hj
    have hi' : i < rs.length := by omega
    have := List.pairwise_iff_getElem.1 hr i j hi' hj' hij
    simp only [ofN, List.getElem!_toArray, List.getElem!_eq_getElem?_getD, List.getElem?_map, List.getElem?_eq_getElem hj', List.getElem?_eq_getElem hi', Option.map_some, Option.getD_some, Int.toNat_natCast]
    rcases this with h | h
    · exact .inl h
    · exact .inr (by rw [h])) (ofN rs).length (by simp)
  show compactUpTo (ofN rs).toArray (ofN rs).length = _
  refine pair_unique (fun a b : Int => ltK a.toNat b.toNat) (fun a => ltK_irr _) (fun a b c h1 h2 => ltK_tr _ _ _ h1 h2) _ _ h.1 ?_ ?_
  · rw [List.pairwise_map]; simpa using pair_sortK rs
  · intro x
    rw [h.2]
    simp only [List.mem_map, mem_sortK]
    constructor
    · rintro ⟨j, hj, e⟩
      have hj' : j < rs.length := by simpa using hj
      refine ⟨rs[j], List.getElem_mem _, ?_⟩
      rw [← e]
      simp [hj']
    · rintro ⟨n, hn, rfl⟩
      obtain ⟨j, hj, e⟩ := List.getElem_of_mem hn
      exact ⟨j, by simpa using hj, by simp [hj, e]⟩

theorem compact_any (B : Nat) (v : Value) (ns : List Nat) (w : World) (hr : ns.Pairwise (fun a b => ltK a b ∨ a = b)) (hv : OwnInts w B v (ofN ns)) (hB : B ≤ w.heap.size) :
    Calls Tryz.prog 179 #[v] w fun e w' => ∃ v', e = .returned v' ∧ OwnInts w' B v' (ofN (sortK ns)) ∧ Below B w w' := by
  obtain ⟨hv1, hv2⟩ := hv
  by_cases h0 : ns = []
  · subst h0
    have hv3 := hv1
    obtain ⟨_, h2⟩ := hv1
    have : ∃ p c, v = .slice p 0 c := by
      rcases h2 with ⟨h2, _⟩ | ⟨g, cap, cur, h2, _⟩
      · exact ⟨_, _, h2⟩
      · exact ⟨_, cap, by simpa using h2⟩
    obtain ⟨p, c, rfl⟩ := this
    exact (Go.Proofs.Tryz.slices_Compact_int_empty p c w).mono fun e w' ⟨h3, h4⟩ => ⟨_, h3, by subst h4; exact ⟨hv3, by simp [sortK]⟩, by subst h4; exact Below.refl _ _⟩
  · obtain ⟨h1, h2⟩ := hv1
    rcases h2 with ⟨_, h2⟩ | ⟨g, cap, cur, rfl, hg, hh, hn, hcap, hsz, htk⟩
    · simp at h2; exact absurd h2 h0
    · have hH : Holds (Value.int .i64) w g 0 (ofN ns).toArray := by
        intro j hj
        have hj' : j < ns.length := by simpa using hj
        refine ⟨?_, by simp [World.frozen?, hh]⟩
        have e1 : (cur.toList.take ((ofN ns).length * 1))[j]? = ((ofN ns).map (Value.int .i64))[j]? := by rw [htk]
        rw [List.getElem?_take_of_lt (by simpa using hj')] at e1
        simp only [World.cell?, hh, Nat.zero_add]
        rw [show cur[j]? = cur.toList[j]? from by simp]
        simp only [Option.isSome_none, Bool.false_eq_true, if_false]
        rw [e1]
        simp [hj']
      have hS := Go.Proofs.Tryz.slices_Compact_int g 0 cap (ofN ns) w hH (by omega) hn
      refine hS.mono fun e w' ⟨h3, q, h4⟩ => ⟨_, h3, ?_, ?_⟩
      · clear hS h3
        subst h4
        have hlen := compact_length_le (ofN ns)
        obtain ⟨zs, hzs⟩ : ∃ zs, zs = (Lib.compact (ofN ns) ++ List.replicate ((ofN ns).length - (Lib.compact (ofN ns)).length) 0).toArray := ⟨_, rfl⟩
        rw [← hzs]
        have hzl : zs.size = (ofN ns).length := by rw [hzs]; simp at hlen ⊢; omega
        have hg1 := heap_putRow (Value.int .i64) w q g 0 zs hh
        have hps := putCells_take (Value.int .i64) zs cur (ofN ns).length hzl (by rw [hsz]; omega)
        rw [compact_ofN ns hr] at hzs hlen ⊢
        refine ⟨⟨by simp, .inr ⟨g, cap, putCells (Value.int .i64) 0 zs cur, rfl, hg, hg1, by omega, hcap, by rw [hps.1]; exact hsz, ?_⟩⟩, by omega⟩
        have e2 := congrArg (List.take (ofN (sortK ns)).length) hps.2
        rw [List.take_take, Nat.min_eq_left hlen] at e2
        rw [Nat.mul_one, e2, hzs]
        simp
      · subst h4
        refine ⟨rfl, rfl, rfl, ?_, fun k hk => heap_putRow_ne _ w q g 0 k _ (by omega)⟩
        show w.heap.size ≤ (w.heap.modify g _).size
        simp

set_option maxHeartbeats 400000 in
theorem sorted_any (v : Value) (ns : List Nat) (w : World) (hm : ∀ n ∈ ns, Mk n) (hv : IntsAt w v (ofN ns)) (hl : ns.length ≤ 17592186044416) :
    Calls Tryz.prog 99 #[v] w fun e w' => ∃ v', e = .returned v' ∧ OwnInts w' w.heap.size v' (ofN (sortK ns)) ∧ Kept w w' := by
  have H1 := Lib.hid (clone_any v _ w hv (by simpa using hl))
  have HM := Lib.hid hm
  clear hv hm hl
  go_enter Tryz.func99, Tryz.ntmps99
  go_wp2_with (first
    | (go_at_call 158; refine H1.out.mono ?_; rintro e w1 ⟨v1, rfl, ho1, hk1⟩; have hs1 := hk1.size; have O1 := Lib.hid ho1; clear ho1)
    | (go_at_call 153; refine (sort_any w.heap.size v1 ns w1 HM.out O1.out hs1).mono ?_; rintro e w2 ⟨rfl, rs, hr1, hr2, hr3, hr4, ho2, hb2⟩; have O2 := Lib.hid ho2; have R3 := Lib.hid hr3; have R4 := Lib.hid hr4; clear ho2 hr1 hr2 hr3 hr4)
    | (go_at_call 179; refine (compact_any w.heap.size v1 rs w2 R3.out O2.out (Nat.le_trans hs1 hb2.size)).mono ?_; rintro e w3 ⟨v3, rfl, ho3, hb3⟩))
  go_ret
  refine ⟨_, rfl, ?_, (hk1.app hb2).app hb3⟩
  have e : sortK rs = sortK ns := sortK_congr ns rs R4.out
  rw [e] at ho3
  exact ho3

/-- a is a part of b. -/
def subN (a b : Nat) : Bool := sdiff a b == 0
theorem subB_subN {a b : Nat} (ha : Mk a) (hb : Mk b) : subB (a : Int) (b : Int) = subN a b := by
  unfold subB subN
  rw [cut_mk ha, andNot_i64 a b (by unfold Mk at ha; omega) (by unfold Mk at hb; omega)]
  rw [Bool.eq_iff_iff]; simp
def keepN (out : List Nat) (s : Nat) : List Nat := if out.any (fun t => subN t s) then out else out ++ [s]
def minN (l : List Nat) : List Nat := l.foldl keepN []
theorem mem_minN (l : List Nat) : ∀ out x, x ∈ l.foldl keepN out → x ∈ out ∨ x ∈ l := by
  induction l with
  | nil => intro out x h; exact .inl h
  | cons s l ih =>
    intro out x h
    rcases ih _ x h with h | h
    · unfold keepN at h
      split at h
      · exact .inl h
      · rcases List.mem_append.1 h with h | h
        · exact .inl h
        · simp at h; subst h; exact .inr (List.mem_cons_self ..)
    · exact .inr (List.mem_cons_of_mem _ h)
theorem minOf_ofN (l : List Nat) (hl : ∀ n ∈ l, Mk n) : minOf (ofN l) = ofN (minN l) := by
  have key : ∀ (l : List Nat) (out : List Nat), (∀ n ∈ l, Mk n) → (∀ n ∈ out, Mk n) → (ofN l).foldl keepMin (ofN out) = ofN (l.foldl keepN out) := by
    intro l
    induction l with
    | nil => intro out _ _; rfl
    | cons s l ih =>
      intro out h1 h2
      have hs : Mk s := h1 s (List.mem_cons_self ..)
      have e : keepMin (ofN out) (s : Int) = ofN (keepN out s) := by
        unfold keepMin keepN
        have e1 : (ofN out).any (fun t => subB t s) = out.any (fun t => subN t s) := by
          rw [List.any_map]
          rw [Bool.eq_iff_iff, List.any_eq_true, List.any_eq_true]
          constructor
          · rintro ⟨x, hx, h⟩; exact ⟨x, hx, by rw [← subB_subN (h2 x hx) hs]; exact h⟩
          · rintro ⟨x, hx, h⟩; exact ⟨x, hx, by simp only [Function.comp]; rw [subB_subN (h2 x hx) hs]; exact h⟩
        rw [e1]
        split
        · rfl
        · simp
      have h3 := ih (keepN out s) (fun n hn => h1 n (List.mem_cons_of_mem _ hn)) (fun n hn => by
        unfold keepN at hn
        split at hn
        · exact h2 n hn
        · rcases List.mem_append.1 hn with h | h
          · exact h2 n h
          · simp at h; subst h; exact hs)
      show (ofN l).foldl keepMin (keepMin (ofN out) (s : Int)) = _
      rw [e, h3]; rfl
  exact key l [] hl (by simp)
/-- The minimal sets of a list, sorted. -/
def minK (l : List Nat) : List Nat := minN (sortK l)
theorem mem_minK {l : List Nat} {x : Nat} (h : x ∈ minK l) : x ∈ l := by
  rcases mem_minN _ _ _ h with h | h
  · simp at h
  · exact (mem_sortK _ _).1 h
theorem len_minN (l : List Nat) : ∀ out, (l.foldl keepN out).length ≤ out.length + l.length := by
  induction l with
  | nil => intro out; simp
  | cons s l ih =>
    intro out
    refine Nat.le_trans (ih _) ?_
    unfold keepN
    split <;> simp <;> omega
theorem minimalK_any (v : Value) (ns : List Nat) (w : World) (hm : ∀ n ∈ ns, Mk n) (hv : IntsAt w v (ofN ns)) (hl : ns.length ≤ 8796093022208) :
    Calls Tryz.prog 100 #[v] w fun e w' => ∃ v', e = .returned v' ∧ OwnInts w' w.heap.size v' (ofN (minK ns)) ∧ Kept w w' := by
  have hlen := len_sortK ns
  refine (minimal_any v w (ofN (sortK ns)) (by simp; omega) ?_).mono fun e w' ⟨v', h1, h2, h3⟩ => ⟨v', h1, ?_, h3⟩
  · exact (sorted_any v ns w hm hv (by omega)).mono fun e w' ⟨v', h1, h2, h3⟩ => ⟨v', h1, h2.ints, h3⟩
  · rw [minOf_ofN _ fun n hn => hm n ((mem_sortK _ _).1 hn)] at h2
    exact h2
end Go.Proofs.YtbkchheikkbebaaGreatDoor

/-
  Walks: family.lists; slices.Grow of nil, Concat; family.sized, Plus.
-/
namespace Go.Proofs.YtbkchheikkbebaaGreatDoor
open Go.RowKit

def listsC (xss : List (List Int)) : Nat := if xss.all (fun xs => decide (xs.length ≤ 1024)) then 0 else 4
end Go.Proofs.YtbkchheikkbebaaGreatDoor

/-
  Walks: family.sized, Plus, Product.
-/
namespace Go.Proofs.YtbkchheikkbebaaGreatDoor
open Go.RowKit

/-- Sets in memory: masks. -/
def SetsAt (w : World) (v : Value) (ns : List Nat) : Prop := IntsAt w v (ofN ns) ∧ ∀ n ∈ ns, Mk n
theorem SetsAt.kept {w w' : World} {v : Value} {ns : List Nat} (h : SetsAt w v ns) (hk : Kept w w') : SetsAt w' v ns := ⟨h.1.kept hk, h.2⟩
def OwnSets (w : World) (B : Nat) (v : Value) (ns : List Nat) : Prop := OwnInts w B v (ofN ns) ∧ ∀ n ∈ ns, Mk n
theorem OwnSets.sets {w : World} {B : Nat} {v : Value} {ns : List Nat} (h : OwnSets w B v ns) : SetsAt w v ns := ⟨h.1.ints, h.2⟩
theorem minK_mk {ns : List Nat} (h : ∀ n ∈ ns, Mk n) : ∀ n ∈ minK ns, Mk n := fun n hn => h n (mem_minK hn)
theorem minimalS_any (v : Value) (ns : List Nat) (w : World) (hv : SetsAt w v ns) (hl : ns.length ≤ 8796093022208) :
    Calls Tryz.prog 100 #[v] w fun e w' => ∃ v', e = .returned v' ∧ OwnSets w' w.heap.size v' (minK ns) ∧ Kept w w' :=
  (minimalK_any v ns w hv.2 hv.1 hl).mono fun _ _ ⟨v', h1, h2, h3⟩ => ⟨v', h1, ⟨h2, minK_mk hv.2⟩, h3⟩

/-- A list of sets, or the error that it is too large. -/
def LRes (w' : World) (B : Nat) (e : Ending) (r : Option (List Nat)) : Prop :=
  match r with
  | some l => ∃ v, e = .returned (.tuple #[v, .nilIface]) ∧ OwnSets w' B v l
  | none => e = .returned (.tuple #[.slice none 0 0, errV 4])
def plusK (a b : List Nat) : Option (List Nat) := if a.length ≤ 1024 ∧ b.length ≤ 1024 then (if (minK (a ++ b)).length ≤ 1024 then some (minK (a ++ b)) else none) else none

end Go.Proofs.YtbkchheikkbebaaGreatDoor

/-
  A map[int]bool of the call's own, by what it answers; family.Product.
-/
namespace Go.Proofs.YtbkchheikkbebaaGreatDoor
open Go.RowKit Go.Maps

/-- Block b is a map from ints to bools with at most n entries that answers mem. -/
def BoolMap (w : World) (b n : Nat) (mem : Int → Bool) : Prop :=
  ∃ D : DataW Unit, w.ownsMap Tryz.prog 3 (plainElem Tryz.prog 4) b n D ∧ IsMap D ∧ ∀ x : Int, D.atKey (.int .i64 x) (.lit (.bool false)) = .lit (.bool (mem x))
variable {ops : Array Oper} {rest : List Oper} {o : Oper} {a : Act} {Q : Exit → Act → World → Prop} {w : World}
/-- All unions, each once, in the order of their first appearance. -/
def addU (out : List Nat) (u : Nat) : List Nat := if u ∈ out then out else out ++ [u]
def rowU (x : Nat) (ys : List Nat) (out : List Nat) : List Nat := ys.foldl (fun out y => addU out (x ||| y)) out
def allU (xs ys : List Nat) : List Nat := xs.foldl (fun out x => rowU x ys out) []
end Go.Proofs.YtbkchheikkbebaaGreatDoor

/-
  Walks: family.Product.
-/
namespace Go.Proofs.YtbkchheikkbebaaGreatDoor
open Go.RowKit Go.Maps

/-- What the two loops keep. -/
def ProdInv (wm wr : World) (v : Value) (acc : List Nat) : Prop :=
  OwnInts wr wm.heap.size v (ofN acc) ∧ BoolMap wr wm.heap.size acc.length (fun z => decide (z ∈ ofN acc)) ∧ Kept wm wr
def productK (a b : List Nat) : Option (List Nat) := if a.length ≤ 1024 ∧ b.length ≤ 1024 then (if (minK (allU (minK a) (minK b))).length ≤ 1024 then some (minK (allU (minK a) (minK b))) else none) else none
end Go.Proofs.YtbkchheikkbebaaGreatDoor

/-
  Rows of the call's own that are stored into: laws.
-/
namespace Go.Proofs.YtbkchheikkbebaaGreatDoor
open Go.RowKit

/-- Block g is a row whose first cells are xs; none is frozen. -/
def RowAt (w : World) (g : Nat) (e : TypeId) (xs : List Value) : Prop :=
  ∃ cur, w.heap[g]? = some (.cells cur e (0, 0)) ∧ xs.length ≤ cur.size ∧ cur.toList.take xs.length = xs
theorem RowAt.made (w : World) (cs : Array Value) (e : TypeId) : RowAt (w.alloc (.cells cs e)) w.heap.size e cs.toList :=
  ⟨cs, heap_alloc_new w _, by simp, List.take_of_length_le (by simp)⟩
theorem RowAt.lt {w : World} {g : Nat} {e : TypeId} {xs : List Value} (h : RowAt w g e xs) : g < w.heap.size := by
  obtain ⟨cur, h1, _⟩ := h
  rcases Nat.lt_or_ge g w.heap.size with h2 | h2
  · exact h2
  · simp [Array.getElem?_eq_none h2] at h1
theorem RowAt.kept {w w' : World} {g : Nat} {e : TypeId} {xs : List Value} (h : RowAt w g e xs) (hk : Kept w w') : RowAt w' g e xs := by
  have hl := h.lt
  obtain ⟨cur, h1, h2⟩ := h
  exact ⟨cur, (hk.block g hl).trans h1, h2⟩
theorem RowAt.same {w w' : World} {g : Nat} {e : TypeId} {xs : List Value} (h : RowAt w g e xs) (hk : w'.heap[g]? = w.heap[g]?) : RowAt w' g e xs := by
  obtain ⟨cur, h1, h2⟩ := h
  exact ⟨cur, hk.trans h1, h2⟩
theorem RowAt.cell {w : World} {g : Nat} {e : TypeId} {xs : List Value} (h : RowAt w g e xs) {i : Nat} (hi : i < xs.length) : w.cell? ⟨g, i, none⟩ = some xs[i] := by
  obtain ⟨cur, h1, h2, h3⟩ := h
  have e1 : (cur.toList.take xs.length)[i]? = xs[i]? := by rw [h3]
  rw [List.getElem?_take_of_lt hi] at e1
  simp only [World.cell?, h1]
  simpa [hi] using e1
theorem RowAt.free {w : World} {g : Nat} {e : TypeId} {xs : List Value} (h : RowAt w g e xs) (i : Nat) : w.frozen? ⟨g, i, none⟩ = false := by
  obtain ⟨cur, h1, _⟩ := h
  simp [World.frozen?, h1]
theorem RowAt.store {w : World} {g : Nat} {e : TypeId} {xs : List Value} (h : RowAt w g e xs) (i : Nat) (u : Value) : RowAt (w.setCell ⟨g, i, none⟩ u) g e (xs.set i u) := by
  obtain ⟨cur, h1, h2, h3⟩ := h
  refine ⟨cur.setIfInBounds i u, by simp [World.setCell, Array.getElem?_modify, h1], by simpa using h2, ?_⟩
  rw [List.length_set, Array.toList_setIfInBounds, List.take_set, h3]
theorem Kept.store {w0 w : World} (h : Kept w0 w) {g : Nat} (hg : w0.heap.size ≤ g) (i : Nat) (u : Value) : Kept w0 (w.setCell ⟨g, i, none⟩ u) := Below.setCell h hg u
theorem RowAt.ints {w : World} {g : Nat} {xs : List Int} {c : Nat} (h : RowAt w g 3 (xs.map (.int .i64))) (hc : xs.length ≤ c) (hl : xs.length ≤ 140737488355328) : IntsAt w (.slice (some ⟨g, 0, none⟩) xs.length c) xs :=
  ⟨_, c, rfl, ⟨hc, fun h => by cases h⟩, hl, fun i hi => ⟨g, 0, rfl, by have := h.cell (i := i) (by simpa using hi); simpa using this⟩⟩

theorem made_one (z : Value) (hz : z.cells = #[z]) (n : Nat) : (madeCells z.cells (n * 1)).toList = List.replicate n z := by
  rw [hz]
  unfold madeCells
  apply List.ext_getElem
  · simp
  · intro i h1 h2
    simp [Nat.mod_one]
variable {ops : Array Oper} {rest : List Oper} {o : Oper} {a : Act} {Q : Exit → Act → World → Prop} {w : World}
theorem make_one (t e : TypeId) (z : Value) (bytes : Nat) (hi : (Tryz.prog.info? e).map (fun i => (i.zero, i.size, i.bytes)) = some (some z, 1, bytes)) (ht : Tryz.prog.underlying t = some (.slice e)) (hz : z.cells = #[z]) (hg : o.guard = none) (l c : Operand)
    (hop : o.op = Op.makeSlice t l c) (n : Nat) (hl : a.eval l = .int .i64 n) (hc : a.eval c = .int .i64 n) (hb : bytes * n ≤ 281474976710656) (hm : n ≤ maxLen)
    (hK : ∀ w', RowAt w' w.heap.size e (List.replicate n z) → Kept w w' → wpList Tryz.prog ops Q rest (a.put o.dst (.slice (some ⟨w.heap.size, 0, none⟩) n n)) w') : wpList Tryz.prog ops Q (o :: rest) a w := by
  obtain ⟨i0, hi0, hz0, hz1, hz2⟩ := info_parts hi
  refine wpList_make_full w hg l c t hop w.heap.size e i0 z 1 ht hi0 hz0 hz1 .i64 .i64 _ _ n hl hc rfl rfl (by rw [hz2]; exact hb) hm (Nat.le_refl _) ?_
  intro w' h1 h2
  rw [made_one z hz n] at h1
  refine hK w' ?_ ⟨h2.os, h2.tape, h2.output, h2.size, fun k hk => h2.block k hk (by simp)⟩
  obtain ⟨h3, h4⟩ := h1
  rcases h4 with ⟨h4, _⟩ | ⟨g, cap, cur, h4, h5, h6, h7, h8, h9, h10⟩
  · cases h4
  · cases h4
    exact ⟨cur, h6, by simp; omega, by simpa using h10⟩
end Go.Proofs.YtbkchheikkbebaaGreatDoor

/-
  Plain: formulas, and the first error of a formula.
-/
namespace Go.Proofs.YtbkchheikkbebaaGreatDoor

structure Nd where
  kind : Int
  k : Int
  args : List Int
structure Fm where
  vars : Int
  nodes : List Nd
  top : Int
def argsOk (kind : Int) (n : Nat) : Bool := if kind = 0 then decide (n = 0) else if kind = 1 then decide (n = 1) else decide (1 ≤ n ∧ n ≤ 16)
def chkK (kind k : Int) (n : Nat) : Nat := if kind = 0 then (if k = 0 ∨ k = 1 then 0 else 3) else if kind = 4 then (if 1 ≤ k ∧ k ≤ n then 0 else 3) else if k = 0 then 0 else 2
def chkNd (b : Int) (x : Nd) : Nat :=
  if x.kind < 0 ∨ 5 < x.kind then 7 else if argsOk x.kind x.args.length = false then 11
  else if x.args.all (fun a => decide (0 ≤ a ∧ a < b)) = false then 10 else chkK x.kind x.k x.args.length
def chkFrom (b : Int) : List Nd → Nat
  | [] => 0
  | x :: l => if chkNd b x = 0 then chkFrom (b + 1) l else chkNd b x
/-- arg is an event or a node. -/
def okArg (f : Fm) (arg : Int) : Bool := decide (0 ≤ f.vars ∧ 0 ≤ arg ∧ (arg < f.vars ∨ arg - f.vars < f.nodes.length))
def chkF (f : Fm) : Nat :=
  if f.vars < 0 ∨ 24 < f.vars then 3 else if 128 < f.nodes.length then 4 else if chkFrom f.vars f.nodes = 0 then (if okArg f f.top then 0 else 10) else chkFrom f.vars f.nodes
end Go.Proofs.YtbkchheikkbebaaGreatDoor

/-
  Formulas in memory. Walks: formula.arguments, checkNode.
-/
namespace Go.Proofs.YtbkchheikkbebaaGreatDoor
open Go.RowKit

def NodeAt (w : World) (b o : Nat) (x : Nd) : Prop :=
  ∃ u, w.cell? ⟨b, o, none⟩ = some (.int .i64 x.kind) ∧ w.cell? ⟨b, o + 1, none⟩ = some (.int .i64 x.k) ∧ w.cell? ⟨b, o + 2, none⟩ = some u ∧ IntsAt w u x.args
/-- A slice of nodes that can be read. -/
def NodesAt (w : World) (v : Value) (xs : List Nd) : Prop :=
  ∃ (a : Option Addr) (c : Nat), v = .slice a xs.length c ∧ (xs.length ≤ c ∧ (a = none → c = 0)) ∧ xs.length ≤ 140737488355328 ∧
    ∀ i (h : i < xs.length), ∃ b o, a = some ⟨b, o, none⟩ ∧ NodeAt w b (o + i * 3) xs[i]
end Go.Proofs.YtbkchheikkbebaaGreatDoor

/-
  Plain: what lies below Top; valid formulas.
-/
namespace Go.Proofs.YtbkchheikkbebaaGreatDoor

def noNd : Nd := ⟨0, 0, []⟩
def markAll (m : List Bool) (args : List Int) : List Bool := args.foldl (fun m a => m.set a.toNat true) m
def belowGo (V : Nat) (nodes : List Nd) : Nat → List Bool → List Bool
  | 0, m => m
  | k + 1, m => belowGo V nodes k (if m.getD (V + k) false then markAll m (nodes.getD k noNd).args else m)
/-- The arguments below Top. -/
def belowK (V T : Nat) (nodes : List Nd) : List Bool := belowGo V nodes nodes.length ((List.replicate (V + nodes.length) false).set T true)
/-- A valid formula with V events. -/
structure Ok (f : Fm) (V T : Nat) : Prop where
  vars : f.vars = V
  top : f.top = T
  v24 : V ≤ 24
  n128 : f.nodes.length ≤ 128
  tlt : T < V + f.nodes.length
  kind : ∀ i (h : i < f.nodes.length), 0 ≤ f.nodes[i].kind ∧ f.nodes[i].kind ≤ 5
  args : ∀ i (h : i < f.nodes.length), ∀ a ∈ f.nodes[i].args, 0 ≤ a ∧ a < (V : Int) + i
  argc : ∀ i (h : i < f.nodes.length), argsOk f.nodes[i].kind f.nodes[i].args.length = true
  arity : ∀ i (h : i < f.nodes.length), chkK f.nodes[i].kind f.nodes[i].k f.nodes[i].args.length = 0
end Go.Proofs.YtbkchheikkbebaaGreatDoor

/-
  Walks: formula.Valid, Check.
-/
namespace Go.Proofs.YtbkchheikkbebaaGreatDoor
open Go.RowKit

/-- A formula as a value. -/
abbrev fmV (v : Value) (f : Fm) : Value := .agg #[.int .i64 f.vars, v, .int .i64 f.top]

end Go.Proofs.YtbkchheikkbebaaGreatDoor

/-
  Slices of nodes of the call's own; walk: formula.Trim.
-/
namespace Go.Proofs.YtbkchheikkbebaaGreatDoor
open Go.RowKit

/-- A slice of nodes of these kinds. -/
def KindsAt (w : World) (v : Value) (ks : List Int) : Prop :=
  ∃ (a : Option Addr) (c : Nat), v = .slice a ks.length c ∧ (ks.length ≤ c ∧ (a = none → c = 0)) ∧ ks.length ≤ 140737488355328 ∧
    ∀ i (h : i < ks.length), ∃ b o, a = some ⟨b, o, none⟩ ∧ ∃ (u1 : Int) (sa : Option Addr) (sn sc : Nat), w.cell? ⟨b, o + i * 3, none⟩ = some (.int .i64 ks[i]) ∧ w.cell? ⟨b, o + i * 3 + 1, none⟩ = some (.int .i64 u1) ∧ w.cell? ⟨b, o + i * 3 + 2, none⟩ = some (.slice sa sn sc)
def OwnKinds (w : World) (B : Nat) (v : Value) (ks : List Int) : Prop :=
  ∃ cells, w.ownsRow B 130 3 v ks.length cells ∧ ks.length ≤ 100000 ∧ ∀ i (h : i < ks.length), cells[i * 3]? = some (.int .i64 ks[i]) ∧ ∃ (u1 : Int) (sa : Option Addr) (sn sc : Nat), cells[i * 3 + 1]? = some (.int .i64 u1) ∧ cells[i * 3 + 2]? = some (.slice sa sn sc)
/-- The kinds of the first k nodes that are marked. -/
def kindsUp (V : Nat) (mark : List Bool) (nodes : List Nd) : Nat → List Int
  | 0 => []
  | k + 1 => if mark.getD (V + k) false then kindsUp V mark nodes k ++ [(nodes.getD k noNd).kind] else kindsUp V mark nodes k
/-- What the last loop keeps. -/
structure TInv (w1 w3 wr : World) (g V n : Nat) (ov : Value) (tl : List Int) (ks : List Int) (mark : List Bool) : Prop where
  tlen : tl.length = V + n
  row : RowAt wr (w1.heap.size + 1) 3 (tl.map (.int .i64))
  box : RowAt wr w1.heap.size 81 [.int .i64 V, ov, .int .i64 0]
  own : OwnKinds wr w3.heap.size ov ks
  marks : RowAt wr g 4 (mark.map .bool)
  kept : Kept w1 wr
  size : w3.heap.size ≤ wr.heap.size
def toP (V n k : Nat) : List Int := (List.range k).map (fun i : Nat => (i : Int)) ++ List.replicate (V + n - k) 0
end Go.Proofs.YtbkchheikkbebaaGreatDoor

/-
  Walks: formula.Trim of a formula that is refused; coherent.Syntax.
-/
namespace Go.Proofs.YtbkchheikkbebaaGreatDoor
open Go.RowKit

/-- No negation and no exclusive or. -/
def monoK (ks : List Int) : Bool := ks.all fun k => !(k == 1 || k == 5)
def synK (V T : Nat) (f : Fm) : Bool := monoK (kindsUp V (belowK V T f.nodes) f.nodes f.nodes.length)

end Go.Proofs.YtbkchheikkbebaaGreatDoor

/-
  Rows of families; walk: bottomup.fold.
-/
namespace Go.Proofs.YtbkchheikkbebaaGreatDoor
open Go.RowKit

/-- Families in memory: a slice of slices of masks. -/
def FamsAt (w : World) (v : Value) (xss : List (List Nat)) : Prop := RowsAt SetsAt w v xss
/-- Families of the call's own, their rows too. -/
def OwnFams (w : World) (B : Nat) (v : Value) (xss : List (List Nat)) : Prop :=
  ∃ us : List Value, us.length = xss.length ∧ w.ownsRow B 22 1 v xss.length us ∧ xss.length ≤ 140737488355328 ∧ ∀ i (h : i < us.length) (h' : i < xss.length), OwnSets w 0 us[i] xss[i]
def foldK (op : List Nat → List Nat → Option (List Nat)) (first : List Nat) (args : List (List Nat)) : Option (List Nat) := args.foldlM op first
/-- A function value that joins two lists of sets. -/
def Joins (g : Nat) (op : List Nat → List Nat → Option (List Nat)) : Prop :=
  ∀ (a b : List Nat) (va vb : Value) (w : World), SetsAt w va a → SetsAt w vb b → Calls Tryz.prog g #[va, vb] w fun e w' => LRes w' w.heap.size e (op a b) ∧ Kept w w'
end Go.Proofs.YtbkchheikkbebaaGreatDoor

/-
  Walks: bottomup.vote.
-/
namespace Go.Proofs.YtbkchheikkbebaaGreatDoor
open Go.RowKit

/-- One place of the next row. -/
def nextAt (arg : List Nat) (t : List (List Nat)) (m : Nat) : Option (List Nat) := (productK arg (t.getD m [])).bind fun x => plusK x (t.getD (m + 1) [])
def voteUp (arg : List Nat) (t : List (List Nat)) : Nat → Option (List (List Nat))
  | 0 => some [[0]]
  | m + 1 => (voteUp arg t m).bind fun acc => (nextAt arg t m).map fun x => acc ++ [x]
def voteDown (k : Nat) (args : List (List Nat)) : Nat → List (List Nat) → Option (List (List Nat))
  | 0, t => some t
  | q + 1, t => (voteUp (args.getD q []) t k).bind (voteDown k args q)
/-- The sets of which at least k arguments are true. -/
def voteK (args : List (List Nat)) (k : Nat) : Option (List Nat) := (voteDown k args args.length ([0] :: List.replicate k [])).map fun t => t.getD k []
end Go.Proofs.YtbkchheikkbebaaGreatDoor

/-
  Walks: bottomup.node.
-/
namespace Go.Proofs.YtbkchheikkbebaaGreatDoor
open Go.RowKit

def nodeK (kind : Int) (k : Int) (fams : List (List Nat)) : Option (List Nat) :=
  if kind = 0 then (if k = 1 then some [0] else some []) else if kind = 3 then foldK plusK [] fams else if kind = 2 then foldK productK [0] fams else voteK fams k.toNat

end Go.Proofs.YtbkchheikkbebaaGreatDoor

/-
  Walks: bottomup.Families.
-/
namespace Go.Proofs.YtbkchheikkbebaaGreatDoor
open Go.RowKit

def famArg (V : Nat) (out : List (List Nat)) (a : Int) : List Nat := if a < V then [2 ^ a.toNat] else out.getD (a - V).toNat []
def famStep (V : Nat) (mark : List Bool) (nodes : List Nd) (out : List (List Nat)) (i : Nat) : Option (List (List Nat)) :=
  if mark.getD (V + i) false then (nodeK (nodes.getD i noNd).kind (nodes.getD i noNd).k ((nodes.getD i noNd).args.map (famArg V out))).map fun l => out.set i l else some out
def famsUp (V : Nat) (mark : List Bool) (nodes : List Nd) : Nat → Option (List (List Nat))
  | 0 => some (List.replicate nodes.length [])
  | k + 1 => (famsUp V mark nodes k).bind fun out => famStep V mark nodes out k
/-- The families of all needed nodes. -/
def famsK (V T : Nat) (nodes : List Nd) : Option (List (List Nat)) := famsUp V (belowK V T nodes) nodes nodes.length
def FRes (w' : World) (B : Nat) (e : Ending) (r : Option (List (List Nat))) : Prop :=
  match r with
  | some l => ∃ v, e = .returned (.tuple #[v, .nilIface]) ∧ OwnFams w' B v l
  | none => e = .returned (.tuple #[.slice none 0 0, errV 4])
end Go.Proofs.YtbkchheikkbebaaGreatDoor

/-
  Walks: bottomup.Cuts.
-/
namespace Go.Proofs.YtbkchheikkbebaaGreatDoor
open Go.RowKit

def cutsK (V T : Nat) (nodes : List Nd) : Option (List Nat) := (famsK V T nodes).map fun l => if T < V then [2 ^ T] else l.getD (T - V) []
end Go.Proofs.YtbkchheikkbebaaGreatDoor

/-
  Walks: faultlinebase.Num, Ints, Rows.
-/
namespace Go.Proofs.YtbkchheikkbebaaGreatDoor
open Go.RowKit

theorem as_errno (v : Value) (w : World) : (Instr.typeAssert (.iface 50 v) 27 50 true).run Tryz.prog w = .ok (.tuple #[v, .bool true]) w := by kernel_rfl
set_option maxRecDepth 100000 in
theorem num_eq (c : Nat) (w : World) (hc : c ≤ 9223372036854775807) : Calls Tryz.prog 25 #[errV c] w fun e w' => e = .returned (.int .i64 c) ∧ w = w' := by
  by_cases h : c = 0
  · subst h
    rw [errV_zero]
    go_enter Tryz.func25, Tryz.ntmps25
    go_wp2
    refine bodyPost_ret (v := .int .i64 0) ?_ rfl ⟨rfl, rfl⟩
    simp [results, Tryz.results25, go_sem]
  · rw [errV_pos h]
    clear h
    go_enter Tryz.func25, Tryz.ntmps25
    go_wp2
    rw [as_errno]
    go_wp2
    go_ret
    exact ⟨rfl, rfl⟩
theorem ints_ne (a b : List Int) (va vb : Value) (w : World) (ha : IntsAt w va a) (hb : IntsAt w vb b) (h : a.length ≠ b.length) :
    Calls Tryz.prog 162 #[va, vb] w fun e w' => e = .returned (.bool false) ∧ Kept w w' := by
  obtain ⟨aa, ca, rfl, _, hla, hca⟩ := ha
  obtain ⟨ab, cb, rfl, _, hlb, hcb⟩ := hb
  have hne : ((a.length : Int) == (b.length : Int)) = false := by simpa using (by omega : (a.length : Int) ≠ b.length)
  clear h hca hcb
  go_enter Tryz.func162, Tryz.ntmps162
  go_wp2
  go_ret
  exact ⟨rfl, Kept.refl _⟩
set_option maxHeartbeats 2000000 in
theorem ints_at (a b : List Int) (va vb : Value) (w : World) (ha : IntsAt w va a) (hb : IntsAt w vb b) :
    Calls Tryz.prog 162 #[va, vb] w fun e w' => e = .returned (.bool (decide (a = b))) ∧ Kept w w' := by
  by_cases h : a.length = b.length
  case neg =>
    refine (ints_ne a b va vb w ha hb h).mono ?_
    rintro e w' ⟨rfl, h2⟩
    refine ⟨?_, h2⟩
    have : a ≠ b := fun e => h (by rw [e])
    simp [this]
  obtain ⟨aa, ca, rfl, _, hla, hca⟩ := ha
  obtain ⟨ab, cb, rfl, _, hlb, hcb⟩ := hb
  obtain ⟨n, hn⟩ : ∃ n, n = a.length := ⟨_, rfl⟩
  have hnb : n = b.length := by omega
  rw [← hnb, ← hn]
  have HA := Lib.hid hca
  have HB := Lib.hid hcb
  have Hn := Lib.hid hn
  have Hnb := Lib.hid hnb
  have hn9 : n ≤ 140737488355328 := by omega
  clear hca hcb h hn hnb hla hlb
  go_enter Tryz.func162, Tryz.ntmps162
  go_wp2
  go_loopw [5, 13] (fun _ i wr => ∃ k : Nat, k ≤ n ∧ i = .int .i64 k ∧ (∀ j, j < k → a[j]? = b[j]?) ∧ Kept w wr) (fun _ i _ => n - (intOf i).toNat)
  case atStart => exact ⟨0, Nat.zero_le _, rfl, by simp, Kept.refl _⟩
  case round =>
    obtain ⟨k, hk, rfl, hsame, hbel⟩ := hrel
    have HS := Lib.hid hsame
    clear hsame
    by_cases hlt : k < n
    · have hka : k < a.length := by have := Hn.out; omega
      have hkb : k < b.length := by have := Hnb.out; omega
      obtain ⟨ba, oa, rfl, c1⟩ := HA.out k hka
      obtain ⟨bb, ob, rfl, c2⟩ := HB.out k hkb
      have c1' := hbel.cell c1
      have c2' := hbel.cell c2
      obtain ⟨x, hx⟩ : ∃ x, x = a[k] := ⟨_, rfl⟩
      obtain ⟨y, hy⟩ : ∃ x, x = b[k] := ⟨_, rfl⟩
      rw [← hx] at c1 c1'
      rw [← hy] at c2 c2'
      have HX := Lib.hid hx
      have HY := Lib.hid hy
      have HKA := Lib.hid hka
      have HKB := Lib.hid hkb
      clear hx hy c1 c2
      by_cases hxy : x = y
      · have e1 : (x == y) = true := by simpa using hxy
        have e2 : (x != y) = false := by simpa using hxy
        have HXY := Lib.hid hxy
        clear hxy
        go_wp2
        go_quiet (fail)
        go_wp2
        go_roundw
        case rel =>
          refine ⟨k + 1, by omega, by simp, fun j hj => ?_, hbel.drewN _⟩
          by_cases e : j = k
          · subst e
            rw [List.getElem?_eq_getElem HKA.out, List.getElem?_eq_getElem HKB.out, ← HX.out, ← HY.out, HXY.out]
          · exact HS.out j (by omega)
        case measure => simp [intOf]; omega
      · have e1 : (x == y) = false := by simpa using hxy
        have e2 : (x != y) = true := by simpa using hxy
        have HXY := Lib.hid hxy
        clear hxy
        go_wp2
        go_quiet (fail)
        go_wp2
        go_ret
        refine ⟨?_, hbel.drewN _⟩
        have : a ≠ b := by
          intro e
          subst e
          exact HXY.out (HX.out.trans HY.out.symm)
        simp [this]
    · go_wp2
      go_ret
      refine ⟨?_, hbel⟩
      have hkn : k = n := by omega
      have : a = b := by
        apply List.ext_getElem?
        intro j
        by_cases hj : j < k
        · exact HS.out j hj
        · rw [List.getElem?_eq_none (by have := Hn.out; omega), List.getElem?_eq_none (by have := Hnb.out; omega)]
      simp [this]
end Go.Proofs.YtbkchheikkbebaaGreatDoor

/-
  Walks: faultlinelaw31.Example.
-/
namespace Go.Proofs.YtbkchheikkbebaaGreatDoor
open Go.RowKit

/-- The document's example. -/
def exN : List Nd := [⟨3, 0, [0, 1]⟩, ⟨3, 0, [0, 2]⟩, ⟨2, 0, [3, 4]⟩]
end Go.Proofs.YtbkchheikkbebaaGreatDoor

/-
  Plain: the example's families.
-/
namespace Go.Proofs.YtbkchheikkbebaaGreatDoor
open Go.RowKit

def exF : Fm := ⟨3, exN, 5⟩
theorem pcs : pc 0 = 0 ∧ pc 1 = 1 ∧ pc 2 = 1 ∧ pc 3 = 2 ∧ pc 4 = 1 ∧ pc 5 = 2 ∧ pc 6 = 2 ∧ pc 7 = 3 := by
  have h0 : pc 0 = 0 := by unfold pc; simp
  have h1 : pc 1 = 1 := by unfold pc; simp [h0]
  have h2 : pc 2 = 1 := by unfold pc; simp [h1]
  have h3 : pc 3 = 2 := by unfold pc; simp [h1]
  have h4 : pc 4 = 1 := by unfold pc; simp [h2]
  have h5 : pc 5 = 2 := by unfold pc; simp [h2]
  have h6 : pc 6 = 2 := by unfold pc; simp [h3]
  have h7 : pc 7 = 3 := by unfold pc; simp [h3]
  exact ⟨h0, h1, h2, h3, h4, h5, h6, h7⟩
end Go.Proofs.YtbkchheikkbebaaGreatDoor

/-
  The frame of the laws over a formula: an argument read as data is a formula in memory; the law's answer makes its row.
-/
namespace Go.Proofs.YtbkchheikkbebaaGreatDoor
open Go.RowKit Go.ChangeShapes Go.WideShapes Go.ChangeAt Go.Joins Go.Deep

theorem ownK : ownKnob Tryz.prog.godebug = none := by kernel_rfl
theorem laidOutK : laidOutB Tryz.prog = true := by kernel_rfl
theorem cells_int : Tryz.prog.cellsOf 3 = 1 := by kernel_rfl
theorem bytes_int : Tryz.prog.bytesOf 3 = 8 := by kernel_rfl

theorem weightsAll_mem {H : Type} {P : Program} {e : TypeId} : ∀ {l : List (DataW H)} {d : DataW H}, d ∈ l → ∀ n ∈ d.weights P e, n ∈ DataW.weightsAll P e l
  | d' :: r, d, hd, n, hn => by
    simp only [DataW.weightsAll, List.mem_append]
    rcases List.mem_cons.1 hd with rfl | h
    · exact .inl hn
    · exact .inr (weightsAll_mem h n hn)

theorem addP (b o j : Nat) : (⟨b, o, none⟩ : Addr).add j = ⟨b, o + j, none⟩ := by unfold Addr.add; split <;> simp_all
section
variable {H : Type} {enc : TypeId × Value → H} {W : World} {base : Nat}
/-- Ints of a slice, read. -/
theorem ints_open {fuel : Nat} {cs : List Value} {x : DataW H × List MemPlace} (hb : ∀ n ∈ x.1.weights Tryz.prog 22, n ≤ reachBytes)
    (h : DataW.trod enc Tryz.prog W base (fun _ => true) true fuel 22 cs = some x) : ∃ u xs, cs = [u] ∧ IntsAt W u xs ∧ ∀ z ∈ xs, -9223372036854775808 ≤ z ∧ z ≤ 9223372036854775807 := by
  rcases open_ints Tryz.underlying22 Tryz.underlying3 cells_int h with ⟨rfl, rfl⟩ | ⟨a, len, cap, zs, rfl, _, hl, hm, hz, rfl, hcell, hwz⟩
  · exact ⟨_, [], rfl, IntsAt.nil _, by simp⟩
  · simp only [if_true] at hz
    have hbb := hb ((zs.take len).length * 8 + (zs.drop len).length * 8) (by
      simp only [DataW.weights, Tryz.underlying22, bytes_int, List.mem_cons]
      exact .inl (by simp [lits]; omega))
    simp [reachBytes] at hbb
    refine ⟨_, zs.take len, rfl, ⟨some a, cap, by simp; omega, ⟨by simp; omega, fun h => by cases h⟩, by simp; omega, fun i hi => ?_⟩, fun z hz => bounds_i64 (hwz z (List.mem_of_mem_take hz))⟩
    simp only [List.length_take] at hi
    have hc := hcell i (by omega)
    obtain ⟨b, o, spot⟩ := a
    have hspot : spot = none := World.cell?_spot (hcell 0 (by omega))
    subst hspot
    refine ⟨b, o, rfl, ?_⟩
    have e : (zs.take len)[i]'(by simp; omega) = zs.getD i 0 := by simp [List.getD_eq_getElem?_getD, show i < zs.length by omega]
    rw [e, ← hc]
    congr 1
    by_cases h0 : i = 0
    · subst h0; rfl
    · simp [Addr.add, h0]
instance : Inhabited Nd := ⟨⟨0, 0, []⟩⟩
/-- All numbers of a node are ints of 64 bits. -/
def NdOk (x : Nd) : Prop := (-9223372036854775808 ≤ x.kind ∧ x.kind ≤ 9223372036854775807) ∧ (-9223372036854775808 ≤ x.k ∧ x.k ≤ 9223372036854775807) ∧ ∀ z ∈ x.args, -9223372036854775808 ≤ z ∧ z ≤ 9223372036854775807
def FmOk (f : Fm) : Prop := (-9223372036854775808 ≤ f.vars ∧ f.vars ≤ 9223372036854775807) ∧ (-9223372036854775808 ≤ f.top ∧ f.top ≤ 9223372036854775807) ∧ ∀ x ∈ f.nodes, NdOk x
end
end Go.Proofs.YtbkchheikkbebaaGreatDoor

/-
  Plain: minimal families are the ones of the upward closed sets of masks; the closure of Plus and Product.
-/
namespace Go.Proofs.YtbkchheikkbebaaGreatDoor

theorem subN_iff {a b : Nat} : subN a b = true ↔ ∀ i, a.testBit i = true → b.testBit i = true := by
  unfold subN sdiff
  rw [beq_iff_eq]
  constructor
  · intro h i hi
    have h1 : (a ^^^ (a &&& b)).testBit i = false := by rw [h]; simp
    simp [hi] at h1
    exact h1
  · intro h
    apply Nat.eq_of_testBit_eq
    intro i
    simp only [Nat.testBit_xor, Nat.testBit_and, Nat.zero_testBit]
    cases ha : a.testBit i with
    | false => simp
    | true => simp [h i ha]
theorem subN_tr {a b c : Nat} (h1 : subN a b = true) (h2 : subN b c = true) : subN a c = true := subN_iff.2 fun i h => subN_iff.1 h2 i (subN_iff.1 h1 i h)
theorem subN_half {a b : Nat} (h : subN a b = true) : a % 2 ≤ b % 2 ∧ subN (a / 2) (b / 2) = true := by
  have h' := subN_iff.1 h
  refine ⟨?_, subN_iff.2 fun i hi => ?_⟩
  · have h0 := h' 0
    simp only [Nat.testBit_zero, decide_eq_true_eq] at h0
    omega
  · have h0 := h' (i + 1)
    simp only [Nat.testBit_succ] at h0
    exact h0 hi
theorem pc_sub (n : Nat) : ∀ a b, b ≤ n → subN a b = true → pc a ≤ pc b ∧ (pc a = pc b → a = b) := by
  induction n using Nat.strongRecOn with
  | ind n ih =>
    intro a b hb h
    by_cases h0 : b = 0
    · subst h0
      have : a = 0 := by
        apply Nat.eq_of_testBit_eq
        intro i
        cases ha : a.testBit i with
        | false => simp
        | true => have := subN_iff.1 h i ha; simp at this
      subst this
      exact ⟨Nat.le_refl _, fun _ => rfl⟩
    · obtain ⟨h1, h2⟩ := subN_half h
      have := ih (b / 2) (by omega) (a / 2) (b / 2) (Nat.le_refl _) h2
      rw [pc_one a, pc_one b]
      refine ⟨by omega, fun he => ?_⟩
      have e2 : pc (a / 2) = pc (b / 2) := by omega
      have := this.2 e2
      omega
theorem subN_le {a b : Nat} (h : subN a b = true) : pc a ≤ pc b ∧ (pc a = pc b → a = b) := pc_sub b a b (Nat.le_refl _) h
theorem not_lt_sub {a b : Nat} (h : subN a b = true) (h2 : ltK b a) : False := by
  have h1 := subN_le h
  unfold ltK at h2
  rcases h2 with h2 | h2
  · omega
  · have := h1.2 (by omega); omega

theorem mem_foldN (l : List Nat) : ∀ out x, (out ++ l).Pairwise ltK → (x ∈ l.foldl keepN out ↔ x ∈ out ∨ x ∈ l ∧ ∀ y, y ∈ out ∨ y ∈ l → subN y x = true → y = x) := by
  induction l with
  | nil => intro out x _; simp
  | cons s l ih =>
    intro out x hp
    have hp' := List.pairwise_append.1 hp
    have hs := List.pairwise_cons.1 hp'.2.1
    show x ∈ l.foldl keepN (keepN out s) ↔ _
    by_cases hk : out.any (fun t => subN t s) = true
    · rw [show keepN out s = out from if_pos hk]
      obtain ⟨t, ht, hts⟩ := List.any_eq_true.1 hk
      rw [ih out x (List.pairwise_append.2 ⟨hp'.1, hs.2, fun a ha b hb => hp'.2.2 a ha b (List.mem_cons_of_mem _ hb)⟩)]
      constructor
      · rintro (h | ⟨h1, h2⟩)
        · exact .inl h
        · refine .inr ⟨List.mem_cons_of_mem _ h1, ?_⟩
          rintro y (hy | hy) hyx
          · exact h2 y (.inl hy) hyx
          · rcases List.mem_cons.1 hy with e | e
            · subst e
              have := h2 t (.inl ht) (subN_tr hts hyx)
              subst this
              exact absurd (hp'.2.2 t ht t (List.mem_cons_of_mem _ h1)) (ltK_irr t)
            · exact h2 y (.inr e) hyx
      · rintro (h | ⟨h1, h2⟩)
        · exact .inl h
        · rcases List.mem_cons.1 h1 with e | e
          · subst e
            have := h2 t (.inl ht) hts
            subst this
            exact absurd (hp'.2.2 t ht t (List.mem_cons_self ..)) (ltK_irr t)
          · exact .inr ⟨e, fun y hy => h2 y (hy.imp id (List.mem_cons_of_mem _))⟩
    · rw [show keepN out s = out ++ [s] from if_neg hk]
      rw [ih (out ++ [s]) x (by simpa using hp)]
      have hk' : ∀ t ∈ out, ¬ subN t s = true := fun t ht h => hk (List.any_eq_true.2 ⟨t, ht, h⟩)
      have ms : ∀ z, z ∈ out ++ [s] ↔ z ∈ out ∨ z = s := fun z => by simp
      simp only [ms, List.mem_cons]
      constructor
      · rintro ((h | h) | ⟨h1, h2⟩)
        · exact .inl h
        · subst h
          refine .inr ⟨.inl rfl, ?_⟩
          rintro y (hy | hy | hy) hyx
          · exact absurd hyx (hk' y hy)
          · exact hy
          · exact (not_lt_sub hyx (hs.1 y hy)).elim
        · refine .inr ⟨.inr h1, ?_⟩
          rintro y (hy | hy | hy) hyx
          · exact h2 y (.inl (.inl hy)) hyx
          · exact h2 y (.inl (.inr hy)) hyx
          · exact h2 y (.inr hy) hyx
      · rintro (h | ⟨h1 | h1, h2⟩)
        · exact .inl (.inl h)
        · exact .inl (.inr h1)
        · refine .inr ⟨h1, ?_⟩
          rintro y ((hy | hy) | hy) hyx
          · exact h2 y (.inl hy) hyx
          · exact h2 y (.inr (.inl hy)) hyx
          · exact h2 y (.inr (.inr hy)) hyx
theorem pair_foldN (l : List Nat) : ∀ out, (out ++ l).Pairwise ltK → (l.foldl keepN out).Pairwise ltK := by
  induction l with
  | nil => intro out h; simpa using h
  | cons s l ih =>
    intro out h
    show (l.foldl keepN (keepN out s)).Pairwise ltK
    by_cases hk : out.any (fun t => subN t s) = true
    · rw [show keepN out s = out from if_pos hk]
      refine ih out (List.Pairwise.sublist ?_ h)
      exact List.Sublist.append_left (List.sublist_cons_self s l) out
    · rw [show keepN out s = out ++ [s] from if_neg hk]
      exact ih _ (by simpa using h)
theorem mem_minK_iff (l : List Nat) (x : Nat) : x ∈ minK l ↔ x ∈ l ∧ ∀ y ∈ l, subN y x = true → y = x := by
  unfold minK minN
  rw [mem_foldN (sortK l) [] x (by simpa using pair_sortK l)]
  simp [mem_sortK]
theorem pair_minK (l : List Nat) : (minK l).Pairwise ltK := pair_foldN _ [] (by simpa using pair_sortK l)

/-- s contains a set of the list. -/
def up (l : List Nat) (s : Nat) : Prop := ∃ t ∈ l, subN t s = true
/-- A family as it is stored: sorted, no set in another one. -/
def Can (l : List Nat) : Prop := minK l = l
theorem can_one (x : Nat) : Can [x] := by
  have h1 : ∀ y, y ∈ minK [x] ↔ y ∈ [x] := fun y => by rw [mem_minK_iff]; simp; intro h _; exact h.symm
  exact pair_unique ltK ltK_irr ltK_tr _ _ (pair_minK [x]) (by simp) h1
end Go.Proofs.YtbkchheikkbebaaGreatDoor

/-
  Plain: all families are stored sorted, no set in another one, and not too long.
-/
namespace Go.Proofs.YtbkchheikkbebaaGreatDoor

def Good (l : List Nat) : Prop := Can l ∧ l.length ≤ 1024
end Go.Proofs.YtbkchheikkbebaaGreatDoor

/-
  Plain: the values of a formula's arguments; what the families say of them.
-/
namespace Go.Proofs.YtbkchheikkbebaaGreatDoor

/-- How many of the arguments are true. -/
def trueN (vals : List Bool) : List Int → Nat
  | [] => 0
  | a :: l => (if vals.getD a.toNat false then 1 else 0) + trueN vals l
def nodeV (kind k : Int) (t m : Nat) : Bool :=
  if kind = 0 then k == 1 else if kind = 1 then t == 0 else if kind = 2 then t == m else if kind = 3 then decide (0 < t) else if kind = 4 then decide (k ≤ (t : Int)) else t % 2 == 1
/-- The values of the events, then of the first k nodes. -/
def valsUp (V s : Nat) (nodes : List Nd) : Nat → List Bool
  | 0 => (List.range V).map fun i => s.testBit i
  | k + 1 => valsUp V s nodes k ++ [nodeV (nodes.getD k noNd).kind (nodes.getD k noNd).k (trueN (valsUp V s nodes k) (nodes.getD k noNd).args) (nodes.getD k noNd).args.length]
def valsK (V s : Nat) (nodes : List Nd) : List Bool := valsUp V s nodes nodes.length
/-- How many families have a set inside s. -/
noncomputable def upN (s : Nat) : List (List Nat) → Nat
  | [] => 0
  | f :: l => (open Classical in if up f s then 1 else 0) + upN s l
end Go.Proofs.YtbkchheikkbebaaGreatDoor

/-
  Walks: formula.values.
-/
namespace Go.Proofs.YtbkchheikkbebaaGreatDoor
open Go.RowKit

/-- A slice of bools of the call's own. -/
def OwnBools (w : World) (B : Nat) (v : Value) (bs : List Bool) : Prop := w.ownsRow B 4 1 v bs.length (bs.map Value.bool) ∧ bs.length ≤ 1000000
theorem bit_val (s k : Nat) (hs : s < 16777216) : (bits .and .i64 ((s : Int) / 2 ^ k) 1 == 1) = s.testBit k := by
  have e : (s : Int) / 2 ^ k = ((s / 2 ^ k : Nat) : Int) := by simp
  have hle : s / 2 ^ k ≤ s := Nat.div_le_self _ _
  rw [e, show (1 : Int) = ((1 : Nat) : Int) from rfl, and_i64 _ _ (by omega) (by omega), Nat.testBit_eq_decide_div_mod_eq, Nat.and_one_is_mod]
  rw [Bool.eq_iff_iff]
  simp
  omega
end Go.Proofs.YtbkchheikkbebaaGreatDoor

/-
  Walks: formula.check, Value, Values; slices.Clone at []bool.
-/
namespace Go.Proofs.YtbkchheikkbebaaGreatDoor
open Go.RowKit

theorem shlW (V : Nat) (h : V ≤ 24) : wrap64 ((2 : Int) ^ V) = ((2 ^ V : Nat) : Int) := by
  have h1 : (2 : Nat) ^ V ≤ 2 ^ 24 := Nat.pow_le_pow_right (by omega) h
  rw [show (2 : Int) ^ V = ((2 ^ V : Nat) : Int) by simp]
  generalize (2 : Nat) ^ V = z at h1 ⊢
  unfold wrap64; omega
/-- Bools that can be read. -/
def BoolsAt (w : World) (v : Value) (bs : List Bool) : Prop :=
  ∃ (a : Option Addr) (c : Nat), v = .slice a bs.length c ∧ bs.length ≤ c ∧ bs.length ≤ 1000000 ∧ ∀ i (_ : i < bs.length), ∃ b o, a = some ⟨b, o, none⟩ ∧ w.cell? ⟨b, o + i, none⟩ = some (.bool (bs.getD i false))
end Go.Proofs.YtbkchheikkbebaaGreatDoor

/-
  Plain: numbers as lists of words of 32 bits, the lowest first.
-/
namespace Go.Proofs.YtbkchheikkbebaaGreatDoor

/-- The number of a list of words. -/
def nv : List Nat → Nat
  | [] => 0
  | x :: l => x + 4294967296 * nv l
/-- The words of a number, without zeros at the end. -/
def nw (n : Nat) : List Nat := if h : n = 0 then [] else n % 4294967296 :: nw (n / 4294967296)
termination_by n
decreasing_by exact Nat.div_lt_self (by omega) (by omega)
/-- All are words. -/
def Wd (l : List Nat) : Prop := ∀ x ∈ l, x < 4294967296
theorem Wd.nil : Wd [] := fun x h => by simp at h
theorem Wd.cons {x : Nat} {l : List Nat} (h : x < 4294967296) (k : Wd l) : Wd (x :: l) := fun y hy => (List.mem_cons.1 hy).elim (fun e => by rw [e]; exact h) (k y)
theorem Wd.tail {x : Nat} {l : List Nat} (h : Wd (x :: l)) : Wd l := fun y hy => h y (List.mem_cons_of_mem _ hy)
theorem Wd.head {x : Nat} {l : List Nat} (h : Wd (x :: l)) : x < 4294967296 := h x (List.mem_cons_self ..)
theorem Wd.take {l : List Nat} (h : Wd l) (n : Nat) : Wd (l.take n) := fun y hy => h y (List.mem_of_mem_take hy)
theorem Wd.drop {l : List Nat} (h : Wd l) (n : Nat) : Wd (l.drop n) := fun y hy => h y (List.mem_of_mem_drop hy)
theorem Wd.app {a b : List Nat} (h : Wd a) (k : Wd b) : Wd (a ++ b) := fun y hy => (List.mem_append.1 hy).elim (h y) (k y)
theorem Wd.set {l : List Nat} (h : Wd l) (i x : Nat) (hx : x < 4294967296) : Wd (l.set i x) := fun y hy => (List.mem_or_eq_of_mem_set hy).elim (h y) (fun e => by rw [e]; exact hx)
theorem Wd.getD {l : List Nat} (h : Wd l) (i : Nat) : l.getD i 0 < 4294967296 := by
  rw [List.getD_eq_getElem?_getD]
  cases hi : l[i]? with
  | none => simp
  | some x => simpa using h x (List.mem_of_getElem? hi)
theorem Wd.zeros (n : Nat) : Wd (List.replicate n 0) := fun y hy => by have := List.eq_of_mem_replicate hy; omega
theorem nv_nil : nv [] = 0 := rfl
theorem nv_cons (x : Nat) (l : List Nat) : nv (x :: l) = x + 4294967296 * nv l := rfl
theorem nv_append (a b : List Nat) : nv (a ++ b) = nv a + 4294967296 ^ a.length * nv b := by
  induction a with
  | nil => simp [nv]
  | cons x a ih => rw [List.cons_append, nv_cons, nv_cons, ih, List.length_cons, Nat.pow_succ, Nat.mul_add, ← Nat.mul_assoc, Nat.mul_comm 4294967296 (4294967296 ^ a.length)]; omega
theorem nv_lt {a : List Nat} (h : Wd a) : nv a < 4294967296 ^ a.length := by
  induction a with
  | nil => simp [nv]
  | cons x a ih =>
    have h1 := ih h.tail
    have h2 := h.head
    rw [nv_cons, List.length_cons, Nat.pow_succ]
    omega
theorem nv_zeros (n : Nat) : nv (List.replicate n 0) = 0 := by
  induction n with
  | zero => rfl
  | succ n ih => rw [List.replicate_succ, nv_cons, ih]
theorem nv_take_succ (a : List Nat) (i : Nat) : nv (a.take (i + 1)) = nv (a.take i) + a.getD i 0 * 4294967296 ^ i := by
  by_cases h : i < a.length
  · rw [List.take_succ_eq_append_getElem h, nv_append, nv_cons, nv_nil, List.length_take, Nat.min_eq_left (Nat.le_of_lt h), Nat.mul_comm]
    simp [List.getD_eq_getElem?_getD, h]
  · rw [List.take_of_length_le (by omega), List.take_of_length_le (by omega)]
    simp [List.getD_eq_getElem?_getD, Nat.le_of_not_lt h]
theorem nv_take_all (a : List Nat) (i : Nat) (h : a.length ≤ i) : nv (a.take i) = nv a := by rw [List.take_of_length_le h]
theorem nv_split (a : List Nat) (i : Nat) (h : i ≤ a.length) : nv a = nv (a.take i) + 4294967296 ^ i * nv (a.drop i) := by
  conv => lhs; rw [← List.take_append_drop i a]
  rw [nv_append, List.length_take, Nat.min_eq_left h]
theorem nv_set (l : List Nat) : ∀ (i x : Nat), i < l.length → nv (l.set i x) + l.getD i 0 * 4294967296 ^ i = nv l + x * 4294967296 ^ i := by
  induction l with
  | nil => intro i x h; simp at h
  | cons y l ih =>
    intro i x h
    cases i with
    | zero => simp [nv_cons]; omega
    | succ i =>
      have := ih i x (by simpa using h)
      rw [List.set_cons_succ, nv_cons, nv_cons, List.getD_cons_succ, Nat.pow_succ, ← Nat.mul_assoc, ← Nat.mul_assoc, Nat.mul_comm _ 4294967296, Nat.mul_comm (x * _) 4294967296]
      omega
theorem nw_zero : nw 0 = [] := by rw [nw]; simp
theorem nw_pos {n : Nat} (h : n ≠ 0) : nw n = n % 4294967296 :: nw (n / 4294967296) := by rw [nw]; simp [h]
theorem nw_wd : ∀ n, Wd (nw n) := by
  intro n
  induction n using Nat.strongRecOn with
  | _ n ih =>
    by_cases h : n = 0
    · subst h; rw [nw_zero]; exact Wd.nil
    · rw [nw_pos h]; exact Wd.cons (Nat.mod_lt _ (by omega)) (ih _ (Nat.div_lt_self (by omega) (by omega)))
theorem nv_nw : ∀ n, nv (nw n) = n := by
  intro n
  induction n using Nat.strongRecOn with
  | _ n ih =>
    by_cases h : n = 0
    · subst h; rw [nw_zero]; rfl
    · rw [nw_pos h, nv_cons, ih _ (Nat.div_lt_self (by omega) (by omega))]; omega
/-- No zero at the end. -/
def Pl (l : List Nat) : Prop := ∀ h : l ≠ [], l.getLast h ≠ 0
theorem nw_nv : ∀ {l : List Nat}, Wd l → Pl l → nw (nv l) = l := by
  intro l
  induction l with
  | nil => intro _ _; exact nw_zero
  | cons x l ih =>
    intro hw hp
    have hx := hw.head
    have hne : nv (x :: l) ≠ 0 := by
      rw [nv_cons]
      by_cases hl : l = []
      · subst hl
        have := hp (by simp)
        simp at this
        rw [nv_nil]; omega
      · intro h0
        have h1 : nv l = 0 := by omega
        have h2 := ih hw.tail (fun h => by have := hp (by simp); rwa [List.getLast_cons h] at this)
        rw [h1, nw_zero] at h2
        exact hl h2.symm
    rw [nw_pos hne, nv_cons]
    have e1 : (x + 4294967296 * nv l) % 4294967296 = x := by omega
    have e2 : (x + 4294967296 * nv l) / 4294967296 = nv l := by omega
    rw [e1, e2, ih hw.tail fun h => by have := hp (by simp); rwa [List.getLast_cons h] at this]
theorem nw_pl (n : Nat) : Pl (nw n) := by
  induction n using Nat.strongRecOn with
  | _ n ih =>
    by_cases h : n = 0
    · subst h; rw [nw_zero]; intro h; exact absurd rfl h
    · rw [nw_pos h]
      intro _
      have h2 := ih (n / 4294967296) (Nat.div_lt_self (by omega) (by omega))
      by_cases h3 : nw (n / 4294967296) = []
      · have h4 : n / 4294967296 = 0 := by have := nv_nw (n / 4294967296); rw [h3] at this; exact this.symm
        simp [h3]; omega
      · rw [List.getLast_cons h3]; exact h2 h3
/-- The words of a list up to its last word that is not zero. -/
theorem nw_take {a : List Nat} (hw : Wd a) {n : Nat} (hn : n ≤ a.length) (hz : ∀ i, n ≤ i → a.getD i 0 = 0) (hl : n = 0 ∨ a.getD (n - 1) 0 ≠ 0) : nw (nv a) = a.take n := by
  have h1 : nv a = nv (a.take n) := by
    have : ∀ k, nv (a.take (n + k)) = nv (a.take n) := by
      intro k
      induction k with
      | zero => rfl
      | succ k ih => rw [← Nat.add_assoc, nv_take_succ, ih, hz (n + k) (by omega), Nat.zero_mul, Nat.add_zero]
    have h2 := this a.length
    rw [nv_take_all a _ (by omega)] at h2
    exact h2
  rw [h1]
  refine nw_nv (hw.take n) fun h => ?_
  have hpos : 0 < n := by
    rcases Nat.eq_zero_or_pos n with rfl | h2
    · simp at h
    · exact h2
  have := hl.resolve_left (by omega)
  rw [List.getLast_eq_getElem]
  simp only [List.getElem_take, List.length_take, Nat.min_eq_left hn]
  rw [List.getD_eq_getElem?_getD, List.getElem?_eq_getElem (by omega)] at this
  simpa using this
theorem nw_len_lt {n k : Nat} : (nw n).length ≤ k ↔ n < 4294967296 ^ k := by
  constructor
  · intro h
    have h1 := nv_lt (nw_wd n)
    rw [nv_nw] at h1
    exact Nat.lt_of_lt_of_le h1 (Nat.pow_le_pow_right (by omega) h)
  · intro h
    induction k generalizing n with
    | zero => simp at h; subst h; rw [nw_zero]; simp
    | succ k ih =>
      by_cases h0 : n = 0
      · subst h0; rw [nw_zero]; simp
      · rw [nw_pos h0, List.length_cons]
        have := ih (n := n / 4294967296) (by rw [Nat.pow_succ] at h; exact Nat.div_lt_of_lt_mul (by rw [Nat.mul_comm]; exact h))
        omega
theorem nw_eq_nil {n : Nat} : nw n = [] ↔ n = 0 := by
  constructor
  · intro h; have := nv_nw n; rw [h] at this; exact this.symm
  · intro h; rw [h]; exact nw_zero
/-- The highest word that differs decides. -/
theorem nv_lt_at {a b : List Nat} (ha : Wd a) (hl : a.length = b.length) {k : Nat} (hk : k < a.length) (hd : ∀ i, k < i → a.getD i 0 = b.getD i 0) (hlt : a.getD k 0 < b.getD k 0) : nv a < nv b := by
  have key : ∀ j, nv (a.take (k + 1 + j)) < nv (b.take (k + 1 + j)) := by
    intro j
    induction j with
    | zero =>
      rw [Nat.add_zero, nv_take_succ, nv_take_succ]
      have h1 := nv_lt (ha.take k)
      rw [List.length_take, Nat.min_eq_left (Nat.le_of_lt hk)] at h1
      have h2 : (a.getD k 0 + 1) * 4294967296 ^ k ≤ b.getD k 0 * 4294967296 ^ k := Nat.mul_le_mul_right _ hlt
      rw [Nat.add_mul, Nat.one_mul] at h2
      omega
    | succ j ih =>
      rw [← Nat.add_assoc, nv_take_succ, nv_take_succ, hd (k + 1 + j) (by omega)]
      omega
  have := key a.length
  rwa [nv_take_all a _ (by omega), nv_take_all b _ (by omega)] at this
theorem nv_eq_of {a b : List Nat} (hl : a.length = b.length) (hd : ∀ i, a.getD i 0 = b.getD i 0) : a = b := by
  refine List.ext_getElem hl fun i h1 h2 => ?_
  have := hd i
  simpa [List.getD_eq_getElem?_getD, h1, h2] using this
/-- Fewer words, less. -/
theorem nw_lt_len {m n : Nat} (h : (nw m).length < (nw n).length) : m < n := by
  have h1 := (nw_len_lt (n := m)).1 (Nat.le_refl _)
  have h2 : ¬ n < 4294967296 ^ (nw m).length := fun h2 => by have := nw_len_lt.2 h2; omega
  omega
end Go.Proofs.YtbkchheikkbebaaGreatDoor

/-
  Plain: the steps of sums, differences, products and quotients of lists of words.
-/
namespace Go.Proofs.YtbkchheikkbebaaGreatDoor

theorem mul_divmod (s P : Nat) : (s % 4294967296) * P + (s / 4294967296) * (4294967296 * P) = s * P := by
  have h := Nat.div_add_mod s 4294967296
  calc (s % 4294967296) * P + (s / 4294967296) * (4294967296 * P) = (4294967296 * (s / 4294967296) + s % 4294967296) * P := by
        rw [Nat.add_mul, Nat.mul_comm 4294967296 (s / 4294967296), Nat.mul_assoc]; omega
    _ = s * P := by rw [h]
theorem nv_take_set {l : List Nat} {i : Nat} (h : i < l.length) (x : Nat) : nv ((l.set i x).take (i + 1)) = nv (l.take i) + x * 4294967296 ^ i := by
  rw [nv_take_succ, List.take_set_of_le (Nat.le_refl _)]
  simp [List.getD_eq_getElem?_getD, h]
theorem getD_set_self {l : List Nat} {i : Nat} (h : i < l.length) (x : Nat) : (l.set i x).getD i 0 = x := by simp [List.getD_eq_getElem?_getD, h]
theorem getD_set_ne {l : List Nat} {i j : Nat} (h : i ≠ j) (x : Nat) : (l.set i x).getD j 0 = l.getD j 0 := by simp [List.getD_eq_getElem?_getD, List.getElem?_set_ne h]
theorem wadd_step {O c X Y x y P s : Nat} (h : O + c * P = X + Y) (hs : s = c + x + y) : (O + (s % 4294967296) * P) + (s / 4294967296) * (4294967296 * P) = (X + x * P) + (Y + y * P) := by
  have h1 := mul_divmod s P
  have h2 : s * P = c * P + x * P + y * P := by rw [hs, Nat.add_mul, Nat.add_mul]
  omega
/-- A difference of words, with a borrow. -/
theorem sub_step {O b X Y x y P o b' : Nat} (h : O + Y = X + b * P) (hs : o + y + b = x + b' * 4294967296) : (O + o * P) + (Y + y * P) = (X + x * P) + b' * (4294967296 * P) := by
  have h2 : (o + y + b) * P = (x + b' * 4294967296) * P := by rw [hs]
  rw [Nat.add_mul, Nat.add_mul, Nat.add_mul, Nat.mul_assoc] at h2
  omega
theorem nv_zero_of {l : List Nat} (h : nv l = 0) : ∀ i, l.getD i 0 = 0 := by
  induction l with
  | nil => simp
  | cons x l ih =>
    rw [nv_cons] at h
    intro i
    cases i with
    | zero => rw [List.getD_cons_zero]; omega
    | succ i => rw [List.getD_cons_succ]; exact ih (by omega) i
theorem getD_drop (l : List Nat) (k i : Nat) : (l.drop k).getD i 0 = l.getD (k + i) 0 := by simp [List.getD_eq_getElem?_getD]
theorem getD_take {l : List Nat} {k i : Nat} (h : i < k) : (l.take k).getD i 0 = l.getD i 0 := by simp [List.getD_eq_getElem?_getD, List.getElem?_take_of_lt h]
/-- A number of few words has zeros behind them. -/
theorem zero_above {l : List Nat} {k : Nat} (h : nv l < 4294967296 ^ k) : (∀ j, k ≤ j → l.getD j 0 = 0) ∧ nv (l.take k) = nv l := by
  by_cases hk : k ≤ l.length
  · have h1 := nv_split l k hk
    have h2 : nv (l.drop k) = 0 := by
      rcases Nat.eq_zero_or_pos (nv (l.drop k)) with h3 | h3
      · exact h3
      · have : 4294967296 ^ k * 1 ≤ 4294967296 ^ k * nv (l.drop k) := Nat.mul_le_mul_left _ h3
        omega
    refine ⟨fun j hj => ?_, by rw [h1, h2]; omega⟩
    have := nv_zero_of h2 (j - k)
    rwa [getD_drop, Nat.add_sub_cancel' hj] at this
  · refine ⟨fun j hj => ?_, nv_take_all _ _ (by omega)⟩
    simp [List.getD_eq_getElem?_getD, show l.length ≤ j by omega]
/-- A step of a product's row. -/
theorem mul_step {N c M x Y P y w s : Nat} (h : N + c * P = M + x * Y) (hs : s = c + x * y + w) : ∀ N', N' + w * P = N + (s % 4294967296) * P → N' + (s / 4294967296) * (4294967296 * P) = M + x * (Y + y * P) := by
  intro N' hN
  have h1 := mul_divmod s P
  have h2 : s * P = c * P + x * (y * P) + w * P := by rw [hs, Nat.add_mul, Nat.add_mul, Nat.mul_assoc]
  rw [Nat.mul_add]
  omega
theorem mul_carry {c x y w : Nat} (hc : c < 4294967296) (hx : x < 4294967296) (hy : y < 4294967296) (hw : w < 4294967296) : c + x * y + w < 18446744073709551616 := by
  have : x * y ≤ 4294967295 * 4294967295 := Nat.mul_le_mul (by omega) (by omega)
  omega
/-- Quotient and remainder. -/
theorem div_of {a b q r : Nat} (h : a = b * q + r) (hr : r < b) : a / b = q ∧ a % b = r := by
  subst h
  constructor
  · rw [Nat.mul_add_div (by omega), Nat.div_eq_of_lt hr, Nat.add_zero]
  · rw [Nat.mul_add_mod, Nat.mod_eq_of_lt hr]
theorem nv_drop_step {l : List Nat} {i : Nat} (h : i < l.length) : nv (l.drop i) = l.getD i 0 + 4294967296 * nv (l.drop (i + 1)) := by
  rw [List.drop_eq_getElem_cons h, nv_cons]
  simp [List.getD_eq_getElem?_getD, h]
theorem nv_drop_all {l : List Nat} {i : Nat} (h : l.length ≤ i) : nv (l.drop i) = 0 := by rw [List.drop_eq_nil_of_le h]; rfl
/-- A step of a division by one word. -/
theorem small_step {X Q b rest x cur : Nat} (h : X = b * Q + rest) (hr : rest < b) (hb : b < 4294967296) (hx : x < 4294967296) (hc : cur = rest * 4294967296 + x) :
    x + 4294967296 * X = b * (cur / b + 4294967296 * Q) + cur % b ∧ cur % b < b ∧ cur / b < 4294967296 ∧ cur < 18446744073709551616 := by
  have h1 := Nat.div_add_mod cur b
  have hcur : cur < b * 4294967296 := by
    have : (rest + 1) * 4294967296 ≤ b * 4294967296 := Nat.mul_le_mul_right _ hr
    omega
  have hbb : b * 4294967296 ≤ 4294967296 * 4294967296 := Nat.mul_le_mul_right _ (by omega)
  refine ⟨?_, Nat.mod_lt _ (by omega), Nat.div_lt_of_lt_mul hcur, by omega⟩
  rw [Nat.mul_add, show b * (4294967296 * Q) = 4294967296 * (b * Q) by rw [Nat.mul_left_comm]]
  subst h
  omega
/-- Shifting up by fewer than 32 bits. -/
theorem up_step {N X x n P w y : Nat} (hn : n < 32) (hN : N = X * 2 ^ n) (hy : y = x * 2 ^ n) (hw : w < 2 ^ n) : ∀ N', N' + w * P = N + (w ||| (y % 4294967296)) * P + (y / 4294967296) * (4294967296 * P) → (w ||| (y % 4294967296)) = w + y % 4294967296 ∧ N' = (X + x * P) * 2 ^ n := by
  have hor : (w ||| (y % 4294967296)) = w + y % 4294967296 := by
    have e : y % 4294967296 = 2 ^ n * (x % 2 ^ (32 - n)) := by
      rw [hy, show (4294967296 : Nat) = 2 ^ n * 2 ^ (32 - n) by rw [← Nat.pow_add, show n + (32 - n) = 32 by omega], Nat.mul_comm x, Nat.mul_mod_mul_left]
    rw [e, Nat.or_comm, ← Nat.two_pow_add_eq_or_of_lt hw]; omega
  intro N' h
  refine ⟨hor, ?_⟩
  rw [hor, Nat.add_mul] at h
  have h1 := mul_divmod y P
  have h2 : (X + x * P) * 2 ^ n = N + y * P := by rw [hN, hy, Nat.add_mul, Nat.mul_assoc, Nat.mul_assoc, Nat.mul_comm P]
  omega
theorem up_top {x n y : Nat} (hn : n < 32) (hx : x < 4294967296) (hy : y = x * 2 ^ n) : y < 18446744073709551616 ∧ y / 4294967296 < 2 ^ n := by
  have h2 : 2 ^ n ≤ 2 ^ 31 := Nat.pow_le_pow_right (by omega) (by omega)
  have h3 : y < 4294967296 * 2 ^ n := by rw [hy]; exact (Nat.mul_lt_mul_right (Nat.pow_pos (by omega))).2 hx
  exact ⟨by omega, Nat.div_lt_of_lt_mul h3⟩
/-- A word of a number shifted down. -/
theorem down_word {a : List Nat} (n i : Nat) (hn : n < 32) (hi : i < a.length) (hw : Wd a) : ((a.getD i 0 ||| a.getD (i + 1) 0 * 4294967296) / 2 ^ n) % 4294967296 = (nv a / 2 ^ n / 4294967296 ^ i) % 4294967296 := by
  have hor : (a.getD i 0 ||| a.getD (i + 1) 0 * 4294967296) = a.getD i 0 + 4294967296 * a.getD (i + 1) 0 := by
    rw [Nat.or_comm, Nat.mul_comm, show (4294967296 : Nat) = 2 ^ 32 by rfl, ← Nat.two_pow_add_eq_or_of_lt (by have := hw.getD i; omega)]; omega
  have e1 : nv a / 2 ^ n / 4294967296 ^ i = nv (a.drop i) / 2 ^ n := by
    rw [Nat.div_div_eq_div_mul, Nat.mul_comm, ← Nat.div_div_eq_div_mul, nv_split a i (Nat.le_of_lt hi), Nat.add_mul_div_left _ _ (Nat.pow_pos (by omega))]
    have := nv_lt (hw.take i)
    rw [List.length_take, Nat.min_eq_left (Nat.le_of_lt hi)] at this
    rw [Nat.div_eq_of_lt this, Nat.zero_add]
  rw [e1, hor, nv_drop_step hi]
  obtain ⟨z, hz⟩ : ∃ z, nv (a.drop (i + 1)) = a.getD (i + 1) 0 + 4294967296 * z := by
    by_cases h : i + 1 < a.length
    · exact ⟨_, nv_drop_step h⟩
    · refine ⟨0, ?_⟩
      rw [nv_drop_all (by omega)]
      simp [List.getD_eq_getElem?_getD, show a.length ≤ i + 1 by omega]
  rw [hz, Nat.mul_add, ← Nat.add_assoc]
  have e2 : 4294967296 * (4294967296 * z) = 2 ^ n * (4294967296 * (2 ^ (32 - n) * z)) := by
    rw [← Nat.mul_assoc, ← Nat.mul_assoc, Nat.mul_comm (2 ^ n) 4294967296, ← Nat.mul_assoc, Nat.mul_assoc 4294967296 (2 ^ n), ← Nat.pow_add, show n + (32 - n) = 32 by omega]
  rw [e2, Nat.add_mul_div_left _ _ (Nat.pow_pos (by omega)), Nat.add_mul_mod_self_left]
theorem mod_pow_succ (x i : Nat) : x % 4294967296 ^ (i + 1) = x % 4294967296 ^ i + (x / 4294967296 ^ i % 4294967296) * 4294967296 ^ i := by
  rw [Nat.pow_succ, Nat.mod_mul, Nat.mul_comm (4294967296 ^ i)]
end Go.Proofs.YtbkchheikkbebaaGreatDoor
