import Derived.WalkKit
import Derived.WalkSpells
import Derived.WalkLawsBesides
import Derived.Deep.QuietTactic
import Derived.BigQuiet
import Derived.Lib.Hide
import Derived.Shelf.Abstract
import Derived.Deep.RegionWith
import Derived.Laws.AppendOwnNone
import Derived.Lib.AppendZerosOnto
import Derived.Lib.SliceRun
import Derived.Lib.SlicesCompact
import Derived.Shelf.SlSortCmp.NoneTotal
import Derived.Maps.OwnOps
import Derived.Maps.OwnSet
import Derived.Maps.Views
import Derived.Deep.MidRow
import Derived.Deep.RegionHeld3
import Derived.Deep.AppendLies
import Derived.Deep.RegionLaw
import Derived.IntWalk
import Derived.StillTailTactics
import Derived.ProofKit
import Derived.OpenShut
import Derived.SizedLaws
import Derived.Lib.SmallJoins
import Derived.Deep.Slices
import Derived.Deep.Fields
import Derived.Deep.Strs
import Derived.Carry
import Derived.Deep.DeepCutAuto
import Derived.Test.YtpaedhlacbpmpaaGreatDoorPX1
import Derived.Test.YtpaedhlacbpmpaaGreatDoorShelf
import Derived.BigRegion
import Derived.ChangeAlike
import Derived.Deep.LoopGhost
import Derived.Lib.ItoaNum
import Derived.RegionTactic
import Derived.Shelf.SlSortCmp.PdqK
import Derived.Sort.LotA
import Derived.Sort.LotD2
import Derived.Lib.BitFns
import Derived.Deep.CutBlock
/-
  Words of 32 bits in memory: slices that can be read, rows of the call's own, append.
-/
namespace Go.Proofs.YtpaedhlacbpmpaaGreatDoor
open Go.RowKit

def w32 (x : Nat) : Value := .int .u32 (x : Int)
/-- A slice of words that can be read. -/
def WdsAt (w : World) (v : Value) (xs : List Nat) : Prop :=
  ∃ (a : Option Addr) (c : Nat), v = .slice a xs.length c ∧ (xs.length ≤ c ∧ (a = none → c = 0)) ∧ xs.length ≤ 1099511627776 ∧ Wd xs ∧
    ∀ i (_ : i < xs.length), ∃ b o, a = some ⟨b, o, none⟩ ∧ w.cell? ⟨b, o + i, none⟩ = some (.int .u32 ((xs.getD i 0 : Nat) : Int))
theorem WdsAt.kept {w w' : World} {v : Value} {xs : List Nat} (h : WdsAt w v xs) (hk : Kept w w') : WdsAt w' v xs := by
  obtain ⟨a, c, h1, h2, h3, h4, h5⟩ := h
  exact ⟨a, c, h1, h2, h3, h4, fun i hi => let ⟨b, o, h6, h7⟩ := h5 i hi; ⟨b, o, h6, hk.cell h7⟩⟩
theorem WdsAt.wd {w : World} {v : Value} {xs : List Nat} (h : WdsAt w v xs) : Wd xs := by obtain ⟨_, _, _, _, _, h, _⟩ := h; exact h
theorem WdsAt.len {w : World} {v : Value} {xs : List Nat} (h : WdsAt w v xs) : xs.length ≤ 1099511627776 := by obtain ⟨_, _, _, _, h, _⟩ := h; exact h
theorem WdsAt.shape {w : World} {v : Value} {xs : List Nat} (h : WdsAt w v xs) : ∃ a c, v = .slice a xs.length c := by obtain ⟨a, c, h, _⟩ := h; exact ⟨a, c, h⟩
theorem WdsAt.nil (w : World) : WdsAt w (.slice none 0 0) [] := ⟨none, 0, rfl, ⟨by simp, fun _ => rfl⟩, by simp, Wd.nil, fun i h => by simp at h⟩
theorem WdsAt.get {w : World} {a : Option Addr} {n c : Nat} {xs : List Nat} (h : WdsAt w (.slice a n c) xs) (i : Nat) (hi : i < xs.length) : ∃ b o, a = some ⟨b, o, none⟩ ∧ w.cell? ⟨b, o + i, none⟩ = some (.int .u32 ((xs.getD i 0 : Nat) : Int)) := by
  obtain ⟨a', c', h1, _, _, _, h5⟩ := h
  injection h1 with h1
  subst h1
  exact h5 i hi
/-- A part of a slice of words. -/
theorem WdsAt.take {w : World} {a : Option Addr} {n c : Nat} {xs : List Nat} (h : WdsAt w (.slice a n c) xs) (k : Nat) (hk : k ≤ xs.length) : WdsAt w (.slice a k c) (xs.take k) := by
  obtain ⟨a', c', h1, h2, h3, h4, h5⟩ := h
  injection h1 with h1 h6 h7
  subst h1 h7
  have hl : (xs.take k).length = k := by rw [List.length_take]; omega
  refine ⟨a, c, by rw [hl], ⟨by omega, h2.2⟩, by omega, h4.take k, fun i hi => ?_⟩
  obtain ⟨b, o, h8, h9⟩ := h5 i (by omega)
  exact ⟨b, o, h8, by rw [getD_take (by omega)]; exact h9⟩
theorem WdsAt.drop {w : World} {b o n c : Nat} {xs : List Nat} (h : WdsAt w (.slice (some ⟨b, o, none⟩) n c) xs) (k : Nat) (hk : k ≤ xs.length) : WdsAt w (.slice (some ⟨b, o + k, none⟩) (n - k) (c - k)) (xs.drop k) := by
  obtain ⟨a', c', h1, h2, h3, h4, h5⟩ := h
  injection h1 with h1 h6 h7
  subst h1 h7
  have hl : (xs.drop k).length = n - k := by rw [List.length_drop]; omega
  refine ⟨_, c - k, by rw [hl], ⟨by omega, fun h => by cases h⟩, by omega, h4.drop k, fun i hi => ⟨b, o + k, rfl, ?_⟩⟩
  obtain ⟨b2, o2, h8, h9⟩ := h5 (k + i) (by omega)
  cases h8
  rw [getD_drop, Nat.add_assoc]
  exact h9
/-- A slice of words of the call's own. -/
def OwnWds (w : World) (B : Nat) (v : Value) (xs : List Nat) : Prop :=
  w.ownsRow B 34 1 v xs.length (xs.map w32) ∧ xs.length ≤ 1099511627776 ∧ Wd xs
theorem OwnWds.at {w : World} {B : Nat} {v : Value} {xs : List Nat} (h : OwnWds w B v xs) : WdsAt w v xs := by
  obtain ⟨⟨h1, h2⟩, h3, h3'⟩ := h
  rcases h2 with ⟨rfl, h4⟩ | ⟨g, cap, cur, rfl, h5, h6, h7, h8, h9, h10⟩
  · have : xs = [] := List.eq_nil_of_length_eq_zero h4
    subst this
    exact WdsAt.nil w
  · refine ⟨_, cap, rfl, ⟨h7, fun h => by cases h⟩, h3, h3', fun i hi => ⟨g, 0, rfl, ?_⟩⟩
    have e1 : (cur.toList.take (xs.length * 1))[i]? = (xs.map w32)[i]? := by rw [h10]
    rw [List.getElem?_take_of_lt (by omega)] at e1
    simp only [World.cell?, h6, Nat.zero_add]
    simpa [hi, w32, List.getD_eq_getElem?_getD] using e1
theorem OwnWds.kept {w w' : World} {B : Nat} {v : Value} {xs : List Nat} (h : OwnWds w B v xs) (hb : Kept w w') : OwnWds w' B v xs := ⟨own_kept h.1 hb, h.2⟩
theorem OwnWds.nil (w : World) (B : Nat) : OwnWds w B (.slice none 0 0) [] := ⟨World.ownsRow_nil _ _ _ _, by simp, Wd.nil⟩
theorem OwnWds.mono {w : World} {B B' : Nat} {v : Value} {xs : List Nat} (h : OwnWds w B v xs) (hb : B' ≤ B) : OwnWds w B' v xs := ⟨own_mono h.1 hb, h.2⟩
theorem own_emptyW (w : World) (B : Nat) (hB : B ≤ w.heap.size) : OwnWds (w.alloc (.cells #[] 34)) B (.slice (some ⟨w.heap.size, 0, none⟩) 0 0) [] :=
  ⟨⟨by simp, .inr ⟨w.heap.size, 0, #[], rfl, hB, heap_alloc_new w _, Nat.le_refl _, by unfold maxLen; omega, by simp, by simp⟩⟩, by simp, Wd.nil⟩
theorem info_u32 : (Tryz.prog.info? 34).map (fun i => (i.zero, i.size, i.bytes)) = some (some (.int .u32 0), 1, 4) := by kernel_rfl
/-- append of a whole slice of words. -/
theorem app_wds {ops : Array Oper} {rest : List Oper} {o : Oper} {a : Act} {Q : Exit → Act → World → Prop} {w : World} (hgd : o.guard = none) (s x : Operand)
    (ho : o.op = .call { callee := .builtin .append, args := #[s, x], argTypes := #[36, 36] }) (B : Nat) (v : Value) (xs : List Nat) (hs : a.eval s = v) (hown : OwnWds w B v xs)
    (u : Value) (ys : List Nat) (hx : a.eval x = u) (hu : WdsAt w u ys) (hl : xs.length + ys.length ≤ 1099511627776) (hB : B ≤ w.heap.size)
    (h : ∀ v' w', OwnWds w' B v' (xs ++ ys) → Below B w w' → wpList Tryz.prog ops Q rest (a.put o.dst v') w') : wpList Tryz.prog ops Q (o :: rest) a w := by
  obtain ⟨i0, hi0, hz0, hz1, hz2⟩ := info_parts info_u32
  obtain ⟨ad, c, rfl, ⟨hc, hcn⟩, hl2, hw, hcell⟩ := hu
  cases ad with
  | none =>
    have hy : ys = [] := by
      cases ys with
      | nil => rfl
      | cons y ys => obtain ⟨b, o, h, _⟩ := hcell 0 (by simp); cases h
    subst hy
    rw [hcn rfl] at hx
    refine wpList_append_own_none hgd s x 36 ho B 34 i0 1 Tryz.underlying36 hi0 v xs.length _ hs hown.1 hx ?_
    exact h v w (by simpa using hown) (Below.refl _ _)
  | some ad =>
    refine wpList_append_own _ hgd s x 36 ho B 34 i0 _ 1 4 Tryz.underlying36 hi0 hz0 hz1 hz2 rfl (by decide) v xs.length _ hs hown.1 ad ys.length c (ys.map w32) hx (by simp) ?_ ?_ (by simp [maxLen]; omega) (by omega) hB ?_
    · intro j u hj
      have hj' : j < ys.length := by
        rcases Nat.lt_or_ge j ys.length with h | h
        · exact h
        · rw [List.getElem?_eq_none (by simpa using h)] at hj; cases hj
      obtain ⟨b, o, h5, h6⟩ := hcell j hj'
      cases h5
      simp [hj', w32] at hj
      subst hj
      rw [show ({ block := b, off := o } : Addr).add j = ⟨b, o + j, none⟩ by unfold Addr.add; split <;> simp_all, h6]
      simp [List.getD_eq_getElem?_getD, hj']
    · intro u hu; obtain ⟨y, _, rfl⟩ := List.mem_map.1 hu; rfl
    · intro v' w' h5 h6 _
      exact h v' w' ⟨by simpa using h5, by simp; omega, hown.2.2.app hw⟩ (grown_below h6 hown.1 hB)
/-- append of one word. -/
theorem app_wd {ops : Array Oper} {rest : List Oper} {o : Oper} {a : Act} {Q : Exit → Act → World → Prop} {w : World} (hgd : o.guard = none) (s x : Operand)
    (ho : o.op = .call { callee := .builtin .append, args := #[s, x], argTypes := #[36, 36] }) (B : Nat) (v : Value) (xs : List Nat) (hs : a.eval s = v) (hown : OwnWds w B v xs)
    (ad : Addr) (y : Nat) (hx : a.eval x = .slice (some ad) 1 1) (hc : w.cell? ad = some (.int .u32 (y : Int))) (hy : y < 4294967296) (hl : xs.length < 1099511627776) (hB : B ≤ w.heap.size)
    (h : ∀ v' w', OwnWds w' B v' (xs ++ [y]) → Below B w w' → wpList Tryz.prog ops Q rest (a.put o.dst v') w') : wpList Tryz.prog ops Q (o :: rest) a w := by
  refine app_one 36 34 _ 4 info_u32 Tryz.underlying36 rfl hgd s x ho B v (xs.map w32) hs (by simpa using hown.1) ad _ hx hc rfl (by simp; omega) (by simp [maxLen]; omega) hB ?_
  intro v' w' h2 h3 h4
  exact h v' w' ⟨by simpa [w32] using h2, by simp; omega, hown.2.2.app (Wd.cons hy Wd.nil)⟩ h4
theorem row_wds {w : World} {g : Nat} {xs : List Nat} {c : Nat} (h : RowAt w g 34 (xs.map w32)) (hc : xs.length ≤ c) (hl : xs.length ≤ 1099511627776) (hw : Wd xs) : WdsAt w (.slice (some ⟨g, 0, none⟩) xs.length c) xs :=
  ⟨_, c, rfl, ⟨hc, fun h => by cases h⟩, hl, hw, fun i hi => ⟨g, 0, rfl, by have := h.cell (i := i) (by simpa using hi); simpa [w32, List.getD_eq_getElem?_getD, hi] using this⟩⟩
theorem wds_store {w : World} {g : Nat} {xs : List Nat} (h : RowAt w g 34 (xs.map w32)) (i x : Nat) : RowAt (w.setCell ⟨g, i, none⟩ (.int .u32 (x : Int))) g 34 ((xs.set i x).map w32) := by
  have := h.store i (w32 x)
  rwa [← List.map_set] at this
theorem wds_cell {w : World} {g : Nat} {xs : List Nat} (h : RowAt w g 34 (xs.map w32)) (i : Nat) (hi : i < xs.length) : w.cell? ⟨g, i, none⟩ = some (.int .u32 ((xs.getD i 0 : Nat) : Int)) := by
  have := h.cell (i := i) (by simpa using hi)
  simpa [w32, List.getD_eq_getElem?_getD, hi] using this
end Go.Proofs.YtpaedhlacbpmpaaGreatDoor

/-
  Walks: natural.word, natural.trim.
-/
namespace Go.Proofs.YtpaedhlacbpmpaaGreatDoor
open Go.RowKit

set_option maxRecDepth 100000 in
theorem nword_any (v : Value) (xs : List Nat) (i : Nat) (w : World) (hv : WdsAt w v xs) : Calls Tryz.prog 109 #[v, .int .i64 i] w fun e w' => e = .returned (.int .u64 ((xs.getD i 0 : Nat) : Int)) ∧ w = w' := by
  obtain ⟨a, c, rfl⟩ := hv.shape
  have hl := hv.len
  obtain ⟨n, hn⟩ : ∃ n, n = xs.length := ⟨_, rfl⟩
  rw [← hn] at hv hl ⊢
  by_cases h : i < n
  · obtain ⟨b, o, rfl, hc⟩ := hv.get i (by omega)
    have hx := hv.wd.getD i
    obtain ⟨x, hx2⟩ : ∃ x, x = xs.getD i 0 := ⟨_, rfl⟩
    rw [← hx2] at hc hx ⊢
    have hi : (i : Int) < (n : Int) := by omega
    clear hv hn hx2
    go_enter Tryz.func109, Tryz.ntmps109
    go_wp2
    go_ret
    exact ⟨rfl, rfl⟩
  · have e : xs.getD i 0 = 0 := by simp [List.getD_eq_getElem?_getD, show xs.length ≤ i by omega]
    rw [e]
    have hi : ¬ (i : Int) < (n : Int) := by omega
    clear hv hn e
    go_enter Tryz.func109, Tryz.ntmps109
    go_wp2
    go_ret
    exact ⟨rfl, rfl⟩
set_option maxRecDepth 100000 in
theorem rword_any (v : Value) (xs : List Nat) (i : Nat) (w : World) (hv : WdsAt w v xs) : Calls Tryz.prog 129 #[v, .int .i64 i] w fun e w' => e = .returned (.int .u64 ((xs.getD i 0 : Nat) : Int)) ∧ w = w' := by
  obtain ⟨a, c, rfl⟩ := hv.shape
  have hl := hv.len
  obtain ⟨n, hn⟩ : ∃ n, n = xs.length := ⟨_, rfl⟩
  rw [← hn] at hv hl ⊢
  by_cases h : i < n
  · obtain ⟨b, o, rfl, hc⟩ := hv.get i (by omega)
    have hx := hv.wd.getD i
    obtain ⟨x, hx2⟩ : ∃ x, x = xs.getD i 0 := ⟨_, rfl⟩
    rw [← hx2] at hc hx ⊢
    have hi : (i : Int) < (n : Int) := by omega
    clear hv hn hx2
    go_enter Tryz.func129, Tryz.ntmps129
    go_wp2
    go_ret
    exact ⟨rfl, rfl⟩
  · have e : xs.getD i 0 = 0 := by simp [List.getD_eq_getElem?_getD, show xs.length ≤ i by omega]
    rw [e]
    have hi : ¬ (i : Int) < (n : Int) := by omega
    clear hv hn e
    go_enter Tryz.func129, Tryz.ntmps129
    go_wp2
    go_ret
    exact ⟨rfl, rfl⟩
set_option maxRecDepth 100000 in
set_option maxHeartbeats 1000000 in
theorem ntrim_any (v : Value) (xs : List Nat) (w : World) (hv : WdsAt w v xs) : Calls Tryz.prog 106 #[v] w fun e w' => (∃ v', e = .returned v' ∧ WdsAt w' v' (nw (nv xs))) ∧ Kept w w' := by
  obtain ⟨a, c, rfl⟩ := hv.shape
  have hl := hv.len
  have HV := Lib.hid hv
  obtain ⟨n, hn⟩ : ∃ n, n = xs.length := ⟨_, rfl⟩
  have HN := Lib.hid hn
  rw [← hn] at hl ⊢
  have HV2 : Hid (WdsAt w (.slice a n c) xs) := Lib.hid (by rw [hn]; exact HV.out)
  clear hv hn HV
  go_enter Tryz.func106, Tryz.ntmps106
  go_wp2
  go_loopg [3] n (fun kx s3 wr => ∃ k : Nat, s3 = .int .i64 k ∧ k ≤ n ∧ k ≤ kx ∧ Hid (∀ i, k ≤ i → xs.getD i 0 = 0) ∧ w = wr)
  case atStart => exact ⟨n, rfl, Nat.le_refl _, Nat.le_refl _, Lib.hid (fun i hi => by have := HN.out; simp [List.getD_eq_getElem?_getD, show xs.length ≤ i by omega]), rfl⟩
  case round =>
    obtain ⟨k, rfl, hk, hkx, HZ, rfl⟩ := hrel
    by_cases hk0 : k = 0
    · have e0 : nw (nv xs) = [] := by
        rw [nw_take HV2.out.wd (Nat.zero_le _) (fun i hi => HZ.out i (by omega)) (.inl rfl)]; rfl
      subst hk0
      go_wp2
      go_ret
      exact ⟨⟨_, rfl, by rw [e0]; exact WdsAt.nil _⟩, Kept.refl _⟩
    · obtain ⟨j, rfl⟩ : ∃ j, k = j + 1 := ⟨k - 1, by omega⟩
      obtain ⟨b, o, rfl, hc⟩ := HV2.out.get j (by have := HN.out; omega)
      obtain ⟨x, hx2⟩ : ∃ x, x = xs.getD j 0 := ⟨_, rfl⟩
      rw [← hx2] at hc
      have hp : ((j + 1 : Nat) : Int) > 0 := by omega
      have hj : ((j + 1 : Nat) : Int) - 1 = (j : Int) := by omega
      have hjn : (j : Int) < (n : Int) := by omega
      by_cases hx0 : x = 0
      · have hb : ((x : Int) == 0) = true := by simp [hx0]
        have HX := Lib.hid (hx2.symm.trans hx0)
        clear hx2 hx0
        go_wp2
        go_roundg j
        case measure => omega
        case rel => exact ⟨j, rfl, by omega, Nat.le_refl _, Lib.hid (fun i hi => by
          by_cases h : i = j
          · rw [h]; exact HX.out
          · exact HZ.out i (by omega)), rfl⟩
      · have hb : ((x : Int) == 0) = false := by simp; exact hx0
        have hle : j + 1 ≤ xs.length := by have := HN.out; omega
        have e0 : nw (nv xs) = xs.take (j + 1) := nw_take HV2.out.wd hle HZ.out (.inr (by rw [Nat.add_sub_cancel, ← hx2]; exact hx0))
        have HT := Lib.hid (HV2.out.take (j + 1) hle)
        have hlt : (xs.take (j + 1)).length = j + 1 := by rw [List.length_take]; omega
        have HLT := Lib.hid hlt
        obtain ⟨m, hm⟩ : ∃ m, m = j + 1 := ⟨_, rfl⟩
        rw [← hm] at HT HLT hp hj hk e0
        have E0 := Lib.hid e0
        have hmc : m ≤ c := by obtain ⟨_, _, h1, h2, _⟩ := HT.out; injection h1 with _ h3 h4; have := HLT.out; omega
        have hneq : ((m : Int) == 0) = false := by simp; omega
        rw [← hm]
        clear hx2 hx0 e0 hlt hm hle
        go_wp2_with (at_builtin; refine app_wds rfl _ _ rfl w.heap.size _ [] rfl (own_emptyW w _ (Nat.le_refl _)) _ _ rfl (HT.out.kept ((Kept.refl _).alloc _)) (by have := HLT.out; simp; omega) (by simp) ?_; intro v7 w7 hown7 hb7; have O7 := Lib.hid hown7; have HB7 := Lib.hid hb7; clear hown7 hb7)
        go_ret
        exact ⟨⟨_, rfl, by rw [E0.out]; have := O7.out.at; simpa using this⟩, ((Kept.refl _).alloc _).app HB7.out⟩
set_option maxRecDepth 100000 in
set_option maxHeartbeats 1000000 in
theorem rtrim_any (v : Value) (xs : List Nat) (w : World) (hv : WdsAt w v xs) : Calls Tryz.prog 126 #[v] w fun e w' => (∃ v', e = .returned v' ∧ OwnWds w' w.heap.size v' (nw (nv xs))) ∧ Kept w w' := by
  obtain ⟨a, c, rfl⟩ := hv.shape
  have hl := hv.len
  have HV := Lib.hid hv
  obtain ⟨n, hn⟩ : ∃ n, n = xs.length := ⟨_, rfl⟩
  have HN := Lib.hid hn
  rw [← hn] at hl ⊢
  have HV2 : Hid (WdsAt w (.slice a n c) xs) := Lib.hid (by rw [hn]; exact HV.out)
  clear hv hn HV
  go_enter Tryz.func126, Tryz.ntmps126
  go_wp2
  go_loopg [3] n (fun kx s3 wr => ∃ k : Nat, s3 = .int .i64 k ∧ k ≤ n ∧ k ≤ kx ∧ Hid (∀ i, k ≤ i → xs.getD i 0 = 0) ∧ w = wr)
  case atStart => exact ⟨n, rfl, Nat.le_refl _, Nat.le_refl _, Lib.hid (fun i hi => by have := HN.out; simp [List.getD_eq_getElem?_getD, show xs.length ≤ i by omega]), rfl⟩
  case round =>
    obtain ⟨k, rfl, hk, hkx, HZ, rfl⟩ := hrel
    have hle : k ≤ xs.length := by have := HN.out; omega
    have HT := Lib.hid (HV2.out.take k hle)
    have hlt : (xs.take k).length = k := by rw [List.length_take]; omega
    have HLT := Lib.hid hlt
    have hkc : k ≤ c := by obtain ⟨_, _, h1, h2, _⟩ := HT.out; injection h1 with _ h3 h4; omega
    clear hlt
    by_cases hex : k = 0 ∨ xs.getD (k - 1) 0 ≠ 0
    · have E0 := Lib.hid (nw_take HV2.out.wd hle HZ.out hex)
      have HFIN : Hid (∀ (g cc : Nat), True) := Lib.hid fun _ _ => trivial
      clear HFIN
      by_cases hk0 : k = 0
      · have hp : ¬ (k : Int) > 0 := by omega
        have hcn : a = none → c = 0 := by obtain ⟨_, _, h1, h2, _⟩ := HV2.out; injection h1 with h1 _ h3; subst h1 h3; exact h2.2
        subst hk0
        clear hex
        cases a with
        | none =>
          have := hcn rfl
          subst this
          go_wp2
          go_ret
          exact ⟨⟨_, rfl, by rw [E0.out]; exact own_emptyW w _ (Nat.le_refl _)⟩, (Kept.refl _).alloc _⟩
        | some a =>
          clear hcn
          go_wp2
          go_ret
          exact ⟨⟨_, rfl, by rw [E0.out]; exact own_emptyW w _ (Nat.le_refl _)⟩, (Kept.refl _).alloc _⟩
      · obtain ⟨b, o, rfl, hc⟩ := HV2.out.get (k - 1) (by omega)
        have hx0 := hex.resolve_left hk0
        obtain ⟨x, hx2⟩ : ∃ x, x = xs.getD (k - 1) 0 := ⟨_, rfl⟩
        rw [← hx2] at hc hx0
        obtain ⟨j, hj2⟩ : ∃ j, j = k - 1 := ⟨_, rfl⟩
        rw [← hj2] at hc
        have hp : (k : Int) > 0 := by omega
        have hj : (k : Int) - 1 = (j : Int) := by omega
        have hjn : (j : Int) < (n : Int) := by omega
        have hjn2 : j < n := by omega
        have hb : ((x : Int) == 0) = false := by simp; exact hx0
        clear hex hx2 hx0 hj2
        go_wp2_with (at_builtin; refine app_wds rfl _ _ rfl w.heap.size _ [] rfl (own_emptyW w _ (Nat.le_refl _)) _ _ rfl (HT.out.kept ((Kept.refl _).alloc _)) (by have := HLT.out; simp; omega) (by simp) ?_; intro v7 w7 hown7 hb7; have O7 := Lib.hid hown7; have HB7 := Lib.hid hb7; clear hown7 hb7)
        go_ret
        exact ⟨⟨_, rfl, by rw [E0.out]; have := O7.out; simpa using this⟩, ((Kept.refl _).alloc _).app HB7.out⟩
    · have hk0 : k ≠ 0 := fun h => hex (.inl h)
      have hx0 : xs.getD (k - 1) 0 = 0 := Classical.byContradiction fun h => hex (.inr h)
      obtain ⟨b, o, rfl, hc⟩ := HV2.out.get (k - 1) (by omega)
      rw [hx0] at hc
      obtain ⟨j, hj2⟩ : ∃ j, j = k - 1 := ⟨_, rfl⟩
      rw [← hj2] at hc hx0
      have hp : (k : Int) > 0 := by omega
      have hj : (k : Int) - 1 = (j : Int) := by omega
      have hjn : (j : Int) < (n : Int) := by omega
      have hjn2 : j < n := by omega
      have hjk : j + 1 = k := by omega
      have HX := Lib.hid hx0
      clear hex hx0 hj2
      go_wp2
      go_roundg j
      case measure => omega
      case rel => exact ⟨j, by go_num, by omega, Nat.le_refl _, Lib.hid (fun i hi => by
        by_cases h : i = j
        · rw [h]; exact HX.out
        · exact HZ.out i (by omega)), rfl⟩
end Go.Proofs.YtpaedhlacbpmpaaGreatDoor

/-
  Walks: natural.Cmp, faultlineref01.Cmp.
-/
namespace Go.Proofs.YtpaedhlacbpmpaaGreatDoor
open Go.RowKit

def cmpN (a b : Nat) : Int := if a < b then -1 else if b < a then 1 else 0
theorem cmpN_lt {a b : Nat} (h : a < b) : cmpN a b = -1 := by unfold cmpN; rw [if_pos h]
theorem cmpN_gt {a b : Nat} (h : b < a) : cmpN a b = 1 := by unfold cmpN; rw [if_neg (by omega), if_pos h]
theorem cmpN_eq {a b : Nat} (h : a = b) : cmpN a b = 0 := by unfold cmpN; rw [if_neg (by omega), if_neg (by omega)]
set_option maxRecDepth 100000 in
set_option maxHeartbeats 1000000 in
theorem ncmp_any (va vb : Value) (xs ys : List Nat) (w : World) (ha : WdsAt w va xs) (hb : WdsAt w vb ys) : Calls Tryz.prog 70 #[va, vb] w fun e w' => e = .returned (.int .i64 (cmpN (nv xs) (nv ys))) ∧ Kept w w' := by
  have HA := Lib.hid (fun W (hk : Kept w W) => ntrim_any va xs W (ha.kept hk))
  have HB := Lib.hid (fun W (hk : Kept w W) => ntrim_any vb ys W (hb.kept hk))
  obtain ⟨a0, c0, rfl⟩ := ha.shape
  obtain ⟨a1, c1, rfl⟩ := hb.shape
  obtain ⟨m, hm⟩ : ∃ m, m = nv xs := ⟨_, rfl⟩
  obtain ⟨n, hn⟩ : ∃ n, n = nv ys := ⟨_, rfl⟩
  rw [← hm] at HA ⊢
  rw [← hn] at HB ⊢
  generalize xs.length = l0 at *
  generalize ys.length = l1 at *
  clear ha hb hm hn
  go_enter Tryz.func70, Tryz.ntmps70
  go_wp2_with fail
  refine (HA.out _ (Kept.refl _)).mono ?_
  rintro e w1 ⟨⟨v1, rfl, hv1⟩, hk1⟩
  go_wp2_with fail
  refine (HB.out _ hk1).mono ?_
  rintro e w2 ⟨⟨v2, rfl, hv2⟩, hk2⟩
  have hv1' := hv1.kept hk2
  have HK := Lib.hid (hk1.trans hk2)
  obtain ⟨a2, c2, rfl⟩ := hv1'.shape
  obtain ⟨a3, c3, rfl⟩ := hv2.shape
  have H1 := Lib.hid hv1'
  have H2 := Lib.hid hv2
  obtain ⟨p, hp⟩ : ∃ p, p = (nw m).length := ⟨_, rfl⟩
  obtain ⟨q, hq⟩ : ∃ q, q = (nw n).length := ⟨_, rfl⟩
  have hp9 : p ≤ 1099511627776 := by rw [hp]; exact hv1'.len
  have hq9 : q ≤ 1099511627776 := by rw [hq]; exact hv2.len
  rw [← hp] at H1 ⊢
  rw [← hq] at H2 ⊢
  have HP := Lib.hid hp
  have HQ := Lib.hid hq
  clear hv1 hv1' hv2 hk1 hk2 hp hq
  rcases Nat.lt_trichotomy p q with hlt | heq | hgt
  · have hc := cmpN_lt (nw_lt_len (m := m) (n := n) (by have := HP.out; have := HQ.out; omega))
    have HC := Lib.hid hc
    have b1 : ((p : Int) != (q : Int)) = true := by simp; omega
    have b2 : decide (p < q) = true := by simpa using hlt
    clear hc
    go_wp2
    go_ret
    exact ⟨by rw [HC.out]; first | done | rfl, HK.out⟩
  · subst heq
    have b1 : ((p : Int) != (p : Int)) = false := by simp
    go_wp2
    go_loopg [5] p (fun kx s5 wr => ∃ k : Nat, s5 = .int .i64 ((k : Int) - 1) ∧ k ≤ p ∧ k ≤ kx ∧ Hid (∀ i, k ≤ i → (nw m).getD i 0 = (nw n).getD i 0) ∧ Hid (Kept w2 wr))
    case atStart => exact ⟨p, rfl, Nat.le_refl _, Nat.le_refl _, Lib.hid (fun i hi => by
      have h1 := HP.out
      have h2 := HQ.out
      simp [List.getD_eq_getElem?_getD, show (nw m).length ≤ i by omega, show (nw n).length ≤ i by omega]), Lib.hid (Kept.refl _)⟩
    case round =>
      obtain ⟨k, rfl, hk, hkx, HD, HR⟩ := hrel
      by_cases hk0 : k = 0
      · subst hk0
        have hc := cmpN_eq (show m = n by
          have h := nv_eq_of (HP.out.symm.trans HQ.out) (fun i => HD.out i (by omega))
          have h1 := nv_nw m
          rw [h, nv_nw] at h1
          exact h1.symm)
        have HC := Lib.hid hc
        clear hc
        go_wp2
        go_ret
        exact ⟨by rw [HC.out]; first | done | rfl, by first | exact HK.out.trans HR.out | exact (HK.out.trans HR.out).drew | exact ((HK.out.trans HR.out).drewN _).drewN _⟩
      · obtain ⟨j, rfl⟩ : ∃ j, k = j + 1 := ⟨k - 1, by omega⟩
        have hpj := HP.out
        have hqj := HQ.out
        obtain ⟨b, o, rfl, hx⟩ := (H1.out.kept HR.out).get j (by omega)
        obtain ⟨b', o', rfl, hy⟩ := (H2.out.kept HR.out).get j (by omega)
        have hxw := (nw_wd m).getD j
        have hyw := (nw_wd n).getD j
        have HLT : Hid ((nw m).getD j 0 < (nw n).getD j 0 → m < n) := Lib.hid fun h => by
          have := nv_lt_at (nw_wd m) (hpj.symm.trans hqj) (by omega) (fun i hi => HD.out i (by omega)) h
          rwa [nv_nw, nv_nw] at this
        have HGT : Hid ((nw n).getD j 0 < (nw m).getD j 0 → n < m) := Lib.hid fun h => by
          have := nv_lt_at (nw_wd n) (hqj.symm.trans hpj) (by omega) (fun i hi => (HD.out i (by omega)).symm) h
          rwa [nv_nw, nv_nw] at this
        have HEQ : Hid ((nw m).getD j 0 = (nw n).getD j 0 → ∀ i, j ≤ i → (nw m).getD i 0 = (nw n).getD i 0) := Lib.hid fun h i hi => by
          by_cases e : i = j
          · rw [e]; exact h
          · exact HD.out i (by omega)
        generalize (nw m).getD j 0 = x at *
        generalize (nw n).getD j 0 = y at *
        have e1 : ((j + 1 : Nat) : Int) - 1 = (j : Int) := by omega
        rw [e1]
        have hj0 : (0 : Int) ≤ (j : Int) := by omega
        have hjn : (j : Int) < (p : Int) := by omega
        clear hpj hqj e1
        rcases Nat.lt_trichotomy x y with h | h | h
        · have HC := Lib.hid (cmpN_lt (HLT.out h))
          have h' : (x : Int) < (y : Int) := by omega
          go_wp2
          go_region
          all_goals go_wp2
          all_goals go_ret
          all_goals exact ⟨by rw [HC.out]; first | done | rfl, by first | exact HK.out.trans HR.out | exact (HK.out.trans HR.out).drew | exact ((HK.out.trans HR.out).drewN _).drewN _⟩
        · subst h
          have h' : ¬ (x : Int) < (x : Int) := by omega
          have hr := Lib.hid (HEQ.out rfl)
          go_wp2
          go_quiet (fail)
          go_wp2
          go_quiet (fail)
          go_wp2
          go_roundg j
          case measure => omega
          case rel => exact ⟨j, rfl, by omega, Nat.le_refl _, hr, Lib.hid (by first | exact HR.out.drewN _ | exact (HR.out.drewN _).drewN _)⟩
        · have HC := Lib.hid (cmpN_gt (HGT.out h))
          have h' : ¬ (x : Int) < (y : Int) := by omega
          have h'' : (y : Int) < (x : Int) := by omega
          go_wp2
          go_quiet (fail)
          go_wp2
          go_quiet (fail)
          go_wp2
          go_ret
          exact ⟨by rw [HC.out]; first | done | rfl, by first | exact HK.out.trans HR.out | exact (HK.out.trans HR.out).drew | exact ((HK.out.trans HR.out).drewN _).drewN _⟩
  · have hc := cmpN_gt (nw_lt_len (m := n) (n := m) (by have := HP.out; have := HQ.out; omega))
    have HC := Lib.hid hc
    have b1 : ((p : Int) != (q : Int)) = true := by simp; omega
    have b2 : decide (p < q) = false := by simp; omega
    clear hc
    go_wp2
    go_ret
    exact ⟨by rw [HC.out]; first | done | rfl, HK.out⟩
end Go.Proofs.YtpaedhlacbpmpaaGreatDoor

/-
  Walks: natural.Add, faultlineref01.Add.
-/
namespace Go.Proofs.YtpaedhlacbpmpaaGreatDoor
open Go.RowKit

theorem made_wds {w : World} {g n : Nat} (h : RowAt w g 34 (List.replicate n (.int .u32 0))) : RowAt w g 34 ((List.replicate n 0).map w32) := by
  simpa [w32] using h
theorem add_done {L xs ys : List Nat} {i c p : Nat} (h : nv (L.take i) + c * 4294967296 ^ i = nv (xs.take i) + nv (ys.take i)) (hi : i = p) (hx : xs.length + 1 ≤ p) (hy : ys.length + 1 ≤ p) (hL : L.length = p) (wx : Wd xs) (wy : Wd ys) : nv L = nv xs + nv ys := by
  subst hi
  rw [nv_take_all L _ (by omega), nv_take_all xs _ (by omega), nv_take_all ys _ (by omega)] at h
  have h1 := Nat.lt_of_lt_of_le (nv_lt wx) (Nat.pow_le_pow_right (by omega) (show xs.length ≤ i - 1 by omega))
  have h2 := Nat.lt_of_lt_of_le (nv_lt wy) (Nat.pow_le_pow_right (by omega) (show ys.length ≤ i - 1 by omega))
  have h3 : 4294967296 ^ i = 4294967296 ^ (i - 1) * 4294967296 := by rw [← Nat.pow_succ, show (i - 1).succ = i by omega]
  have hc : c = 0 := by
    rcases Nat.eq_zero_or_pos c with h0 | h0
    · exact h0
    · have : 1 * 4294967296 ^ i ≤ c * 4294967296 ^ i := Nat.mul_le_mul_right _ h0
      omega
  subst hc
  omega
set_option maxRecDepth 100000 in
set_option maxHeartbeats 1000000 in
theorem nadd_any (va vb : Value) (xs ys : List Nat) (w : World) (ha : WdsAt w va xs) (hb : WdsAt w vb ys) (hla : xs.length ≤ 549755813888) (hlb : ys.length ≤ 549755813888) :
    Calls Tryz.prog 69 #[va, vb] w fun e w' => (∃ v', e = .returned v' ∧ WdsAt w' v' (nw (nv xs + nv ys))) ∧ Kept w w' := by
  have HA := Lib.hid (fun W (hk : Kept w W) (i : Nat) => nword_any va xs i W (ha.kept hk))
  have HB := Lib.hid (fun W (hk : Kept w W) (i : Nat) => nword_any vb ys i W (hb.kept hk))
  have HWA := Lib.hid ha.wd
  have HWB := Lib.hid hb.wd
  obtain ⟨a0, c0, rfl⟩ := ha.shape
  obtain ⟨a1, c1, rfl⟩ := hb.shape
  obtain ⟨l0, h0⟩ : ∃ l0, l0 = xs.length := ⟨_, rfl⟩
  obtain ⟨l1, h1⟩ : ∃ l1, l1 = ys.length := ⟨_, rfl⟩
  rw [← h0] at HA hla ⊢
  rw [← h1] at HB hlb ⊢
  have H0 := Lib.hid h0
  have H1 := Lib.hid h1
  obtain ⟨m, hm⟩ : ∃ m, m = max l0 l1 := ⟨_, rfl⟩
  have hm9 : m ≤ 549755813888 := by omega
  have e0 : max (l0 : Int) (l1 : Int) = (m : Int) := by omega
  obtain ⟨p, hp⟩ : ∃ p, p = m + 1 := ⟨_, rfl⟩
  have e1 : (m : Int) + 1 = (p : Int) := by omega
  have hp9 : p ≤ 549755813889 := by omega
  have HP : Hid (l0 + 1 ≤ p ∧ l1 + 1 ≤ p) := Lib.hid (by omega)
  clear ha hb h0 h1 hm hp
  go_enter Tryz.func69, Tryz.ntmps69
  go_wp2_with (refine make_one 36 34 (.int .u32 0) 4 info_u32 Tryz.underlying36 rfl rfl _ _ rfl p rfl rfl (by omega) (by unfold maxLen; omega) ?_; intro w1 hr1 hk1)
  have HR1 := Lib.hid (made_wds hr1)
  have HK1 := Lib.hid hk1
  clear hr1 hk1
  go_loopg [6, 17] p (fun kx s6 s17 wr => ∃ (i c : Nat) (L : List Nat), s6 = .int .u64 c ∧ s17 = .int .i64 i ∧ i ≤ p ∧ p - i ≤ kx ∧ c ≤ 1 ∧ Hid (RowAt wr w.heap.size 34 (L.map w32)) ∧ Hid (L.length = p ∧ Wd L) ∧ Hid (nv (L.take i) + c * 4294967296 ^ i = nv (xs.take i) + nv (ys.take i)) ∧ Hid (Kept w wr))
  case atStart => exact ⟨0, 0, List.replicate p 0, rfl, rfl, Nat.zero_le _, by omega, by omega, HR1, Lib.hid ⟨by simp, Wd.zeros _⟩, Lib.hid (by simp [nv_nil]), HK1⟩
  case round =>
    obtain ⟨i, c, L, rfl, rfl, hi, hkx, hc, HR, HL, HI, HK⟩ := hrel
    by_cases hlt : i < p
    · have hx := HWA.out.getD i
      have hy := HWB.out.getD i
      have HX := Lib.hid (HA.out wr HK.out i)
      have HY := Lib.hid (HB.out wr HK.out i)
      have f := HR.out.free i
      have hst := wds_cell HR.out i (by have := HL.out.1; omega)
      have HST : Hid (∀ s, s = c + xs.getD i 0 + ys.getD i 0 → (nv (L.take i) + (s % 4294967296) * 4294967296 ^ i) + (s / 4294967296) * 4294967296 ^ (i + 1) = nv (xs.take (i + 1)) + nv (ys.take (i + 1))) := Lib.hid fun s hs => by
        have := wadd_step HI.out hs
        rw [nv_take_succ, nv_take_succ, ← this, Nat.pow_succ, Nat.mul_comm (4294967296 ^ i)]
      generalize xs.getD i 0 = x at *
      generalize ys.getD i 0 = y at *
      generalize L.getD i 0 = z at *
      have hkn : (i : Int) < (p : Int) := by omega
      obtain ⟨s, hs⟩ : ∃ s, s = c + x + y := ⟨_, rfl⟩
      have hs9 : s < 18446744073709551616 := by omega
      obtain ⟨r, hr⟩ : ∃ r, r = s % 4294967296 := ⟨_, rfl⟩
      obtain ⟨q, hq⟩ : ∃ q, q = s / 4294967296 := ⟨_, rfl⟩
      have hr9 : r < 4294967296 := by omega
      have hq9 : q ≤ 1 := by omega
      have HSS := Lib.hid (HST.out s hs)
      rw [← hr, ← hq] at HSS
      have e3 : (c : Int) + ((x : Int) + (y : Int)) = (s : Int) := by omega
      have e6 : (s : Int) / 4294967296 = (q : Int) := by omega
      have e5 : IntKind.u32.wrap (s : Int) = (r : Int) := by rw [IntKind.wrap_u32]; omega
      clear hs hr hq HST
      go_wp2_with (first | (go_at_call 109; (with_reducible refine HX.out.mono ?_); rintro e w2 ⟨rfl, rfl⟩) | (go_at_call 109; (with_reducible refine HY.out.mono ?_); rintro e w2 ⟨rfl, rfl⟩))
      go_roundg (p - (i + 1))
      case measure => omega
      case rel => exact ⟨i + 1, q, L.set i r, rfl, by go_num, by omega, Nat.le_refl _, hq9, Lib.hid (wds_store HR.out i r), Lib.hid ⟨by rw [List.length_set]; exact HL.out.1, HL.out.2.set i r hr9⟩, Lib.hid (by rw [nv_take_set (by have := HL.out.1; omega)]; exact HSS.out), Lib.hid (HK.out.store (Nat.le_refl _) i _)⟩
    · have hie : i = p := by omega
      have HV : Hid (nv L = nv xs + nv ys) := Lib.hid (add_done HI.out hie (by have := HP.out; have := H0.out; omega) (by have := HP.out; have := H1.out; omega) HL.out.1 HWA.out HWB.out)
      have HT : Hid (Calls Tryz.prog 106 #[.slice (some ⟨w.heap.size, 0, none⟩) p p] wr fun e w' => (∃ v', e = .returned v' ∧ WdsAt w' v' (nw (nv L))) ∧ Kept wr w') := Lib.hid (by
        have h := row_wds HR.out (c := p) (by rw [HL.out.1]; exact Nat.le_refl _) (by rw [HL.out.1]; omega) HL.out.2
        rw [HL.out.1] at h
        exact ntrim_any _ _ _ h)
      clear hie
      go_wp2_with (go_at_call 106; refine HT.out.mono ?_; rintro e w2 ⟨⟨v2, rfl, hv2⟩, hk2⟩; have HV2 := Lib.hid hv2; clear hv2)
      obtain ⟨a2, c2, rfl⟩ := HV2.out.shape
      go_ret
      exact ⟨⟨_, rfl, by rw [← HV.out]; exact HV2.out⟩, HK.out.trans hk2⟩
end Go.Proofs.YtpaedhlacbpmpaaGreatDoor

/-
  Walks: natural.Sub, faultlineref01.Add, faultlineref01.Sub.
-/
namespace Go.Proofs.YtpaedhlacbpmpaaGreatDoor
open Go.RowKit

theorem sub_done {L xs ys : List Nat} {i b p : Nat} (h : nv (L.take i) + nv (ys.take i) = nv (xs.take i) + b * 4294967296 ^ i) (hi : i = p) (hx : xs.length = p) (hL : L.length = p) (wL : Wd L) (wx : Wd xs) (hle : nv ys ≤ nv xs) : nv L = nv xs - nv ys := by
  subst hi
  have hxl := nv_lt wx
  have hLl := nv_lt wL
  rw [hx] at hxl
  rw [hL] at hLl
  have hy := (zero_above (l := ys) (k := i) (by omega)).2
  rw [nv_take_all L _ (by omega), nv_take_all xs _ (by omega), hy] at h
  have hb : b = 0 := by
    rcases Nat.eq_zero_or_pos b with h0 | h0
    · exact h0
    · have : 1 * 4294967296 ^ i ≤ b * 4294967296 ^ i := Nat.mul_le_mul_right _ h0
      omega
  subst hb
  omega
/-- The words of a difference with a borrow. -/
theorem borrow_cases {x y b : Nat} (hx : x < 4294967296) (hy : y < 4294967296) (hb : b ≤ 1) : ∃ o b' D : Nat, o < 4294967296 ∧ b' ≤ 1 ∧ D < 18446744073709551616 ∧ o + y + b = x + b' * 4294967296 ∧ D % 4294967296 = o ∧ D / 9223372036854775808 = b' ∧
    ((y + b ≤ x ∧ (x : Int) - y - b = D) ∨ (x < y ∧ ∃ D1 : Nat, (x : Int) - y + 18446744073709551616 = D1 ∧ (D1 : Int) - b = D) ∨ (x = y ∧ b = 1 ∧ (x : Int) - y - b + 18446744073709551616 = D)) := by
  by_cases h1 : y + b ≤ x
  · exact ⟨x - y - b, 0, x - y - b, by omega, by omega, by omega, by omega, by omega, by omega, .inl ⟨h1, by omega⟩⟩
  · by_cases h2 : x < y
    · exact ⟨4294967296 + x - y - b, 1, 18446744073709551616 + x - y - b, by omega, by omega, by omega, by omega, by omega, by omega, .inr (.inl ⟨h2, 18446744073709551616 + x - y, by omega, by omega⟩)⟩
    · exact ⟨4294967295, 1, 18446744073709551615, by omega, by omega, by omega, by omega, by omega, by omega, .inr (.inr ⟨by omega, by omega, by omega⟩)⟩
theorem u64_up {z : Int} {D : Nat} (h : z + 18446744073709551616 = D) (hz : z < 0) : IntKind.u64.wrap z = (D : Int) := by rw [IntKind.wrap_u64]; omega
set_option maxRecDepth 100000 in
set_option maxHeartbeats 2000000 in
theorem nsub_any (va vb : Value) (xs ys : List Nat) (w : World) (ha : WdsAt w va xs) (hb : WdsAt w vb ys) (hle : nv ys ≤ nv xs) :
    Calls Tryz.prog 71 #[va, vb] w fun e w' => (∃ v', e = .returned (.tuple #[v', .nilIface]) ∧ WdsAt w' v' (nw (nv xs - nv ys))) ∧ Kept w w' := by
  have HA := Lib.hid (fun W (hk : Kept w W) (i : Nat) => nword_any va xs i W (ha.kept hk))
  have HB := Lib.hid (fun W (hk : Kept w W) (i : Nat) => nword_any vb ys i W (hb.kept hk))
  have HCMP := Lib.hid (ncmp_any va vb xs ys w ha hb)
  have HWA := Lib.hid ha.wd
  have HWB := Lib.hid hb.wd
  have hc0 : 0 ≤ cmpN (nv xs) (nv ys) := by unfold cmpN; split <;> (try split) <;> omega
  obtain ⟨cv, hcv⟩ : ∃ cv, cv = cmpN (nv xs) (nv ys) := ⟨_, rfl⟩
  rw [← hcv] at HCMP hc0
  obtain ⟨a0, c0, rfl⟩ := ha.shape
  obtain ⟨a1, c1, rfl⟩ := hb.shape
  obtain ⟨p, h0⟩ : ∃ p, p = xs.length := ⟨_, rfl⟩
  have hp9 : p ≤ 1099511627776 := by rw [h0]; exact ha.len
  rw [← h0] at HA HCMP ⊢
  generalize ys.length = l1 at *
  have H0 := Lib.hid h0
  have HLE := Lib.hid hle
  have hc1 : ¬ cv < 0 := by omega
  clear ha hb h0 hle hcv hc0
  go_enter Tryz.func71, Tryz.ntmps71
  go_wp2_with fail
  refine HCMP.out.mono ?_
  rintro e w0 ⟨rfl, hk0⟩
  have HK0 := Lib.hid hk0
  have hsz0 := hk0.size
  clear hk0
  go_wp2_with (refine make_one 36 34 (.int .u32 0) 4 info_u32 Tryz.underlying36 rfl rfl _ _ rfl p rfl rfl (by omega) (by unfold maxLen; omega) ?_; intro w1 hr1 hk1)
  have HR1 := Lib.hid (made_wds hr1)
  have HK1 := Lib.hid (HK0.out.trans hk1)
  clear hr1 hk1
  go_loopg [7, 20] p (fun kx s7 s20 wr => ∃ (i c : Nat) (L : List Nat), s7 = .int .u64 c ∧ s20 = .int .i64 i ∧ i ≤ p ∧ p - i ≤ kx ∧ c ≤ 1 ∧ Hid (RowAt wr w0.heap.size 34 (L.map w32)) ∧ Hid (L.length = p ∧ Wd L) ∧ Hid (nv (L.take i) + nv (ys.take i) = nv (xs.take i) + c * 4294967296 ^ i) ∧ Hid (Kept w wr))
  case atStart => exact ⟨0, 0, List.replicate p 0, rfl, rfl, Nat.zero_le _, by omega, by omega, HR1, Lib.hid ⟨by simp, Wd.zeros _⟩, Lib.hid (by simp [nv_nil]), HK1⟩
  case round =>
    obtain ⟨i, c, L, rfl, rfl, hi, hkx, hc, HR, HL, HI, HK⟩ := hrel
    by_cases hlt : i < p
    · have hx := HWA.out.getD i
      have hy := HWB.out.getD i
      have HX := Lib.hid (HA.out wr HK.out i)
      have HY := Lib.hid (HB.out wr HK.out i)
      have f := HR.out.free i
      have hst := wds_cell HR.out i (by have := HL.out.1; omega)
      have HST : Hid (∀ o b', o + ys.getD i 0 + c = xs.getD i 0 + b' * 4294967296 → (nv (L.take i) + o * 4294967296 ^ i) + nv (ys.take (i + 1)) = nv (xs.take (i + 1)) + b' * 4294967296 ^ (i + 1)) := Lib.hid fun o b' hs => by
        have := sub_step HI.out hs
        rw [nv_take_succ, nv_take_succ, this, Nat.pow_succ, Nat.mul_comm (4294967296 ^ i)]
      generalize xs.getD i 0 = x at *
      generalize ys.getD i 0 = y at *
      generalize L.getD i 0 = z at *
      have hkn : (i : Int) < (p : Int) := by omega
      obtain ⟨o, b', D, ho, hb', hD, hob, hm, hd, hcs⟩ := borrow_cases hx hy hc
      have HSS := Lib.hid (HST.out o b' hob)
      have e5 : IntKind.u32.wrap (D : Int) = (o : Int) := by rw [IntKind.wrap_u32]; omega
      have e6 : (D : Int) / 9223372036854775808 = (b' : Int) := by omega
      clear HST hob hm hd
      rcases hcs with ⟨h1, h2⟩ | ⟨h1, D1, h2, h3⟩ | ⟨h1, h2, h3⟩
      · go_wp2_with (first | (go_at_call 109; (with_reducible refine HX.out.mono ?_); rintro e w2 ⟨rfl, rfl⟩) | (go_at_call 109; (with_reducible refine HY.out.mono ?_); rintro e w2 ⟨rfl, rfl⟩))
        go_roundg (p - (i + 1))
        case measure => omega
        case rel => exact ⟨i + 1, b', L.set i o, rfl, by go_num, by omega, Nat.le_refl _, hb', Lib.hid (wds_store HR.out i o), Lib.hid ⟨by rw [List.length_set]; exact HL.out.1, HL.out.2.set i o ho⟩, Lib.hid (by rw [nv_take_set (by have := HL.out.1; omega)]; exact HSS.out), Lib.hid (HK.out.store hsz0 i _)⟩
      · have e1 := u64_up h2 (by omega)
        have hD1 : D1 < 18446744073709551616 := by omega
        clear h2
        go_wp2_with (first | (go_at_call 109; (with_reducible refine HX.out.mono ?_); rintro e w2 ⟨rfl, rfl⟩) | (go_at_call 109; (with_reducible refine HY.out.mono ?_); rintro e w2 ⟨rfl, rfl⟩))
        go_roundg (p - (i + 1))
        case measure => omega
        case rel => exact ⟨i + 1, b', L.set i o, rfl, by go_num, by omega, Nat.le_refl _, hb', Lib.hid (wds_store HR.out i o), Lib.hid ⟨by rw [List.length_set]; exact HL.out.1, HL.out.2.set i o ho⟩, Lib.hid (by rw [nv_take_set (by have := HL.out.1; omega)]; exact HSS.out), Lib.hid (HK.out.store hsz0 i _)⟩
      · have e1 := u64_up h3 (by omega)
        have g1 : x ≤ y := by omega
        have g2 : y ≤ x := by omega
        have g3 : 1 ≤ c := by omega
        clear h1 h2 h3
        go_wp2_with (first | (go_at_call 109; (with_reducible refine HX.out.mono ?_); rintro e w2 ⟨rfl, rfl⟩) | (go_at_call 109; (with_reducible refine HY.out.mono ?_); rintro e w2 ⟨rfl, rfl⟩))
        go_roundg (p - (i + 1))
        case measure => omega
        case rel => exact ⟨i + 1, b', L.set i o, rfl, by go_num, by omega, Nat.le_refl _, hb', Lib.hid (wds_store HR.out i o), Lib.hid ⟨by rw [List.length_set]; exact HL.out.1, HL.out.2.set i o ho⟩, Lib.hid (by rw [nv_take_set (by have := HL.out.1; omega)]; exact HSS.out), Lib.hid (HK.out.store hsz0 i _)⟩
    · have hie : i = p := by omega
      have HV : Hid (nv L = nv xs - nv ys) := Lib.hid (sub_done HI.out hie H0.out.symm HL.out.1 HL.out.2 HWA.out HLE.out)
      have HT : Hid (Calls Tryz.prog 106 #[.slice (some ⟨w0.heap.size, 0, none⟩) p p] wr fun e w' => (∃ v', e = .returned v' ∧ WdsAt w' v' (nw (nv L))) ∧ Kept wr w') := Lib.hid (by
        have h := row_wds HR.out (c := p) (by rw [HL.out.1]; exact Nat.le_refl _) (by rw [HL.out.1]; omega) HL.out.2
        rw [HL.out.1] at h
        exact ntrim_any _ _ _ h)
      clear hie
      go_wp2_with (go_at_call 106; refine HT.out.mono ?_; rintro e w2 ⟨⟨v2, rfl, hv2⟩, hk2⟩; have HV2 := Lib.hid hv2; clear hv2)
      obtain ⟨a2, c2, rfl⟩ := HV2.out.shape
      go_ret2
      exact ⟨⟨_, rfl, by rw [← HV.out]; exact HV2.out⟩, HK.out.trans hk2⟩
end Go.Proofs.YtpaedhlacbpmpaaGreatDoor

/-
  Walks: natural.Mul.
-/
namespace Go.Proofs.YtpaedhlacbpmpaaGreatDoor
open Go.RowKit

theorem mul_inner {L ys : List Nat} {c M x i k s : Nat} (h : nv L + c * 4294967296 ^ (i + k) = M + x * (nv (ys.take k) * 4294967296 ^ i)) (hL : i + k < L.length) (hs : s = c + x * ys.getD k 0 + L.getD (i + k) 0) :
    nv (L.set (i + k) (s % 4294967296)) + (s / 4294967296) * 4294967296 ^ (i + (k + 1)) = M + x * (nv (ys.take (k + 1)) * 4294967296 ^ i) := by
  have h1 := mul_step h hs _ (nv_set L (i + k) (s % 4294967296) hL)
  have h2 : nv (ys.take (k + 1)) * 4294967296 ^ i = nv (ys.take k) * 4294967296 ^ i + ys.getD k 0 * 4294967296 ^ (i + k) := by
    rw [nv_take_succ, Nat.add_mul, Nat.mul_assoc, ← Nat.pow_add, Nat.add_comm k i]
  rw [h2, ← h1, ← Nat.add_assoc, Nat.pow_succ, Nat.mul_comm (4294967296 ^ (i + k)) 4294967296]
theorem mul_row {L xs ys : List Nat} {c i : Nat} {N : Nat} (h : nv L + c * 4294967296 ^ (i + ys.length) = N + xs.getD i 0 * (nv (ys.take ys.length) * 4294967296 ^ i)) (hN : N = nv (xs.take i) * nv ys) (hL : i + ys.length < L.length) (h0 : L.getD (i + ys.length) 0 = 0) :
    nv (L.set (i + ys.length) c) = nv (xs.take (i + 1)) * nv ys := by
  have h1 := nv_set L (i + ys.length) c hL
  rw [h0, Nat.zero_mul, Nat.add_zero] at h1
  rw [h1, h, nv_take_all ys _ (Nat.le_refl _), hN, nv_take_succ, Nat.add_mul, Nat.mul_assoc (xs.getD i 0), Nat.mul_comm (nv ys)]
theorem sub_words {c x y w : Nat} (hc : c < 4294967296) (hx : x < 4294967296) (hy : y < 4294967296) (hw : w < 4294967296) : c + x * y + w < 18446744073709551616 ∧ x * y ≤ 18446744065119617025 ∧ (c + x * y + w) / 4294967296 < 4294967296 := by
  have h1 := mul_carry hc hx hy hw
  refine ⟨h1, Nat.mul_le_mul (show x ≤ 4294967295 by omega) (show y ≤ 4294967295 by omega), Nat.div_lt_of_lt_mul (by omega)⟩
theorem set_zero {L : List Nat} {j p x : Nat} (h : ∀ q, p ≤ q → L.getD q 0 = 0) (hj : j < p) : ∀ q, p ≤ q → (L.set j x).getD q 0 = 0 := fun q hq => by rw [getD_set_ne (by omega)]; exact h q hq
set_option maxRecDepth 100000 in
set_option maxHeartbeats 4000000 in
theorem nmul_any (va vb : Value) (xs ys : List Nat) (w : World) (ha : WdsAt w va xs) (hb : WdsAt w vb ys) (hla : xs.length ≤ 274877906944) (hlb : ys.length ≤ 274877906944) :
    Calls Tryz.prog 67 #[va, vb] w fun e w' => (∃ v', e = .returned v' ∧ WdsAt w' v' (nw (nv xs * nv ys))) ∧ Kept w w' := by
  have HA := Lib.hid ha
  have HB := Lib.hid hb
  obtain ⟨a0, c0, rfl⟩ := ha.shape
  obtain ⟨a1, c1, rfl⟩ := hb.shape
  obtain ⟨l0, h0⟩ : ∃ l0, l0 = xs.length := ⟨_, rfl⟩
  obtain ⟨l1, h1⟩ : ∃ l1, l1 = ys.length := ⟨_, rfl⟩
  rw [← h0] at HA hla ⊢
  rw [← h1] at HB hlb ⊢
  have H0 := Lib.hid h0
  have H1 := Lib.hid h1
  obtain ⟨p, hp⟩ : ∃ p, p = l0 + l1 := ⟨_, rfl⟩
  have e1 : (l0 : Int) + (l1 : Int) = (p : Int) := by omega
  have hp9 : p ≤ 549755813888 := by omega
  have HP : Hid (p = l0 + l1) := Lib.hid hp
  clear ha hb h0 h1 hp
  go_enter Tryz.func67, Tryz.ntmps67
  go_wp2_with (refine make_one 36 34 (.int .u32 0) 4 info_u32 Tryz.underlying36 rfl rfl _ _ rfl p rfl rfl (by omega) (by unfold maxLen; omega) ?_; intro w1 hr1 hk1)
  have HR1 := Lib.hid (made_wds hr1)
  have HK1 := Lib.hid hk1
  clear hr1 hk1
  go_loopg [19] l0 (fun kx s19 wr => ∃ (i : Nat) (L : List Nat), s19 = .int .i64 i ∧ i ≤ l0 ∧ l0 - i ≤ kx ∧ Hid (RowAt wr w.heap.size 34 (L.map w32)) ∧ Hid (L.length = p ∧ Wd L) ∧ Hid (nv L = nv (xs.take i) * nv ys ∧ ∀ q, i + l1 ≤ q → L.getD q 0 = 0) ∧ Hid (Kept w wr))
  case atStart => exact ⟨0, List.replicate p 0, rfl, Nat.zero_le _, by omega, HR1, Lib.hid ⟨by simp, Wd.zeros _⟩, Lib.hid ⟨by rw [nv_zeros]; simp [nv_nil], fun q _ => by simp [List.getD_eq_getElem?_getD, List.getElem?_replicate]; split <;> rfl⟩, HK1⟩
  case round =>
    obtain ⟨wo, rfl⟩ : ∃ wo : World, wo = wr := ⟨_, rfl⟩
    obtain ⟨i, L, rfl, hi, hkx, HR, HL, HI, HK⟩ := hrel
    by_cases hlt : i < l0
    · obtain ⟨b, o, rfl, hcx⟩ := (HA.out.kept HK.out).get i (by have := H0.out; omega)
      have hx := HA.out.wd.getD i
      obtain ⟨x, hxx⟩ : ∃ x, x = xs.getD i 0 := ⟨_, rfl⟩
      rw [← hxx] at hcx hx
      have HX := Lib.hid hxx
      have hkn : (i : Int) < (l0 : Int) := by omega
      clear hxx
      go_wp2
      go_loopg [8, 26] l1 (fun kx s8 s26 wq => ∃ (k c : Nat) (L' : List Nat), s8 = .int .u64 c ∧ s26 = .int .i64 k ∧ k ≤ l1 ∧ l1 - k ≤ kx ∧ c < 4294967296 ∧ Hid (RowAt wq w.heap.size 34 (L'.map w32)) ∧ Hid (L'.length = p ∧ Wd L') ∧ Hid (nv L' + c * 4294967296 ^ (i + k) = nv L + x * (nv (ys.take k) * 4294967296 ^ i) ∧ ∀ q, i + l1 ≤ q → L'.getD q 0 = 0) ∧ Hid (Kept w wq))
      case atStart => exact ⟨0, 0, L, rfl, rfl, Nat.zero_le _, by omega, by omega, HR, HL, Lib.hid ⟨by simp [nv_nil], HI.out.2⟩, HK⟩
      case round =>
        obtain ⟨k, c, L', rfl, rfl, hk, hkx2, hc, HR2, HL2, HI2, HK2⟩ := hrel
        by_cases hlt2 : k < l1
        · obtain ⟨b2, o2, rfl, hcy⟩ := (HB.out.kept HK2.out).get k (by have := H1.out; omega)
          have hy := HB.out.wd.getD k
          have hpp := HP.out
          have hik : i + k < L'.length := by have := HL2.out.1; omega
          have hikp : i + k < p := by omega
          have f := HR2.out.free (i + k)
          have hst := wds_cell HR2.out (i + k) hik
          have hwz := HL2.out.2.getD (i + k)
          have HST : Hid (∀ s, s = c + x * ys.getD k 0 + L'.getD (i + k) 0 → nv (L'.set (i + k) (s % 4294967296)) + (s / 4294967296) * 4294967296 ^ (i + (k + 1)) = nv L + x * (nv (ys.take (k + 1)) * 4294967296 ^ i)) := Lib.hid fun s hs => mul_inner HI2.out.1 hik hs
          generalize ys.getD k 0 = y at *
          generalize L'.getD (i + k) 0 = z at *
          obtain ⟨hs1, hs2, hs3⟩ := sub_words hc hx hy hwz
          obtain ⟨s, hs⟩ : ∃ s, s = c + x * y + z := ⟨_, rfl⟩
          have HSS := Lib.hid (HST.out s hs)
          rw [← hs] at hs1 hs3
          obtain ⟨xy, hxy⟩ : ∃ xy, xy = x * y := ⟨_, rfl⟩
          rw [← hxy] at hs hs2
          have exy : (x : Int) * (y : Int) = (xy : Int) := by rw [hxy]; simp
          obtain ⟨r, hr⟩ : ∃ r, r = s % 4294967296 := ⟨_, rfl⟩
          obtain ⟨q, hq⟩ : ∃ q, q = s / 4294967296 := ⟨_, rfl⟩
          rw [← hr, ← hq] at HSS
          rw [← hq] at hs3
          have hr9 : r < 4294967296 := by omega
          have es : (c : Int) + ((xy : Int) + (z : Int)) = (s : Int) := by omega
          have e6 : (s : Int) / 4294967296 = (q : Int) := by omega
          have eik : (i : Int) + (k : Int) = ((i + k : Nat) : Int) := by omega
          have hkn2 : (k : Int) < (l1 : Int) := by omega
          have e5 : IntKind.u32.wrap (s : Int) = (r : Int) := by rw [IntKind.wrap_u32]; omega
          clear hs hr hq HST hxy hpp eik
          go_wp2
          go_roundg (l1 - (k + 1))
          case measure => omega
          case rel => exact ⟨k + 1, q, L'.set (i + k) r, rfl, by go_num, by omega, Nat.le_refl _, hs3, Lib.hid (wds_store HR2.out (i + k) r), Lib.hid ⟨by rw [List.length_set]; exact HL2.out.1, HL2.out.2.set _ r hr9⟩, Lib.hid ⟨HSS.out, set_zero HI2.out.2 (by omega)⟩, Lib.hid (HK2.out.store (Nat.le_refl _) _ _)⟩
        · have hke : k = l1 := by omega
          have hpp := HP.out
          have hil : i + l1 < L'.length := by have := HL2.out.1; omega
          have hilp : i + l1 < p := by omega
          have HNX : Hid (nv (L'.set (i + l1) c) = nv (xs.take (i + 1)) * nv ys) := Lib.hid (by
            have h := HI2.out.1
            rw [hke, HX.out, H1.out] at h
            rw [H1.out]
            exact mul_row h HI.out.1 (by rw [← H1.out]; exact hil) (by rw [← H1.out]; exact HI2.out.2 _ (Nat.le_refl _)))
          have f := HR2.out.free (i + l1)
          have hst := wds_cell HR2.out (i + l1) hil
          have e5 : IntKind.u32.wrap (c : Int) = (c : Int) := by rw [IntKind.wrap_u32]; omega
          clear hke hpp
          go_wp2
          go_roundg (l0 - (i + 1))
          case measure => omega
          case rel => exact ⟨i + 1, L'.set (i + l1) c, by go_num, by omega, Nat.le_refl _, Lib.hid (wds_store HR2.out (i + l1) c), Lib.hid ⟨by rw [List.length_set]; exact HL2.out.1, HL2.out.2.set _ c hc⟩, Lib.hid ⟨HNX.out, set_zero (fun q hq => HI2.out.2 q (by omega)) (by omega)⟩, Lib.hid (HK2.out.store (Nat.le_refl _) _ _)⟩
    · have hie : i = l0 := by omega
      have HV : Hid (nv L = nv xs * nv ys) := Lib.hid (by have := HI.out.1; rw [hie, H0.out, nv_take_all _ _ (Nat.le_refl _)] at this; exact this)
      have HT : Hid (Calls Tryz.prog 106 #[.slice (some ⟨w.heap.size, 0, none⟩) p p] wo fun e w' => (∃ v', e = .returned v' ∧ WdsAt w' v' (nw (nv L))) ∧ Kept wo w') := Lib.hid (by
        have h := row_wds HR.out (c := p) (by rw [HL.out.1]; exact Nat.le_refl _) (by rw [HL.out.1]; omega) HL.out.2
        rw [HL.out.1] at h
        exact ntrim_any _ _ _ h)
      clear hie
      go_wp2_with (go_at_call 106; refine HT.out.mono ?_; rintro e w2 ⟨⟨v2, rfl, hv2⟩, hk2⟩; have HV2 := Lib.hid hv2; clear hv2)
      obtain ⟨a2, c2, rfl⟩ := HV2.out.shape
      go_ret
      exact ⟨⟨_, rfl, by rw [← HV.out]; exact HV2.out⟩, HK.out.trans hk2⟩
end Go.Proofs.YtpaedhlacbpmpaaGreatDoor

/-
  Walks: the rows of topdown: has, with, without.
-/
namespace Go.Proofs.YtpaedhlacbpmpaaGreatDoor
open Go.RowKit

theorem or_u64 (a b : Nat) (ha : a < 18446744073709551616) (hb : b < 18446744073709551616) : bits .or .u64 (a : Int) (b : Int) = ((a ||| b : Nat) : Int) := by
  have h : (BitVec.ofInt 64 (a : Int) ||| BitVec.ofInt 64 (b : Int)).toNat = a ||| b := by rw [BitVec.toNat_or, ofNat_toNat a ha, ofNat_toNat b hb]
  show IntKind.u64.wrap (((BitVec.ofInt 64 (a : Int) ||| BitVec.ofInt 64 (b : Int)).toNat : Nat) : Int) = _
  rw [h]; have := Nat.or_lt_two_pow (n := 64) (x := a) (y := b) (by omega) (by omega); exact wrap_u64 _ (by omega)
end Go.Proofs.YtpaedhlacbpmpaaGreatDoor

/-
  Walks: natural.small, left, right, Of.
-/
namespace Go.Proofs.YtpaedhlacbpmpaaGreatDoor
open Go.RowKit

theorem ofNat_toNat32 (a : Nat) (h : a < 4294967296) : (BitVec.ofInt 32 (a : Int)).toNat = a := by
  rw [BitVec.ofInt_natCast, BitVec.toNat_ofNat]; exact Nat.mod_eq_of_lt (by omega)
theorem or_u32 (a b : Nat) (ha : a < 4294967296) (hb : b < 4294967296) : bits .or .u32 (a : Int) (b : Int) = ((a ||| b : Nat) : Int) := by
  have h : (BitVec.ofInt 32 (a : Int) ||| BitVec.ofInt 32 (b : Int)).toNat = a ||| b := by rw [BitVec.toNat_or, ofNat_toNat32 a ha, ofNat_toNat32 b hb]
  show IntKind.u32.wrap (((BitVec.ofInt 32 (a : Int) ||| BitVec.ofInt 32 (b : Int)).toNat : Nat) : Int) = _
  rw [h, IntKind.wrap_u32]
  have := Nat.or_lt_two_pow (n := 32) (x := a) (y := b) (by omega) (by omega)
  omega
theorem or_word (r x : Nat) (hr : r < 4294967296) (hx : x < 4294967296) : bits .or .u64 ((r : Int) * 4294967296) (x : Int) = ((r * 4294967296 + x : Nat) : Int) := by
  have h := or_u64 (r * 4294967296) x (by omega) (by omega)
  have e : (r * 4294967296 ||| x) = r * 4294967296 + x := by
    rw [Nat.mul_comm, show (4294967296 : Nat) = 2 ^ 32 by rfl, ← Nat.two_pow_add_eq_or_of_lt (by omega)]
  rw [e] at h
  rw [← h]
  simp
set_option maxRecDepth 100000 in
set_option maxHeartbeats 2000000 in
theorem small_any (va : Value) (xs : List Nat) (d : Nat) (w : World) (ha : WdsAt w va xs) (hd0 : 0 < d) (hd : d < 4294967296) :
    Calls Tryz.prog 121 #[va, .int .u32 d] w fun e w' => (∃ v', e = .returned (.tuple #[v', .int .u32 (nv xs % d : Nat)]) ∧ WdsAt w' v' (nw (nv xs / d))) ∧ Kept w w' := by
  have HA := Lib.hid ha
  obtain ⟨a0, c0, rfl⟩ := ha.shape
  obtain ⟨n, hn⟩ : ∃ n, n = xs.length := ⟨_, rfl⟩
  have hn9 : n ≤ 1099511627776 := by rw [hn]; exact ha.len
  rw [← hn] at HA ⊢
  have HN := Lib.hid hn
  clear ha hn
  go_enter Tryz.func121, Tryz.ntmps121
  go_wp2_with (refine make_one 36 34 (.int .u32 0) 4 info_u32 Tryz.underlying36 rfl rfl _ _ rfl n rfl rfl (by omega) (by unfold maxLen; omega) ?_; intro w1 hr1 hk1)
  have HR1 := Lib.hid (made_wds hr1)
  have HK1 := Lib.hid hk1
  clear hr1 hk1
  go_loopg [7, 8] n (fun kx s7 s8 wr => ∃ (k r : Nat) (L : List Nat), s7 = .int .u64 r ∧ s8 = .int .i64 ((k : Int) - 1) ∧ k ≤ n ∧ k ≤ kx ∧ r < d ∧ Hid (RowAt wr w.heap.size 34 (L.map w32)) ∧ Hid (L.length = n ∧ Wd L) ∧ Hid (nv (xs.drop k) = d * nv (L.drop k) + r) ∧ Hid (Kept w wr))
  case atStart => exact ⟨n, 0, List.replicate n 0, rfl, rfl, Nat.le_refl _, Nat.le_refl _, hd0, HR1, Lib.hid ⟨by simp, Wd.zeros _⟩, Lib.hid (by rw [nv_drop_all (by rw [← HN.out]; exact Nat.le_refl _), nv_drop_all (by simp)]; simp), HK1⟩
  case round =>
    obtain ⟨k, r, L, rfl, rfl, hk, hkx, hr, HR, HL, HI, HK⟩ := hrel
    by_cases hk0 : k = 0
    · subst hk0
      have hI := HI.out
      simp only [List.drop_zero] at hI
      obtain ⟨h1, h2⟩ := div_of hI hr
      have H1 := Lib.hid h1
      have H2 := Lib.hid h2
      have HT : Hid (Calls Tryz.prog 106 #[.slice (some ⟨w.heap.size, 0, none⟩) n n] wr fun e w' => (∃ v', e = .returned v' ∧ WdsAt w' v' (nw (nv L))) ∧ Kept wr w') := Lib.hid (by
        have h := row_wds HR.out (c := n) (by rw [HL.out.1]; exact Nat.le_refl _) (by rw [HL.out.1]; omega) HL.out.2
        rw [HL.out.1] at h
        exact ntrim_any _ _ _ h)
      have e5 : IntKind.u32.wrap (r : Int) = (r : Int) := by rw [IntKind.wrap_u32]; omega
      clear hI h1 h2
      go_wp2_with (go_at_call 106; refine HT.out.mono ?_; rintro e w2 ⟨⟨v2, rfl, hv2⟩, hk2⟩; have HV2 := Lib.hid hv2; clear hv2)
      obtain ⟨a2, c2, rfl⟩ := HV2.out.shape
      go_ret2
      exact ⟨⟨_, by rw [H2.out]; first | done | rfl, by rw [H1.out]; exact HV2.out⟩, HK.out.trans hk2⟩
    · obtain ⟨j, rfl⟩ : ∃ j, k = j + 1 := ⟨k - 1, by omega⟩
      obtain ⟨b, o, rfl, hcx⟩ := (HA.out.kept HK.out).get j (by have := HN.out; omega)
      have hx := HA.out.wd.getD j
      have hjL : j < L.length := by have := HL.out.1; omega
      have f := HR.out.free j
      have hst := wds_cell HR.out j hjL
      have HSS : Hid (∀ cur, cur = r * 4294967296 + xs.getD j 0 → (nv (xs.drop j) = d * nv ((L.set j (cur / d)).drop j) + cur % d) ∧ cur % d < d ∧ cur / d < 4294967296 ∧ cur < 18446744073709551616) := Lib.hid fun cur hc => by
        obtain ⟨h1, h2, h3, h4⟩ := small_step HI.out hr hd hx hc
        refine ⟨?_, h2, h3, h4⟩
        rw [nv_drop_step (l := xs) (i := j) (by have := HN.out; omega), nv_drop_step (l := L.set j (cur / d)) (i := j) (by rw [List.length_set]; exact hjL), getD_set_self hjL, List.drop_set_of_lt (by omega)]
        exact h1
      generalize xs.getD j 0 = x at *
      generalize L.getD j 0 = z at *
      have eor := or_word r x (by omega) hx
      obtain ⟨cur, hcur⟩ : ∃ cur, cur = r * 4294967296 + x := ⟨_, rfl⟩
      obtain ⟨h1, h2, h3, h4⟩ := HSS.out cur hcur
      rw [← hcur] at eor
      obtain ⟨qq, hqq⟩ : ∃ qq, qq = cur / d := ⟨_, rfl⟩
      obtain ⟨rr, hrr⟩ : ∃ rr, rr = cur % d := ⟨_, rfl⟩
      rw [← hqq, ← hrr] at h1
      rw [← hqq] at h3
      rw [← hrr] at h2
      have eq1 : (cur : Int) / (d : Int) = (qq : Int) := by rw [hqq]; simp
      have eq2 : (cur : Int) % (d : Int) = (rr : Int) := by rw [hrr]; simp
      have HS1 := Lib.hid h1
      have ej : ((j + 1 : Nat) : Int) - 1 = (j : Int) := by omega
      have hjn : (j : Int) < (n : Int) := by omega
      have hj0 : (0 : Int) ≤ (j : Int) := by omega
      clear h1 HSS hcur hqq hrr
      rw [ej]
      go_wp2
      go_roundg j
      case measure => omega
      case rel => exact ⟨j, rr, L.set j qq, by rw [eq2], rfl, by omega, Nat.le_refl _, h2, Lib.hid (wds_store HR.out j qq), Lib.hid ⟨by rw [List.length_set]; exact HL.out.1, HL.out.2.set j qq h3⟩, HS1, Lib.hid (HK.out.store (Nat.le_refl _) j _)⟩
/-- Shifting a word up. -/
theorem shl_word (x n : Nat) (hx : x < 4294967296) (hn : n < 32) : x * 2 ^ n < 18446744073709551616 := (up_top (y := x * 2 ^ n) hn hx rfl).1
theorem left_round {L xs : List Nat} {i n y x w : Nat} (hn : n < 32) (hI : nv L = nv (xs.take i) * 2 ^ n) (hw : w = L.getD i 0) (hw2 : w < 2 ^ n) (hz : L.getD (i + 1) 0 = 0) (hx : x = xs.getD i 0) (hy : y = x * 2 ^ n) (hi : i + 1 < L.length) :
    nv ((L.set i (w ||| (y % 4294967296))).set (i + 1) (y / 4294967296)) = nv (xs.take (i + 1)) * 2 ^ n ∧ (w ||| (y % 4294967296)) < 4294967296 := by
  have h1 := nv_set L i (w ||| (y % 4294967296)) (by omega)
  have h2 := nv_set (L.set i (w ||| (y % 4294967296))) (i + 1) (y / 4294967296) (by rw [List.length_set]; exact hi)
  rw [getD_set_ne (by omega), hz, Nat.zero_mul, Nat.add_zero] at h2
  rw [← hw] at h1
  have h3 : nv ((L.set i (w ||| (y % 4294967296))).set (i + 1) (y / 4294967296)) + w * 4294967296 ^ i = nv L + (w ||| (y % 4294967296)) * 4294967296 ^ i + (y / 4294967296) * (4294967296 * 4294967296 ^ i) := by
    rw [h2, Nat.pow_succ, Nat.mul_comm (4294967296 ^ i) 4294967296]; omega
  obtain ⟨h4, h5⟩ := up_step hn hI hy hw2 _ h3
  refine ⟨by rw [h5, nv_take_succ, hx], ?_⟩
  have h6 : w < 2 ^ 32 := Nat.lt_of_lt_of_le hw2 (Nat.pow_le_pow_right (by omega) (by omega))
  exact Nat.or_lt_two_pow (n := 32) h6 (by omega)
set_option maxRecDepth 100000 in
set_option maxHeartbeats 2000000 in
theorem left_any (va : Value) (xs : List Nat) (n : Nat) (w : World) (ha : WdsAt w va xs) (hn : n < 32) (hla : xs.length ≤ 549755813888) :
    Calls Tryz.prog 134 #[va, .int .i64 n] w fun e w' => (∃ L, e = .returned (.slice (some ⟨w.heap.size, 0, none⟩) (xs.length + 1) (xs.length + 1)) ∧ RowAt w' w.heap.size 34 (L.map w32) ∧ L.length = xs.length + 1 ∧ Wd L ∧ nv L = nv xs * 2 ^ n) ∧ Kept w w' := by
  have HA := Lib.hid ha
  obtain ⟨a0, c0, rfl⟩ := ha.shape
  obtain ⟨l0, h0⟩ : ∃ l0, l0 = xs.length := ⟨_, rfl⟩
  rw [← h0] at HA hla ⊢
  have H0 := Lib.hid h0
  obtain ⟨p, hp⟩ : ∃ p, p = l0 + 1 := ⟨_, rfl⟩
  have e1 : (l0 : Int) + 1 = (p : Int) := by omega
  have hp9 : p ≤ 549755813889 := by omega
  rw [← hp]
  clear ha h0
  have HP := Lib.hid hp
  clear hp
  go_enter Tryz.func134, Tryz.ntmps134
  go_wp2_with (refine make_one 36 34 (.int .u32 0) 4 info_u32 Tryz.underlying36 rfl rfl _ _ rfl p rfl rfl (by omega) (by unfold maxLen; omega) ?_; intro w1 hr1 hk1)
  have HR1 := Lib.hid (made_wds hr1)
  have HK1 := Lib.hid hk1
  clear hr1 hk1
  go_loopg [15] l0 (fun kx s15 wr => ∃ (i : Nat) (L : List Nat), s15 = .int .i64 i ∧ i ≤ l0 ∧ l0 - i ≤ kx ∧ Hid (RowAt wr w.heap.size 34 (L.map w32)) ∧ Hid (L.length = p ∧ Wd L) ∧ Hid (nv L = nv (xs.take i) * 2 ^ n ∧ L.getD i 0 < 2 ^ n ∧ ∀ q, i < q → L.getD q 0 = 0) ∧ Hid (Kept w wr))
  case atStart => exact ⟨0, List.replicate p 0, rfl, Nat.zero_le _, by omega, HR1, Lib.hid ⟨by simp, Wd.zeros _⟩, Lib.hid ⟨by rw [nv_zeros]; simp [nv_nil], by simp [List.getD_eq_getElem?_getD, List.getElem?_replicate]; split <;> exact Nat.two_pow_pos n, fun q _ => by simp [List.getD_eq_getElem?_getD, List.getElem?_replicate]; split <;> rfl⟩, HK1⟩
  case round =>
    obtain ⟨i, L, rfl, hi, hkx, HR, HL, HI, HK⟩ := hrel
    by_cases hlt : i < l0
    · obtain ⟨b, o, rfl, hcx⟩ := (HA.out.kept HK.out).get i (by have := H0.out; omega)
      have hx := HA.out.wd.getD i
      have hpp := HP.out
      have hiL : i < L.length := by have := HL.out.1; omega
      have hiL1 : i + 1 < L.length := by have := HL.out.1; omega
      have hip : i < p := by omega
      have hip1 : i + 1 < p := by omega
      have f := HR.out.free i
      have f1 := HR.out.free (i + 1)
      have hst := wds_cell HR.out i hiL
      have hst1 := wds_cell HR.out (i + 1) hiL1
      have hz := HI.out.2.2 (i + 1) (by omega)
      rw [hz] at hst1
      obtain ⟨x, hxx⟩ : ∃ x, x = xs.getD i 0 := ⟨_, rfl⟩
      obtain ⟨y, hyy⟩ : ∃ y, y = x * 2 ^ n := ⟨_, rfl⟩
      obtain ⟨z, hzz⟩ : ∃ z, z = L.getD i 0 := ⟨_, rfl⟩
      rw [← hxx] at hcx hx
      rw [← hzz] at hst
      have hz9 : z < 4294967296 := by rw [hzz]; exact HL.out.2.getD i
      obtain ⟨hrd, hor⟩ := left_round hn HI.out.1 hzz (by rw [hzz]; exact HI.out.2.1) hz hxx hyy hiL1
      obtain ⟨htop, htop2⟩ := up_top hn hx hyy
      have ey : (x : Int) * 2 ^ n = (y : Int) := by rw [hyy]; simp
      obtain ⟨q, hq⟩ : ∃ q, q = y / 4294967296 := ⟨_, rfl⟩
      obtain ⟨r, hr⟩ : ∃ r, r = y % 4294967296 := ⟨_, rfl⟩
      obtain ⟨t, ht⟩ : ∃ t, t = (z ||| r) := ⟨_, rfl⟩
      rw [← hq, ← hr, ← ht] at hrd
      rw [← hr, ← ht] at hor
      rw [← hq] at htop2
      have hq9 : q < 4294967296 := by omega
      have hr9 : r < 4294967296 := by omega
      have e6 : (y : Int) / 4294967296 = (q : Int) := by omega
      have e5 : IntKind.u32.wrap (y : Int) = (r : Int) := by rw [IntKind.wrap_u32]; omega
      have e7 : bits .or .u32 (z : Int) (r : Int) = (t : Int) := by rw [ht]; exact or_u32 z r hz9 hr9
      have HRD := Lib.hid hrd
      have HT2 := Lib.hid htop2
      have hkn : (i : Int) < (l0 : Int) := by omega
      clear hrd hyy hxx hzz hq hr ht hz hpp htop2
      go_wp2
      go_roundg (l0 - (i + 1))
      case measure => omega
      case rel =>
        refine ⟨i + 1, (L.set i t).set (i + 1) q, by go_num, by omega, Nat.le_refl _, Lib.hid (wds_store (wds_store HR.out i t) (i + 1) q), Lib.hid ⟨by rw [List.length_set, List.length_set]; exact HL.out.1, (HL.out.2.set i t hor).set _ q hq9⟩, Lib.hid ⟨HRD.out, ?_, fun j hj => ?_⟩, Lib.hid ((HK.out.store (Nat.le_refl _) _ _).store (Nat.le_refl _) _ _)⟩
        · rw [getD_set_self (by rw [List.length_set]; exact hiL1)]; exact HT2.out
        · rw [getD_set_ne (by omega), getD_set_ne (by omega)]; exact HI.out.2.2 j (by omega)
    · have hie : i = l0 := by omega
      have HV : Hid (nv L = nv xs * 2 ^ n) := Lib.hid (by have := HI.out.1; rw [hie, H0.out, nv_take_all _ _ (Nat.le_refl _)] at this; exact this)
      clear hie
      go_wp2
      go_ret
      exact ⟨⟨L, rfl, HR.out, HL.out.1, HL.out.2, HV.out⟩, HK.out⟩
/-- Shifting down. -/
theorem right_word {xs : List Nat} {n i : Nat} (hn : n < 32) (hi : i < xs.length) (hw : Wd xs) : ∃ t u : Nat, bits .or .u64 ((xs.getD i 0 : Nat) : Int) (((xs.getD (i + 1) 0 : Nat) : Int) * 4294967296) = (t : Int) ∧ (t : Int) / 2 ^ n = (u : Int) ∧ t < 18446744073709551616 ∧ u ≤ t ∧ u % 4294967296 = (nv xs / 2 ^ n / 4294967296 ^ i) % 4294967296 := by
  have h0 := hw.getD i
  have h1 := hw.getD (i + 1)
  refine ⟨xs.getD i 0 ||| xs.getD (i + 1) 0 * 4294967296, (xs.getD i 0 ||| xs.getD (i + 1) 0 * 4294967296) / 2 ^ n, ?_, by simp, ?_, Nat.div_le_self _ _, down_word n i hn hi hw⟩
  · have h := or_u64 (xs.getD i 0) (xs.getD (i + 1) 0 * 4294967296) (by omega) (by omega)
    rw [← h]; simp
  · exact Nat.or_lt_two_pow (n := 64) (by omega) (by omega)
set_option maxRecDepth 100000 in
set_option maxHeartbeats 2000000 in
theorem right_any (va : Value) (xs : List Nat) (n : Nat) (w : World) (ha : WdsAt w va xs) (hn : n < 32) :
    Calls Tryz.prog 137 #[va, .int .i64 n] w fun e w' => (∃ v' L, e = .returned v' ∧ WdsAt w' v' L ∧ nv L = nv xs / 2 ^ n) ∧ Kept w w' := by
  have HW := Lib.hid (fun W (hk : Kept w W) (i : Nat) => nword_any va xs i W (ha.kept hk))
  have HA := Lib.hid ha
  obtain ⟨a0, c0, rfl⟩ := ha.shape
  obtain ⟨l0, h0⟩ : ∃ l0, l0 = xs.length := ⟨_, rfl⟩
  have hl9 : l0 ≤ 1099511627776 := by rw [h0]; exact ha.len
  rw [← h0] at HW ⊢
  have H0 := Lib.hid h0
  clear ha h0
  go_enter Tryz.func137, Tryz.ntmps137
  go_wp2_with (refine make_one 36 34 (.int .u32 0) 4 info_u32 Tryz.underlying36 rfl rfl _ _ rfl l0 rfl rfl (by omega) (by unfold maxLen; omega) ?_; intro w1 hr1 hk1)
  have HR1 := Lib.hid (made_wds hr1)
  have HK1 := Lib.hid hk1
  clear hr1 hk1
  go_loopg [12] l0 (fun kx s12 wr => ∃ (i : Nat) (L : List Nat), s12 = .int .i64 i ∧ i ≤ l0 ∧ l0 - i ≤ kx ∧ Hid (RowAt wr w.heap.size 34 (L.map w32)) ∧ Hid (L.length = l0 ∧ Wd L) ∧ Hid (nv (L.take i) = nv xs / 2 ^ n % 4294967296 ^ i) ∧ Hid (Kept w wr))
  case atStart => exact ⟨0, List.replicate l0 0, rfl, Nat.zero_le _, by omega, HR1, Lib.hid ⟨by simp, Wd.zeros _⟩, Lib.hid (by simp [nv_nil, Nat.mod_one]), HK1⟩
  case round =>
    obtain ⟨i, L, rfl, hi, hkx, HR, HL, HI, HK⟩ := hrel
    by_cases hlt : i < l0
    · have hiL : i < L.length := by have := HL.out.1; omega
      have f := HR.out.free i
      have hst := wds_cell HR.out i hiL
      obtain ⟨t, u, h1, h2, h3, h4, h5⟩ := right_word hn (by have := H0.out; omega : i < xs.length) HA.out.wd
      have hx := HA.out.wd.getD i
      have hx1 := HA.out.wd.getD (i + 1)
      have HX := Lib.hid (HW.out wr HK.out i)
      have HX1 := Lib.hid (HW.out wr HK.out (i + 1))
      generalize xs.getD i 0 = x at *
      generalize xs.getD (i + 1) 0 = x1 at *
      obtain ⟨r, hr⟩ : ∃ r, r = u % 4294967296 := ⟨_, rfl⟩
      have hr9 : r < 4294967296 := by omega
      have e5 : IntKind.u32.wrap (u : Int) = (r : Int) := by rw [IntKind.wrap_u32]; omega
      have HS : Hid (nv ((L.set i r).take (i + 1)) = nv xs / 2 ^ n % 4294967296 ^ (i + 1)) := Lib.hid (by rw [nv_take_set hiL, HI.out, hr, h5, mod_pow_succ])
      have hkn : (i : Int) < (l0 : Int) := by omega
      clear h5 hr
      go_wp2_with (first | (go_at_call 109; (with_reducible refine HX.out.mono ?_); rintro e w2 ⟨rfl, rfl⟩) | (go_at_call 109; refine HX1.out.mono ?_; rintro e w2 ⟨rfl, rfl⟩))
      go_roundg (l0 - (i + 1))
      case measure => omega
      case rel => exact ⟨i + 1, L.set i r, by go_num, by omega, Nat.le_refl _, Lib.hid (wds_store HR.out i r), Lib.hid ⟨by rw [List.length_set]; exact HL.out.1, HL.out.2.set i r hr9⟩, HS, Lib.hid (HK.out.store (Nat.le_refl _) _ _)⟩
    · have hie : i = l0 := by omega
      have HV : Hid (nv L = nv xs / 2 ^ n) := Lib.hid (by
        have h := HI.out
        rw [hie, nv_take_all _ _ (by rw [HL.out.1]; exact Nat.le_refl _)] at h
        rw [h]
        refine Nat.mod_eq_of_lt (Nat.lt_of_le_of_lt (Nat.div_le_self _ _) ?_)
        rw [H0.out]; exact nv_lt HA.out.wd)
      have HF : Hid (WdsAt wr (.slice (some ⟨w.heap.size, 0, none⟩) l0 l0) L) := Lib.hid (by
        have h := row_wds HR.out (c := l0) (by rw [HL.out.1]; exact Nat.le_refl _) (by rw [HL.out.1]; omega) HL.out.2
        rw [HL.out.1] at h
        exact h)
      clear hie
      go_wp2
      go_ret
      exact ⟨⟨_, L, rfl, HF.out, HV.out⟩, HK.out⟩
end Go.Proofs.YtpaedhlacbpmpaaGreatDoor

/-
  Walks: natural.take, natural.give: a part of a row of words, in place.
-/
namespace Go.Proofs.YtpaedhlacbpmpaaGreatDoor
open Go.RowKit

/-- Only one block has changed. -/
structure OnlyAt (g : Nat) (w w' : World) : Prop where
  os : w'.os = w.os
  tape : w'.tape = w.tape
  output : w'.output = w.output
  size : w.heap.size ≤ w'.heap.size
  block : ∀ k, k < w.heap.size → k ≠ g → w'.heap[k]? = w.heap[k]?
theorem OnlyAt.refl (g : Nat) (w : World) : OnlyAt g w w := ⟨rfl, rfl, rfl, Nat.le_refl _, fun _ _ _ => rfl⟩
theorem OnlyAt.trans {g : Nat} {a b c : World} (h : OnlyAt g a b) (k : OnlyAt g b c) : OnlyAt g a c :=
  ⟨k.os.trans h.os, k.tape.trans h.tape, k.output.trans h.output, Nat.le_trans h.size k.size, fun i hi hne => (k.block i (Nat.lt_of_lt_of_le hi h.size) hne).trans (h.block i hi hne)⟩
theorem OnlyAt.kept {g : Nat} {a b : World} (h : Kept a b) : OnlyAt g a b := ⟨h.os, h.tape, h.output, h.size, fun i hi _ => h.block i hi⟩
theorem OnlyAt.store {g : Nat} {a b : World} (h : OnlyAt g a b) (i : Nat) (u : Value) : OnlyAt g a (b.setCell ⟨g, i, none⟩ u) := by
  have h3 : Below 0 b (b.setCell ⟨g, i, none⟩ u) := Below.setCell (Below.refl _ _) (Nat.zero_le _) _
  exact ⟨h3.os.trans h.os, h3.tape.trans h.tape, h3.output.trans h.output, Nat.le_trans h.size h3.size, fun k hk hne => (Below.heap_setCell b ⟨g, i, none⟩ u k hne).trans (h.block k hk hne)⟩
theorem OnlyAt.row {g p : Nat} {w w' : World} {e : TypeId} {xs : List Value} (h : OnlyAt g w w') (hr : RowAt w p e xs) (hne : p ≠ g) : RowAt w' p e xs := hr.same (h.block p hr.lt hne)
theorem OnlyAt.toKept {g : Nat} {w0 w w' : World} (h : OnlyAt g w w') (hk : Kept w0 w) (hg : w0.heap.size ≤ g) : Kept w0 w' :=
  ⟨h.os.trans hk.os, h.tape.trans hk.tape, h.output.trans hk.output, Nat.le_trans hk.size h.size, fun k hk' => (h.block k (Nat.lt_of_lt_of_le hk' hk.size) (by omega)).trans (hk.block k hk')⟩
theorem drop_set (l : List Nat) (o i x : Nat) : (l.set (o + i) x).drop o = (l.drop o).set i x := by
  rw [List.drop_set, if_neg (by omega), Nat.add_sub_cancel_left]
theorem seg_set {l : List Nat} {o i x : Nat} (h : o + i < l.length) : nv (((l.set (o + i) x).drop o).take (i + 1)) = nv ((l.drop o).take i) + x * 4294967296 ^ i := by
  rw [drop_set, nv_take_set (by rw [List.length_drop]; omega)]
theorem seg_succ (l : List Nat) (o i : Nat) : nv ((l.drop o).take (i + 1)) = nv ((l.drop o).take i) + l.getD (o + i) 0 * 4294967296 ^ i := by
  rw [nv_take_succ, getD_drop]
set_option maxRecDepth 100000 in
set_option maxHeartbeats 4000000 in
theorem take_any (g gv o m k c cv n : Nat) (U V : List Nat) (w : World) (hU : RowAt w g 34 (U.map w32)) (hV : RowAt w gv 34 (V.map w32)) (hne : gv ≠ g) (hUw : Wd U) (hVw : Wd V) (hk : k = m + 1) (hoU : o + k ≤ U.length) (hmV : m ≤ V.length) (hm9 : m ≤ 549755813888) (hcv : m ≤ cv) (hn : n < 4294967296) (_hc : k ≤ c) :
    Calls Tryz.prog 135 #[.slice (some ⟨g, o, none⟩) k c, .slice (some ⟨gv, 0, none⟩) m cv, .int .u64 n] w fun e w' => (∃ (b : Nat) (U' : List Nat), e = .returned (.bool ((b : Int) == 1)) ∧ b ≤ 1 ∧ RowAt w' g 34 (U'.map w32) ∧ Wd U' ∧ U'.length = U.length ∧ (∀ j, j < o ∨ o + k ≤ j → U'.getD j 0 = U.getD j 0) ∧
      nv ((U'.drop o).take k) + n * nv (V.take m) = nv ((U.drop o).take k) + b * 4294967296 ^ k) ∧ OnlyAt g w w' := by
  have HU := Lib.hid hU
  have HLN := Lib.hid hoU
  have HWU := Lib.hid hUw
  have HK := Lib.hid hk
  have hk9 : k ≤ 549755813889 := by omega
  have hlV : (V.take m).length = m := by rw [List.length_take]; omega
  have HLV := Lib.hid hlV
  have HVW : Hid (Wd (V.take m)) := Lib.hid (hVw.take m)
  have HWD : Hid (∀ W, OnlyAt g w W → ∀ i : Nat, Calls Tryz.prog 109 #[.slice (some ⟨gv, 0, none⟩) m cv, .int .i64 i] W fun e w' => e = .returned (.int .u64 (((V.take m).getD i 0 : Nat) : Int)) ∧ W = w') := Lib.hid fun W hW i => by
    have h := hW.row hV hne
    have h2 : WdsAt W (.slice (some ⟨gv, 0, none⟩) m cv) (V.take m) := by
      refine ⟨_, cv, by rw [hlV], ⟨by omega, fun h => by cases h⟩, by omega, hVw.take m, fun j hj => ⟨gv, 0, rfl, ?_⟩⟩
      rw [hlV] at hj
      have := wds_cell h j (by omega)
      rw [getD_take hj, Nat.zero_add]; exact this
    exact nword_any _ _ i W h2
  clear hU hoU hUw hk hlV hV hVw
  go_enter Tryz.func135, Tryz.ntmps135
  go_wp2
  go_loopg [7, 8, 13] k (fun kx s7 s8 s13 wr => ∃ (i cy b : Nat) (U' : List Nat), s7 = .int .u64 cy ∧ s8 = .int .u64 b ∧ s13 = .int .i64 i ∧ i ≤ k ∧ k - i ≤ kx ∧ cy < 4294967296 ∧ b ≤ 1 ∧ Hid (RowAt wr g 34 (U'.map w32)) ∧ Hid (Wd U' ∧ U'.length = U.length ∧ (∀ j, j < o ∨ o + i ≤ j → U'.getD j 0 = U.getD j 0) ∧ (m < i → cy = 0)) ∧ Hid (nv ((U'.drop o).take i) + n * nv ((V.take m).take i) = nv ((U.drop o).take i) + b * 4294967296 ^ i + cy * 4294967296 ^ i) ∧ Hid (OnlyAt g w wr))
  case atStart => exact ⟨0, 0, 0, U, rfl, rfl, rfl, Nat.zero_le _, by omega, by omega, by omega, HU, Lib.hid ⟨HWU.out, rfl, fun _ _ => rfl, fun h => rfl⟩, Lib.hid (by simp [nv_nil]), Lib.hid (OnlyAt.refl _ _)⟩
  case round =>
    obtain ⟨i, cy, b, U', rfl, rfl, rfl, hi, hkx, hcy, hb, HR, HL, HI, HO⟩ := hrel
    by_cases hlt : i < k
    · have hiU : o + i < U'.length := by have h1 := HL.out.2.1; have h2 := HLN.out; omega
      have f := HR.out.free (o + i)
      have hst := wds_cell HR.out (o + i) hiU
      have hxw := HL.out.1.getD (o + i)
      have hux : U'.getD (o + i) 0 = U.getD (o + i) 0 := HL.out.2.2.1 _ (.inr (Nat.le_refl _))
      have hyw := HVW.out.getD i
      have hy0 : m ≤ i → (V.take m).getD i 0 = 0 := fun h => by rw [List.getD_eq_getElem?_getD, List.getElem?_eq_none (by rw [HLV.out]; exact h)]; rfl
      have HX := Lib.hid (HWD.out wr HO.out i)
      have HST : Hid (∀ s oo b', s = cy + n * (V.take m).getD i 0 → oo + s % 4294967296 + b = U'.getD (o + i) 0 + b' * 4294967296 → nv (((U'.set (o + i) oo).drop o).take (i + 1)) + n * nv ((V.take m).take (i + 1)) = nv ((U.drop o).take (i + 1)) + b' * 4294967296 ^ (i + 1) + (s / 4294967296) * 4294967296 ^ (i + 1)) := Lib.hid fun s oo b' hs ho => by
        have h := take_step HI.out hs (hux ▸ ho)
        rw [seg_set hiU, nv_take_succ, seg_succ U, h, Nat.pow_succ, Nat.mul_comm (4294967296 ^ i)]
      obtain ⟨y, hyy⟩ : ∃ y, y = (V.take m).getD i 0 := ⟨_, rfl⟩
      rw [← hyy] at hyw hy0 HX HST
      generalize U'.getD (o + i) 0 = x at *
      obtain ⟨hs1, hs2, hs3⟩ := sub_words hcy hn hyw (show 0 < 4294967296 by omega)
      simp only [Nat.add_zero] at hs1 hs3
      obtain ⟨ny, hny⟩ : ∃ ny, ny = n * y := ⟨_, rfl⟩
      rw [← hny] at hs1 hs2 hs3 HST
      have eny : (n : Int) * (y : Int) = (ny : Int) := by rw [hny]; simp
      have hn0 : y = 0 → ny = 0 := fun h => by rw [hny, h, Nat.mul_zero]
      obtain ⟨s, hs⟩ : ∃ s, s = cy + ny := ⟨_, rfl⟩
      rw [← hs] at hs1 hs3
      obtain ⟨sl, hsl⟩ : ∃ sl, sl = s % 4294967296 := ⟨_, rfl⟩
      obtain ⟨sh, hsh⟩ : ∃ sh, sh = s / 4294967296 := ⟨_, rfl⟩
      rw [← hsh] at hs3
      have hsl9 : sl < 4294967296 := by omega
      obtain ⟨oo, b', D, ho, hb', hD, hob, hm, hd, hcs⟩ := borrow_cases hxw hsl9 hb
      have HSS := Lib.hid (HST.out s oo b' hs (by rw [← hsl]; exact hob))
      rw [← hsh] at HSS
      have hlast : m < i + 1 → sh = 0 := fun h => by
        have h1 := hy0 (by omega)
        have h2 := hn0 h1
        omega
      have HLA := Lib.hid hlast
      have es : (cy : Int) + (ny : Int) = (s : Int) := by omega
      have esl : IntKind.u32.wrap (s : Int) = (sl : Int) := by rw [IntKind.wrap_u32]; omega
      have esh : (s : Int) / 4294967296 = (sh : Int) := by omega
      have e5 : IntKind.u32.wrap (D : Int) = (oo : Int) := by rw [IntKind.wrap_u32]; omega
      have e6 : (D : Int) / 9223372036854775808 = (b' : Int) := by omega
      have hkn : (i : Int) < (k : Int) := by omega
      have hNEW : Hid (Wd (U'.set (o + i) oo) ∧ (U'.set (o + i) oo).length = U.length ∧ (∀ j, j < o ∨ o + (i + 1) ≤ j → (U'.set (o + i) oo).getD j 0 = U.getD j 0) ∧ (m < i + 1 → sh = 0)) := Lib.hid ⟨HL.out.1.set _ _ ho, by rw [List.length_set]; exact HL.out.2.1, fun j hj => by rw [getD_set_ne (by omega)]; exact HL.out.2.2.1 j (by omega), hlast⟩
      clear HST hob hm hd hux hyy hny hn0 hy0 hs hsl hsh hlast
      rcases hcs with ⟨h1, h2⟩ | ⟨h1, D1, h2, h3⟩ | ⟨h1, h2, h3⟩
      · go_wp2_with (go_at_call 109; (with_reducible refine HX.out.mono ?_); rintro e w2 ⟨rfl, rfl⟩)
        go_roundg (k - (i + 1))
        case measure => omega
        case rel => exact ⟨i + 1, sh, b', U'.set (o + i) oo, rfl, rfl, by go_num, by omega, Nat.le_refl _, hs3, hb', Lib.hid (wds_store HR.out _ _), hNEW, HSS, Lib.hid (HO.out.store _ _)⟩
      · have e1 := u64_up h2 (by omega)
        have hD1 : D1 < 18446744073709551616 := by omega
        clear h2
        go_wp2_with (go_at_call 109; (with_reducible refine HX.out.mono ?_); rintro e w2 ⟨rfl, rfl⟩)
        go_roundg (k - (i + 1))
        case measure => omega
        case rel => exact ⟨i + 1, sh, b', U'.set (o + i) oo, rfl, rfl, by go_num, by omega, Nat.le_refl _, hs3, hb', Lib.hid (wds_store HR.out _ _), hNEW, HSS, Lib.hid (HO.out.store _ _)⟩
      · have e1 := u64_up h3 (by omega)
        have g1 : x ≤ sl := by omega
        have g2 : sl ≤ x := by omega
        have g3 : 1 ≤ b := by omega
        clear h1 h2 h3
        go_wp2_with (go_at_call 109; (with_reducible refine HX.out.mono ?_); rintro e w2 ⟨rfl, rfl⟩)
        go_roundg (k - (i + 1))
        case measure => omega
        case rel => exact ⟨i + 1, sh, b', U'.set (o + i) oo, rfl, rfl, by go_num, by omega, Nat.le_refl _, hs3, hb', Lib.hid (wds_store HR.out _ _), hNEW, HSS, Lib.hid (HO.out.store _ _)⟩
    · have hie : i = k := by omega
      have hcy0 : cy = 0 := HL.out.2.2.2 (by have := HK.out; omega)
      have hf := HI.out
      rw [hie, hcy0, Nat.zero_mul, Nat.add_zero, nv_take_all (V.take m) k (by rw [HLV.out, HK.out]; omega)] at hf
      have HF := Lib.hid hf
      have HE := Lib.hid hie
      clear hie hcy0 hf
      go_wp2
      go_ret
      exact ⟨⟨b, U', rfl, hb, HR.out, HL.out.1, HL.out.2.1, fun j hj => HL.out.2.2.1 j (by have := HE.out; omega), HF.out⟩, HO.out⟩
set_option maxRecDepth 100000 in
set_option maxHeartbeats 4000000 in
theorem give_any (g gv o m k c cv : Nat) (U V : List Nat) (w : World) (hU : RowAt w g 34 (U.map w32)) (hV : RowAt w gv 34 (V.map w32)) (hne : gv ≠ g) (hUw : Wd U) (hVw : Wd V) (hk : k = m + 1) (hoU : o + k ≤ U.length) (hmV : m ≤ V.length) (hm9 : m ≤ 549755813888) (hcv : m ≤ cv) :
    Calls Tryz.prog 136 #[.slice (some ⟨g, o, none⟩) k c, .slice (some ⟨gv, 0, none⟩) m cv] w fun e w' => (∃ (b : Nat) (U' : List Nat), e = .returned (.tuple #[]) ∧ RowAt w' g 34 (U'.map w32) ∧ Wd U' ∧ U'.length = U.length ∧ (∀ j, j < o ∨ o + k ≤ j → U'.getD j 0 = U.getD j 0) ∧
      nv ((U'.drop o).take k) + b * 4294967296 ^ k = nv ((U.drop o).take k) + nv (V.take m)) ∧ OnlyAt g w w' := by
  have HU := Lib.hid hU
  have HLN := Lib.hid hoU
  have HWU := Lib.hid hUw
  have HK := Lib.hid hk
  have hk9 : k ≤ 549755813889 := by omega
  have hlV : (V.take m).length = m := by rw [List.length_take]; omega
  have HLV := Lib.hid hlV
  have HVW : Hid (Wd (V.take m)) := Lib.hid (hVw.take m)
  have HWD : Hid (∀ W, OnlyAt g w W → ∀ i : Nat, Calls Tryz.prog 109 #[.slice (some ⟨gv, 0, none⟩) m cv, .int .i64 i] W fun e w' => e = .returned (.int .u64 (((V.take m).getD i 0 : Nat) : Int)) ∧ W = w') := Lib.hid fun W hW i => by
    have h := hW.row hV hne
    have h2 : WdsAt W (.slice (some ⟨gv, 0, none⟩) m cv) (V.take m) := by
      refine ⟨_, cv, by rw [hlV], ⟨by omega, fun h => by cases h⟩, by omega, hVw.take m, fun j hj => ⟨gv, 0, rfl, ?_⟩⟩
      rw [hlV] at hj
      have := wds_cell h j (by omega)
      rw [getD_take hj, Nat.zero_add]; exact this
    exact nword_any _ _ i W h2
  clear hU hoU hUw hk hlV hV hVw
  go_enter Tryz.func136, Tryz.ntmps136
  go_wp2
  go_loopg [4, 8] k (fun kx s4 s8 wr => ∃ (i cy : Nat) (U' : List Nat), s4 = .int .u64 cy ∧ s8 = .int .i64 i ∧ i ≤ k ∧ k - i ≤ kx ∧ cy ≤ 1 ∧ Hid (RowAt wr g 34 (U'.map w32)) ∧ Hid (Wd U' ∧ U'.length = U.length ∧ (∀ j, j < o ∨ o + i ≤ j → U'.getD j 0 = U.getD j 0)) ∧ Hid (nv ((U'.drop o).take i) + cy * 4294967296 ^ i = nv ((U.drop o).take i) + nv ((V.take m).take i)) ∧ Hid (OnlyAt g w wr))
  case atStart => exact ⟨0, 0, U, rfl, rfl, Nat.zero_le _, by omega, by omega, HU, Lib.hid ⟨HWU.out, rfl, fun _ _ => rfl⟩, Lib.hid (by simp [nv_nil]), Lib.hid (OnlyAt.refl _ _)⟩
  case round =>
    obtain ⟨i, cy, U', rfl, rfl, hi, hkx, hcy, HR, HL, HI, HO⟩ := hrel
    by_cases hlt : i < k
    · have hiU : o + i < U'.length := by have h1 := HL.out.2.1; have h2 := HLN.out; omega
      have f := HR.out.free (o + i)
      have hst := wds_cell HR.out (o + i) hiU
      have hxw := HL.out.1.getD (o + i)
      have hux : U'.getD (o + i) 0 = U.getD (o + i) 0 := HL.out.2.2 _ (.inr (Nat.le_refl _))
      have hyw := HVW.out.getD i
      have HX := Lib.hid (fun W hk => HWD.out W (HO.out.trans (OnlyAt.kept hk)) i)
      have HST : Hid (∀ s, s = cy + U'.getD (o + i) 0 + (V.take m).getD i 0 → nv (((U'.set (o + i) (s % 4294967296)).drop o).take (i + 1)) + (s / 4294967296) * 4294967296 ^ (i + 1) = nv ((U.drop o).take (i + 1)) + nv ((V.take m).take (i + 1))) := Lib.hid fun s hs => by
        have h := wadd_step HI.out hs
        rw [seg_set hiU, seg_succ U, nv_take_succ (V.take m), ← hux, ← h, Nat.pow_succ, Nat.mul_comm (4294967296 ^ i)]
      generalize (V.take m).getD i 0 = y at *
      generalize U'.getD (o + i) 0 = x at *
      obtain ⟨s, hs⟩ : ∃ s, s = cy + x + y := ⟨_, rfl⟩
      have hs9 : s < 18446744073709551616 := by omega
      obtain ⟨r, hr⟩ : ∃ r, r = s % 4294967296 := ⟨_, rfl⟩
      obtain ⟨q, hq⟩ : ∃ q, q = s / 4294967296 := ⟨_, rfl⟩
      have hr9 : r < 4294967296 := by omega
      have hq9 : q ≤ 1 := by omega
      have HSS := Lib.hid (HST.out s hs)
      rw [← hr, ← hq] at HSS
      have e3 : (cy : Int) + ((x : Int) + (y : Int)) = (s : Int) := by omega
      have e6 : (s : Int) / 4294967296 = (q : Int) := by omega
      have e5 : IntKind.u32.wrap (s : Int) = (r : Int) := by rw [IntKind.wrap_u32]; omega
      have hkn : (i : Int) < (k : Int) := by omega
      have hNEW : Hid (Wd (U'.set (o + i) r) ∧ (U'.set (o + i) r).length = U.length ∧ (∀ j, j < o ∨ o + (i + 1) ≤ j → (U'.set (o + i) r).getD j 0 = U.getD j 0)) := Lib.hid ⟨HL.out.1.set _ _ hr9, by rw [List.length_set]; exact HL.out.2.1, fun j hj => by rw [getD_set_ne (by omega)]; exact HL.out.2.2 j (by omega)⟩
      have hst' := ((Kept.refl wr).drew).cell hst
      clear hs hr hq HST hux
      go_wp2
      go_region_with ((go_at_call 109; refine (HX.out _ (by first | exact Kept.refl _ | exact (Kept.refl _).drew)).mono ?_; rintro e w2 ⟨rfl, rfl⟩))
      all_goals
        go_wp2
        go_roundg (k - (i + 1))
        case measure => omega
        case rel => exact ⟨i + 1, q, U'.set (o + i) r, rfl, by go_num, by omega, Nat.le_refl _, hq9, Lib.hid (wds_store (HR.out.kept (Kept.refl _).drew) _ _), hNEW, HSS, Lib.hid ((HO.out.trans (OnlyAt.kept (Kept.refl _).drew)).store _ _)⟩
    · have hie : i = k := by omega
      have hf := HI.out
      rw [hie, nv_take_all (V.take m) k (by rw [HLV.out, HK.out]; omega)] at hf
      have HF := Lib.hid hf
      have HE := Lib.hid hie
      clear hie hf
      go_wp2
      go_end0
      exact ⟨⟨cy, U', rfl, HR.out, HL.out.1, HL.out.2.1, fun j hj => HL.out.2.2 j (by have := HE.out; omega), HF.out⟩, HO.out⟩
end Go.Proofs.YtpaedhlacbpmpaaGreatDoor

/-
  Plain: a round of the long division of words, from the words that the code reads.
-/
namespace Go.Proofs.YtpaedhlacbpmpaaGreatDoor

theorem nv_of_zero (l : List Nat) (h : ∀ i, l.getD i 0 = 0) : nv l = 0 := by
  induction l with
  | nil => rfl
  | cons x l ih =>
    have h0 := h 0
    rw [List.getD_cons_zero] at h0
    rw [nv_cons, h0, ih fun i => by have := h (i + 1); rwa [List.getD_cons_succ] at this]
theorem take_drop_cons {U : List Nat} {j n : Nat} (h : j < U.length) : (U.drop j).take (n + 1) = U.getD j 0 :: (U.drop (j + 1)).take n := by
  rw [List.drop_eq_getElem_cons h, List.take_succ_cons]
  simp [List.getD_eq_getElem?_getD, h]
/-- The part of the dividend that a digit is taken from. -/
theorem div_seg {U : List Nat} {j m N : Nat} (hlen : j < U.length) (hR : nv (U.drop (j + 1)) < N) (hN : N < 4294967296 ^ (m + 2)) :
    nv ((U.drop j).take (m + 3)) = U.getD j 0 + 4294967296 * nv (U.drop (j + 1)) ∧ (∀ i, j + (m + 3) ≤ i → U.getD i 0 = 0) := by
  obtain ⟨h1, h2⟩ := zero_above (Nat.lt_trans hR hN)
  refine ⟨by rw [take_drop_cons hlen, nv_cons, h2], fun i hi => ?_⟩
  have := h1 (i - (j + 1)) (by omega)
  rwa [getD_drop, show j + 1 + (i - (j + 1)) = i by omega] at this
theorem div_part {U : List Nat} {j m : Nat} (hz : ∀ i, j + (m + 3) ≤ i → U.getD i 0 = 0) : nv (U.drop j) = nv ((U.drop j).take (m + 3)) := by
  by_cases h : m + 3 ≤ (U.drop j).length
  · rw [nv_split (U.drop j) (m + 3) h, nv_of_zero ((U.drop j).drop (m + 3)) (fun i => by rw [List.drop_drop, getD_drop]; exact hz _ (by omega))]; omega
  · rw [List.take_of_length_le (by omega)]
theorem top3 {l : List Nat} (hw : Wd l) {m : Nat} (hm : l.length = m + 3) : ((l.getD (m + 2) 0 * 4294967296 + l.getD (m + 1) 0) * 4294967296 + l.getD m 0) * 4294967296 ^ m ≤ nv l ∧ nv l < ((l.getD (m + 2) 0 * 4294967296 + l.getD (m + 1) 0) * 4294967296 + l.getD m 0 + 1) * 4294967296 ^ m := by
  have h1 := nv_split l m (by omega)
  rw [nv_drop_step (by omega), nv_drop_step (by omega), nv_drop_step (by omega), nv_drop_all (by omega)] at h1
  simp only [Nat.mul_zero, Nat.add_zero] at h1
  rw [show m + 1 + 1 = m + 2 from rfl] at h1
  have h2 := nv_lt (hw.take m)
  rw [List.length_take, Nat.min_eq_left (by omega)] at h2
  have e : (l.getD (m + 2) 0 * 4294967296 + l.getD (m + 1) 0) * 4294967296 + l.getD m 0 = l.getD m 0 + 4294967296 * (l.getD (m + 1) 0 + 4294967296 * l.getD (m + 2) 0) := by omega
  rw [e]
  refine ⟨by rw [h1, Nat.mul_comm]; omega, ?_⟩
  rw [Nat.add_mul, Nat.one_mul, Nat.mul_comm _ (4294967296 ^ m)]
  omega
/-- What the estimate of a digit rests on: V the divisor (its two leading words top, next), X the part of the dividend (its three leading words a, b, u2). -/
structure Est (N X m top next a b u2 : Nat) : Prop where
  top1 : 2147483648 ≤ top
  top2 : top < 4294967296
  next2 : next < 4294967296
  u22 : u2 < 4294967296
  a2 : a < 4294967296
  b2 : b < 4294967296
  lo1 : top * 4294967296 ^ (m + 1) ≤ N
  lo2 : (top * 4294967296 + next) * 4294967296 ^ m ≤ N
  hi2 : N < (top * 4294967296 + next + 1) * 4294967296 ^ m
  xhi : X < (a * 4294967296 + b + 1) * 4294967296 ^ (m + 1)
  xlo3 : ((a * 4294967296 + b) * 4294967296 + u2) * 4294967296 ^ m ≤ X
  xhi3 : X < ((a * 4294967296 + b) * 4294967296 + u2 + 1) * 4294967296 ^ m
  xw : X < N * 4294967296
theorem Est.make {V S : List Nat} {m X N R u0 : Nat} (hV : V.length = m + 2) (hwV : Wd V) (hN : nv V = N) (hS : S.length = m + 3) (hwS : Wd S) (hX : nv S = X) (ht : 2147483648 ≤ V.getD (m + 1) 0) (hX2 : X = u0 + 4294967296 * R) (hR : R < N) (hu : u0 < 4294967296) :
    Est N X m (V.getD (m + 1) 0) (V.getD m 0) (S.getD (m + 2) 0) (S.getD (m + 1) 0) (S.getD m 0) := by
  have hxw : X < N * 4294967296 := by omega
  obtain ⟨_, h1, h2⟩ := top_words hwV hV
  obtain ⟨_, h3, _⟩ := top_word hwV (m := m + 1) hV
  obtain ⟨h4, h5⟩ := top3 hwS hS
  obtain ⟨_, _, h6⟩ := top_words hwS (m := m + 1) hS
  have e1 : V.getD m 0 + 4294967296 * V.getD (m + 1) 0 = V.getD (m + 1) 0 * 4294967296 + V.getD m 0 := by omega
  rw [show m + 1 + 1 = m + 2 from rfl] at h6
  have e2 : S.getD (m + 1) 0 + 4294967296 * S.getD (m + 2) 0 = S.getD (m + 2) 0 * 4294967296 + S.getD (m + 1) 0 := by omega
  rw [e1] at h1 h2
  rw [e2] at h6
  rw [hN] at h1 h2 h3
  rw [hX] at h4 h5 h6
  exact ⟨ht, hwV.getD _, hwV.getD _, hwS.getD _, hwS.getD _, hwS.getD _, h3, h1, h2, h6, h4, h5, hxw⟩
theorem Est.pos {N X m top next a b u2 : Nat} (h : Est N X m top next a b u2) : 0 < N := by
  have h1 := h.lo1
  have h2 := h.top1
  have h3 : 0 < 4294967296 ^ (m + 1) := Nat.pow_pos (by omega)
  have h4 : 1 * 4294967296 ^ (m + 1) ≤ top * 4294967296 ^ (m + 1) := Nat.mul_le_mul_right _ (by omega)
  omega
/-- The leading words are less than the divisor's. -/
theorem Est.head {N X m top next a b u2 : Nat} (h : Est N X m top next a b u2) : a ≤ top := by
  have h1 : a * 4294967296 ^ (m + 2) ≤ X := by
    refine Nat.le_trans ?_ h.xlo3
    rw [Nat.pow_succ, Nat.pow_succ, Nat.mul_assoc, Nat.mul_comm (4294967296 ^ m), ← Nat.mul_assoc, ← Nat.mul_assoc]
    exact Nat.mul_le_mul_right _ (by omega)
  have h2 : N < (top + 1) * 4294967296 ^ (m + 1) := by
    refine Nat.lt_of_lt_of_le h.hi2 ?_
    rw [Nat.pow_succ, Nat.mul_comm (4294967296 ^ m), ← Nat.mul_assoc]
    exact Nat.mul_le_mul_right _ (by have := h.next2; omega)
  have h3 : a * 4294967296 ^ (m + 2) < (top + 1) * 4294967296 ^ (m + 2) := by
    refine Nat.lt_of_le_of_lt h1 (Nat.lt_of_lt_of_le h.xw ?_)
    rw [Nat.pow_succ 4294967296 (m + 1), ← Nat.mul_assoc]
    exact Nat.mul_le_mul_right _ (Nat.le_of_lt h2)
  have := Nat.lt_of_mul_lt_mul_right h3
  omega
/-- The invariant of the estimate's loop. -/
structure EstAt (N X top head g r : Nat) : Prop where
  sum : g * top + r = head
  ge : X / N ≤ g
theorem EstAt.start {N X m top next a b u2 : Nat} (h : Est N X m top next a b u2) {head : Nat} (hh : head = a * 4294967296 + b) : EstAt N X top head (head / top) (head % top) ∧ head % top < 4294967296 ∧ head / top < 18446744073709551616 ∧ head < 18446744073709551616 := by
  have ht := h.top1
  have ht2 := h.top2
  have h1 := Nat.mod_lt head (show 0 < top by omega)
  have h2 : head < 18446744073709551616 := by have := h.a2; have := h.b2; omega
  refine ⟨⟨by rw [Nat.mul_comm]; exact Nat.div_add_mod head top, guess_ge h.lo1 (by rw [hh]; exact h.xhi) (by omega)⟩, by omega, Nat.lt_of_le_of_lt (Nat.div_le_self _ _) h2, h2⟩
theorem EstAt.next {N X m top next a b u2 head g r : Nat} (h : Est N X m top next a b u2) (hh : head = a * 4294967296 + b) (he : EstAt N X top head g r) (hg : 4294967296 ≤ g ∨ r * 4294967296 + u2 < g * next) : ∃ g', g = g' + 1 ∧ EstAt N X top head g' (r + top) := by
  have h1 : X / N < g := by
    rcases est_step he.sum hg with h2 | h2
    · rw [hh] at h2; exact guess_dec h.lo2 h.xhi3 h2
    · have h3 : X / N < 4294967296 := Nat.div_lt_of_lt_mul h.xw
      omega
  have h4 : 0 < g := Nat.lt_of_le_of_lt (Nat.zero_le _) h1
  refine ⟨g - 1, (Nat.sub_add_cancel h4).symm, ?_, Nat.le_sub_one_of_lt h1⟩
  have h3 := he.sum
  clear h1
  obtain ⟨g', rfl⟩ : ∃ g', g = g' + 1 := ⟨g - 1, by omega⟩
  rw [Nat.add_mul, Nat.one_mul] at h3
  rw [Nat.add_sub_cancel]; omega
theorem EstAt.good {N X m top next a b u2 head g r : Nat} (h : Est N X m top next a b u2) (hh : head = a * 4294967296 + b) (he : EstAt N X top head g r) (hg : (g < 4294967296 ∧ g * next ≤ r * 4294967296 + u2) ∨ 4294967296 ≤ r) : g < 4294967296 ∧ X / N ≤ g ∧ g ≤ X / N + 1 := by
  have h1 : g < 4294967296 ∧ g * (top * 4294967296 + next) ≤ head * 4294967296 + u2 := by
    rcases hg with ⟨h1, h2⟩ | h2
    · exact ⟨h1, est_done he.sum h2⟩
    · exact est_break he.sum h2 (by have := h.head; have := h.b2; rw [hh, Nat.add_mul]; omega) h.next2 (by have := h.top1; omega)
  refine ⟨h1.1, he.ge, guess_le (V2 := top * 4294967296 + next) (P := 4294967296 ^ m) (head3 := head * 4294967296 + u2) h.hi2 (by rw [hh]; exact h.xlo3) h1.2 ?_ h.pos⟩
  refine Nat.le_trans ?_ h.lo2
  exact Nat.mul_le_mul_right _ (by have := h.top1; omega)
end Go.Proofs.YtpaedhlacbpmpaaGreatDoor

/-
  Walks: natural.Of; fresh rows of words; the highest bit of a word.
-/
namespace Go.Proofs.YtpaedhlacbpmpaaGreatDoor
open Go.RowKit

theorem bitLen_lt {x : Nat} (h : x < 2 ^ 64) : x < 2 ^ Lib.bitLen x := by
  rcases Nat.lt_or_ge x (2 ^ Lib.bitLen x) with h1 | h1
  · exact h1
  · exfalso
    have h2 := Lib.bitLen_shift _ x h1 h
    have h3 : x / 2 ^ Lib.bitLen x ≠ 0 := by
      have := Nat.div_pos h1 (Nat.two_pow_pos _)
      omega
    have h4 := Lib.bitLen_half _ h3 (Nat.lt_of_le_of_lt (Nat.div_le_self _ _) h)
    omega
theorem bitLen_ge {x : Nat} (h : x < 2 ^ 64) (h0 : x ≠ 0) : ∃ k, Lib.bitLen x = k + 1 ∧ 2 ^ k ≤ x := by
  have h1 := Lib.bitLen_half x h0 h
  refine ⟨Lib.bitLen (x / 2), by omega, ?_⟩
  rcases Nat.lt_or_ge x (2 ^ Lib.bitLen (x / 2)) with h2 | h2
  · exfalso
    have h3 : Lib.bitLen (x / 2) ≤ 64 := Lib.bitLen_le _ 64 (Nat.le_refl _) (Nat.lt_of_le_of_lt (Nat.div_le_self _ _) h)
    have := Lib.bitLen_le x _ h3 h2
    omega
  · exact h2
theorem lead_word {x : Nat} (h : x < 4294967296) (h0 : x ≠ 0) : ∃ s : Nat, (32 - (Lib.bitLen x : Int)) = (s : Int) ∧ s < 32 ∧ 2147483648 ≤ x * 2 ^ s ∧ x * 2 ^ s < 4294967296 := by
  have h1 : x < 2 ^ 64 := Nat.lt_of_lt_of_le h (by omega)
  obtain ⟨k, hk, h2⟩ := bitLen_ge h1 h0
  have h3 : Lib.bitLen x ≤ 32 := Lib.bitLen_le x 32 (by omega) (by rw [show (2 : Nat) ^ 32 = 4294967296 by rfl]; exact h)
  have h4 := bitLen_lt h1
  rw [hk] at h3 h4 ⊢
  refine ⟨31 - k, by omega, by omega, ?_, ?_⟩
  · have h5 : 2 ^ k * 2 ^ (31 - k) ≤ x * 2 ^ (31 - k) := Nat.mul_le_mul_right _ h2
    rw [← Nat.pow_add, show k + (31 - k) = 31 by omega] at h5
    rw [show (2147483648 : Nat) = 2 ^ 31 by rfl]; exact h5
  · have h5 : x * 2 ^ (31 - k) < 2 ^ (k + 1) * 2 ^ (31 - k) := (Nat.mul_lt_mul_right (Nat.two_pow_pos _)).2 h4
    rw [← Nat.pow_add, show k + 1 + (31 - k) = 32 by omega] at h5
    rw [show (4294967296 : Nat) = 2 ^ 32 by rfl]; exact h5
theorem wds_new2 (w : World) (x y : Nat) (hx : x < 4294967296) (hy : y < 4294967296) : WdsAt (w.alloc (.cells #[.int .u32 (x : Int), .int .u32 (y : Int)] 34)) (.slice (some ⟨w.heap.size, 0, none⟩) 2 2) [x, y] :=
  ⟨_, 2, rfl, ⟨by simp, fun h => by cases h⟩, by simp, Wd.cons hx (Wd.cons hy Wd.nil), fun i hi => ⟨w.heap.size, 0, rfl, by
    have : i = 0 ∨ i = 1 := by simp at hi; omega
    rcases this with rfl | rfl <;> simp⟩⟩
theorem wds_new1 (w : World) (x : Nat) (hx : x < 4294967296) : WdsAt (w.alloc (.cells #[.int .u32 (x : Int)] 34)) (.slice (some ⟨w.heap.size, 0, none⟩) 1 1) [x] :=
  ⟨_, 1, rfl, ⟨by simp, fun h => by cases h⟩, by simp, Wd.cons hx Wd.nil, fun i hi => ⟨w.heap.size, 0, rfl, by
    have : i = 0 := by simp at hi; omega
    subst this; simp⟩⟩
set_option maxRecDepth 100000 in
set_option maxHeartbeats 1000000 in
theorem nof_any (n : Nat) (w : World) (hn : n < 9223372036854775808) : Calls Tryz.prog 120 #[.int .i64 n] w fun e w' => (∃ v', e = .returned v' ∧ WdsAt w' v' (nw n)) ∧ Kept w w' := by
  by_cases h0 : n = 0
  · subst h0
    go_enter Tryz.func120, Tryz.ntmps120
    go_wp2
    go_ret
    exact ⟨⟨_, rfl, by rw [nw_zero]; exact WdsAt.nil _⟩, Kept.refl _⟩
  · obtain ⟨x, hx⟩ : ∃ x, x = n % 4294967296 := ⟨_, rfl⟩
    obtain ⟨y, hy⟩ : ∃ y, y = n / 4294967296 := ⟨_, rfl⟩
    have hx9 : x < 4294967296 := by omega
    have hy9 : y < 4294967296 := by omega
    have hv : nv [x, y] = n := by simp [nv]; omega
    have e1 : IntKind.u32.wrap (n : Int) = (x : Int) := by rw [IntKind.wrap_u32]; omega
    have e2 : (n : Int) / 4294967296 = (y : Int) := by omega
    have hp : ¬ (n : Int) ≤ 0 := by omega
    have HT : Hid (∀ W : World, Calls Tryz.prog 106 #[.slice (some ⟨W.heap.size, 0, none⟩) 2 2] (W.alloc (.cells #[.int .u32 (x : Int), .int .u32 (y : Int)] 34)) fun e w' => (∃ v', e = .returned v' ∧ WdsAt w' v' (nw n)) ∧ Kept (W.alloc (.cells #[.int .u32 (x : Int), .int .u32 (y : Int)] 34)) w') := Lib.hid fun W => by
      have h := ntrim_any _ _ _ (wds_new2 W x y hx9 hy9)
      rw [hv] at h
      exact h
    clear hx hy hv h0
    go_enter Tryz.func120, Tryz.ntmps120
    go_wp2_with (go_at_call 106; refine (HT.out _).mono ?_; rintro e w2 ⟨⟨v2, rfl, hv2⟩, hk2⟩; have HV2 := Lib.hid hv2; have HK2 := Lib.hid hk2; clear hv2 hk2)
    go_ret
    exact ⟨⟨_, rfl, HV2.out⟩, ((Kept.refl _).alloc _).trans HK2.out⟩
end Go.Proofs.YtpaedhlacbpmpaaGreatDoor

/-
  Walk: natural.Div by a divisor of two words or more.
-/
namespace Go.Proofs.YtpaedhlacbpmpaaGreatDoor
open Go.RowKit

/-- A row of the call's own that a callee has made: it lies behind all that was there. -/
theorem left_row (va : Value) (xs : List Nat) (n : Nat) (w : World) (ha : WdsAt w va xs) (hn : n < 32) (hla : xs.length ≤ 549755813888) :
    Calls Tryz.prog 134 #[va, .int .i64 n] w fun e w' => (∃ g L, e = .returned (.slice (some ⟨g, 0, none⟩) (xs.length + 1) (xs.length + 1)) ∧ w.heap.size ≤ g ∧ RowAt w' g 34 (L.map w32) ∧ L.length = xs.length + 1 ∧ Wd L ∧ nv L = nv xs * 2 ^ n) ∧ Kept w w' :=
  (left_any va xs n w ha hn hla).mono fun _ _ h => ⟨let ⟨L, h1, h2, h3, h4, h5⟩ := h.1; ⟨w.heap.size, L, h1, Nat.le_refl _, h2, h3, h4, h5⟩, h.2⟩
/-- The divisor, shifted: its leading word has its highest bit, and no word is needed more. -/
theorem shifted {V bs : List Nat} {s m : Nat} (hs : s < 32) (hl : bs.length = m + 2) (hV : V.length = m + 3) (hw : Wd V) (hwb : Wd bs) (hv : nv V = nv bs * 2 ^ s) (h1 : 2147483648 ≤ bs.getD (m + 1) 0 * 2 ^ s) (h2 : bs.getD (m + 1) 0 * 2 ^ s < 4294967296) :
    nv (V.take (m + 2)) = nv bs * 2 ^ s ∧ 2147483648 ≤ V.getD (m + 1) 0 ∧ nv bs * 2 ^ s < 4294967296 ^ (m + 2) := by
  obtain ⟨_, h3, h4⟩ := top_word hwb (m := m + 1) hl
  have hlt : nv bs * 2 ^ s < 4294967296 ^ (m + 2) := by
    have h5 : (bs.getD (m + 1) 0 + 1) * 2 ^ s ≤ 4294967296 := by
      have e : (4294967296 : Nat) = 2 ^ (32 - s) * 2 ^ s := by rw [← Nat.pow_add, show 32 - s + s = 32 by omega]
      rw [e] at h2 ⊢
      exact Nat.mul_le_mul_right _ (Nat.lt_of_mul_lt_mul_right h2)
    have h6 : nv bs * 2 ^ s < (bs.getD (m + 1) 0 + 1) * 4294967296 ^ (m + 1) * 2 ^ s := (Nat.mul_lt_mul_right (Nat.two_pow_pos _)).2 h4
    have h7 : (bs.getD (m + 1) 0 + 1) * 4294967296 ^ (m + 1) * 2 ^ s = (bs.getD (m + 1) 0 + 1) * 2 ^ s * 4294967296 ^ (m + 1) := by rw [Nat.mul_assoc, Nat.mul_comm (4294967296 ^ (m + 1)), ← Nat.mul_assoc]
    have h8 : (bs.getD (m + 1) 0 + 1) * 2 ^ s * 4294967296 ^ (m + 1) ≤ 4294967296 * 4294967296 ^ (m + 1) := Nat.mul_le_mul_right _ h5
    rw [Nat.pow_succ, Nat.mul_comm (4294967296 ^ (m + 1))]
    omega
  have hz := zero_above (l := V) (k := m + 2) (by rw [hv]; exact hlt)
  refine ⟨by rw [hz.2, hv], ?_, hlt⟩
  have hl2 : (V.take (m + 2)).length = m + 2 := by rw [List.length_take]; omega
  obtain ⟨_, h5, h6⟩ := top_word (hw.take (m + 2)) (m := m + 1) hl2
  rw [hz.2, hv, getD_take (by omega)] at h6
  have h7 : bs.getD (m + 1) 0 * 2 ^ s * 4294967296 ^ (m + 1) ≤ nv bs * 2 ^ s := by
    rw [Nat.mul_assoc, Nat.mul_comm (2 ^ s), ← Nat.mul_assoc]; exact Nat.mul_le_mul_right _ h3
  have h8 : bs.getD (m + 1) 0 * 2 ^ s * 4294967296 ^ (m + 1) < (V.getD (m + 1) 0 + 1) * 4294967296 ^ (m + 1) := by omega
  have h9 := Nat.lt_of_mul_lt_mul_right h8
  omega
/-- The first part of the dividend is less than the divisor. -/
theorem first_part {U0 : List Nat} {A s l1 m L N : Nat} (hs : s < 32) (hA : A < 4294967296 ^ l1) (hU : nv U0 = A * 2 ^ s) (hp : U0.length = l1 + 1) (hL : L + (m + 2) = l1 + 1) (hN : 2147483648 * 4294967296 ^ (m + 1) ≤ N) : nv (U0.drop L) < N := by
  have h1 := nv_split U0 L (by omega)
  have h2 : 4294967296 ^ L * nv (U0.drop L) < 4294967296 ^ l1 * 2 ^ s := by
    have : A * 2 ^ s < 4294967296 ^ l1 * 2 ^ s := (Nat.mul_lt_mul_right (Nat.two_pow_pos _)).2 hA
    omega
  rw [show l1 = L + (m + 1) by omega, Nat.pow_add, Nat.mul_assoc] at h2
  have h3 := Nat.lt_of_mul_lt_mul_left h2
  have h4 : 2 ^ s ≤ 2 ^ 31 := Nat.pow_le_pow_right (by omega) (by omega)
  have h5 : 4294967296 ^ (m + 1) * 2 ^ s ≤ 4294967296 ^ (m + 1) * 2147483648 := Nat.mul_le_mul_left _ (by rw [show (2147483648 : Nat) = 2 ^ 31 by rfl]; exact h4)
  rw [Nat.mul_comm _ 2147483648] at h5
  omega
/-- The state of the division's loop: k digits are still to come. -/
structure DivAt (U0 U Q : List Nat) (N L p k : Nat) : Prop where
  lu : U.length = p
  wu : Wd U
  lq : Q.length = L
  wq : Wd Q
  eq : nv (U0.drop k) = N * nv (Q.drop k) + nv (U.drop k)
  lt : nv (U.drop k) < N
  same : ∀ i, i < k → U.getD i 0 = U0.getD i 0
theorem DivAt.step {U0 U Q : List Nat} {N L p j m : Nat} (h : DivAt U0 U Q N L p (j + 1)) (hp : U0.length = p) (hj : j < L) (hjp : j + (m + 3) ≤ p) (hN : N < 4294967296 ^ (m + 2)) {g : Nat} (hg : g < 4294967296) {X : Nat} (hX : X = nv ((U.drop j).take (m + 3))) (hgX : g = X / N)
    {U2 : List Nat} (hl : U2.length = p) (hw : Wd U2) (hs : ∀ i, i < j ∨ j + (m + 3) ≤ i → U2.getD i 0 = U.getD i 0) (hv : nv ((U2.drop j).take (m + 3)) = X % N) : DivAt U0 U2 (Q.set j g) N L p j := by
  obtain ⟨h1, h2⟩ := div_seg (U := U) (j := j) (m := m) (by have := h.lu; omega) h.lt hN
  have hz2 : ∀ i, j + (m + 3) ≤ i → U2.getD i 0 = 0 := fun i hi => by rw [hs i (.inr hi)]; exact h2 i hi
  have e2 := div_part (U := U2) (j := j) (m := m) hz2
  rw [hv] at e2
  have hNp : 0 < N := Nat.lt_of_le_of_lt (Nat.zero_le _) h.lt
  refine ⟨hl, hw, by rw [List.length_set]; exact h.lq, h.wq.set _ _ hg, ?_, by rw [e2]; exact Nat.mod_lt _ hNp, fun i hi => by rw [hs i (.inl hi)]; exact h.same i (by omega)⟩
  rw [e2, nv_drop_step (l := U0) (by omega), nv_drop_step (l := Q.set j g) (by rw [List.length_set]; have := h.lq; omega), getD_set_self (by have := h.lq; omega), List.drop_set_of_lt (by omega), hgX]
  refine long_step h.eq X ?_
  rw [hX, h1, h.same j (by omega)]
/-- What is left behind a digit that was one too great. -/
theorem give_end {S1 S2 b2 M R N : Nat} (h : S2 + b2 * M = S1 + N) (h1 : S1 + N = R + M) (hS2 : S2 < M) (hR : R < M) : S2 = R := by
  rcases Nat.lt_or_ge b2 2 with h2 | h2
  · rcases (by omega : b2 = 0 ∨ b2 = 1) with rfl | rfl <;> omega
  · have : 2 * M ≤ b2 * M := Nat.mul_le_mul_right _ h2
    omega
theorem seg_lt {U : List Nat} (h : Wd U) (j k : Nat) : nv ((U.drop j).take k) < 4294967296 ^ k := by
  refine Nat.lt_of_lt_of_le (nv_lt ((h.drop j).take k)) (Nat.pow_le_pow_right (by omega) ?_)
  rw [List.length_take]; omega
/-- The estimate at a round. -/
theorem DivAt.est {U0 U Q V : List Nat} {N L p j m : Nat} (h : DivAt U0 U Q N L p (j + 1)) (hjp : j + (m + 3) ≤ p) (hN : N < 4294967296 ^ (m + 2)) (hwV : Wd V) (hlV : m + 2 ≤ V.length) (hv : nv (V.take (m + 2)) = N) (ht : 2147483648 ≤ V.getD (m + 1) 0) :
    Est N (nv ((U.drop j).take (m + 3))) m (V.getD (m + 1) 0) (V.getD m 0) (U.getD (j + (m + 2)) 0) (U.getD (j + (m + 1)) 0) (U.getD (j + m) 0) := by
  have hlu := h.lu
  obtain ⟨h1, _⟩ := div_seg (U := U) (j := j) (m := m) (by omega) h.lt hN
  have h2 := Est.make (V := V.take (m + 2)) (S := (U.drop j).take (m + 3)) (m := m) (by rw [List.length_take]; omega) (hwV.take _) hv (by rw [List.length_take, List.length_drop]; omega) ((h.wu.drop j).take _) rfl (by rw [getD_take (by omega)]; exact ht) h1 h.lt (h.wu.getD j)
  rw [getD_take (by omega), getD_take (by omega), getD_take (by omega), getD_take (by omega), getD_take (by omega), getD_drop, getD_drop, getD_drop] at h2
  exact h2
theorem DivAt.start {U0 V : List Nat} {A N L p l1 m s : Nat} (hs : s < 32) (hA : A < 4294967296 ^ l1) (hU : nv U0 = A * 2 ^ s) (hp : U0.length = l1 + 1) (hp2 : p = l1 + 1) (hL : L + (m + 2) = l1 + 1) (hw : Wd U0) (hwV : Wd V) (hlV : m + 2 ≤ V.length) (hv : nv (V.take (m + 2)) = N) (ht : 2147483648 ≤ V.getD (m + 1) 0) : DivAt U0 U0 (List.replicate L 0) N L p L := by
  refine ⟨by omega, hw, by simp, Wd.zeros _, by rw [nv_drop_all (l := List.replicate L 0) (by simp)]; simp, first_part hs hA hU hp hL ?_, fun _ _ => rfl⟩
  obtain ⟨_, h2, _⟩ := top_word (hwV.take (m + 2)) (m := m + 1) (by rw [List.length_take]; omega)
  rw [getD_take (by omega), hv] at h2
  exact Nat.le_trans (Nat.mul_le_mul_right _ ht) h2
theorem DivAt.done {U0 U Q : List Nat} {A B N L p s : Nat} (h : DivAt U0 U Q N L p 0) (hU : nv U0 = A * 2 ^ s) (hN : N = B * 2 ^ s) : A / B = nv Q ∧ nv U / 2 ^ s = A % B := by
  have h1 := h.eq
  have h2 := h.lt
  simp only [List.drop_zero] at h1 h2
  rw [hU, hN] at h1
  rw [hN] at h2
  exact shift_div h1 h2
end Go.Proofs.YtpaedhlacbpmpaaGreatDoor

/-
  Walk: natural.Div by a divisor of two words or more.
-/
namespace Go.Proofs.YtpaedhlacbpmpaaGreatDoor
open Go.RowKit

set_option maxRecDepth 100000 in
set_option maxHeartbeats 8000000 in
theorem ndiv_long (va vb : Value) (xs ys : List Nat) (m : Nat) (w : World) (ha : WdsAt w va xs) (hb : WdsAt w vb ys) (hla : xs.length ≤ 274877906944) (hm : (nw (nv ys)).length = m + 2) (hle : nv ys ≤ nv xs) :
    Calls Tryz.prog 108 #[va, vb] w fun e w' => (∃ v1 v2, e = .returned (.tuple #[v1, v2, .nilIface]) ∧ WdsAt w' v1 (nw (nv xs / nv ys)) ∧ WdsAt w' v2 (nw (nv xs % nv ys))) ∧ Kept w w' := by
  have HTA := Lib.hid (fun W (hk : Kept w W) => ntrim_any va xs W (ha.kept hk))
  have HTB := Lib.hid (fun W (hk : Kept w W) => ntrim_any vb ys W (hb.kept hk))
  obtain ⟨a0, c0, rfl⟩ := ha.shape
  obtain ⟨a1, c1, rfl⟩ := hb.shape
  obtain ⟨l1, hl1⟩ : ∃ l1, l1 = (nw (nv xs)).length := ⟨_, rfl⟩
  have hl19 : l1 ≤ 274877906944 := by
    rw [hl1]
    exact Nat.le_trans (nw_len_lt.2 (nv_lt ha.wd)) hla
  have hl1m : m + 2 ≤ l1 := by
    rcases Nat.lt_or_ge l1 (m + 2) with h | h
    · have := nw_lt_len (m := nv xs) (n := nv ys) (by omega)
      omega
    · exact h
  obtain ⟨A, hA⟩ : ∃ A, A = nv xs := ⟨_, rfl⟩
  obtain ⟨B, hB⟩ : ∃ B, B = nv ys := ⟨_, rfl⟩
  rw [← hA] at HTA hl1 hle ⊢
  rw [← hB] at HTB hm hle ⊢
  obtain ⟨l2, hl2⟩ : ∃ l2, l2 = m + 2 := ⟨_, rfl⟩
  obtain ⟨m1, hm1⟩ : ∃ m1, m1 = m + 1 := ⟨_, rfl⟩
  obtain ⟨L, hL⟩ : ∃ L, L + (m + 2) = l1 + 1 := ⟨l1 + 1 - (m + 2), by omega⟩
  obtain ⟨x, hx⟩ : ∃ x, x = (nw B).getD m1 0 := ⟨_, rfl⟩
  have hx9 : x < 4294967296 := by rw [hx]; exact (nw_wd B).getD _
  have hx0 : x ≠ 0 := by
    have h := nw_pl B
    have hne : nw B ≠ [] := fun e => by rw [e] at hm; simp at hm
    have h2 := h hne
    rw [List.getLast_eq_getElem] at h2
    rw [hx, List.getD_eq_getElem?_getD, hm1, show m + 1 = (nw B).length - 1 by omega, List.getElem?_eq_getElem (by omega)]
    exact h2
  obtain ⟨s, hs, hs32, hxs1, hxs2⟩ := lead_word hx9 hx0
  have HLZ : Hid (∀ W : World, Calls Tryz.prog 133 #[.int .u32 (x : Int)] W fun e w' => e = .returned (.int .i64 (s : Int)) ∧ w' = W) := Lib.hid fun W => by
    have h := Tryz.bits_LeadingZeros32 (x : Int) W (by omega) (by omega)
    simp only [Int.toNat_natCast, hs] at h
    exact h
  have hcm : ¬ cmpN A B < 0 := by
    rcases Nat.lt_or_ge B A with h | h
    · rw [cmpN_gt h]; omega
    · rw [cmpN_eq (by omega)]; omega
  obtain ⟨cm, hcm2⟩ : ∃ cm, cm = cmpN A B := ⟨_, rfl⟩
  rw [← hcm2] at hcm
  have HCM := Lib.hid hcm2
  have HM := Lib.hid hm
  have HL1 := Lib.hid hl1
  have HX := Lib.hid hx
  have HXS := Lib.hid (And.intro hxs1 hxs2)
  have HLE := Lib.hid hle
  have HLL := Lib.hid hL
  have HL2 := Lib.hid hl2
  have HM1 := Lib.hid hm1
  have e21 : (l2 : Int) - 1 = (m1 : Int) := by omega
  have e20 : (l2 : Int) - 2 = (m : Int) := by omega
  have hb21 : m1 < l2 := by omega
  have hb20 : m < l2 := by omega
  have hl2n0 : ((l2 : Int) == 0) = false := by simp; omega
  have hl2n1 : ((l2 : Int) == 1) = false := by simp; omega
  obtain ⟨p1, hp1⟩ : ∃ p1, p1 = l1 + 1 := ⟨_, rfl⟩
  obtain ⟨p2, hp2⟩ : ∃ p2, p2 = l2 + 1 := ⟨_, rfl⟩
  have eL : (p1 : Int) - (l2 : Int) = (L : Int) := by omega
  have hp19 : p1 ≤ 274877906945 := by omega
  have hL9 : L ≤ 274877906945 := by omega
  have hp29 : p2 ≤ 274877906945 := by omega
  have hl29 : l2 ≤ 274877906944 := by omega
  have hl2p : l2 ≤ p2 := by omega
  have HP1 := Lib.hid hp1
  have HP2 := Lib.hid hp2
  generalize hg0 : xs.length = n0 at *
  generalize hg1 : ys.length = n1 at *
  clear hg0 hg1 ha hb hl1 hl1m hA hB hl2 hm1 hL hx hx0 hs hxs1 hxs2 hcm2 hm hle hla hp1 hp2
  go_enter Tryz.func108, Tryz.ntmps108
  go_wp2_with fail
  refine (HTA.out _ (Kept.refl _)).mono ?_
  rintro e w1 ⟨⟨v1, rfl, hv1⟩, hk1⟩
  go_wp2_with fail
  refine (HTB.out _ hk1).mono ?_
  rintro e w2 ⟨⟨v2, rfl, hv2⟩, hk2⟩
  have hv1' := hv1.kept hk2
  have HK2 := Lib.hid (hk1.trans hk2)
  obtain ⟨a2, c2, rfl⟩ := hv1'.shape
  obtain ⟨a3, c3, rfl⟩ := hv2.shape
  rw [HM.out, ← HL2.out] at hv2 ⊢
  rw [← HL1.out] at hv1' ⊢
  have H1 := Lib.hid hv1'
  have H2 := Lib.hid hv2
  clear hv1 hv1' hv2 hk1 hk2
  obtain ⟨b3, o3, rfl, hc3⟩ := H2.out.get m1 (by rw [HM.out, HM1.out]; omega)
  rw [← HX.out] at hc3
  go_wp2_with fail
  refine (ncmp_any _ _ _ _ _ H1.out H2.out).mono ?_
  rintro e w3 ⟨rfl, hk3⟩
  rw [nv_nw, nv_nw, ← HCM.out]
  have hc3' := hk3.cell hc3
  have HK3 := Lib.hid hk3
  clear hc3 hk3
  go_wp2_with fail
  refine (HLZ.out _).mono ?_
  rintro e w4 ⟨rfl, rfl⟩
  go_wp2_with fail
  refine (left_row _ _ s _ (H2.out.kept HK3.out) hs32 (by rw [HM.out]; omega)).mono ?_
  rintro e w5 ⟨⟨gv, V, rfl, hgv, hrv, hlv, hwv, hvv⟩, hk5⟩
  rw [HM.out, ← HL2.out, ← HP2.out]
  go_wp2_with fail
  refine (left_row _ _ s _ ((H1.out.kept HK3.out).kept hk5) hs32 (by rw [← HL1.out]; omega)).mono ?_
  rintro e w6 ⟨⟨gu, U0, rfl, hgu, hru, hlu, hwu, hvu⟩, hk6⟩
  rw [← HL1.out, ← HP1.out]
  have HGVU := Lib.hid (Nat.lt_of_lt_of_le hrv.lt hgu)
  have HGV := Lib.hid hgv
  have HRV := Lib.hid (hrv.kept hk6)
  have HRU := Lib.hid hru
  have HK6 := Lib.hid (hk5.trans hk6)
  have HV := Lib.hid (And.intro hlv (And.intro hwv hvv))
  have HU := Lib.hid (And.intro hlu (And.intro hwu hvu))
  clear hgv hgu hrv hru hk5 hk6 hlv hwv hvv hlu hwu hvu
  obtain ⟨N, hN⟩ : ∃ N, N = B * 2 ^ s := ⟨_, rfl⟩
  have HN := Lib.hid hN
  clear hN
  have HSH : Hid (nv (V.take (m + 2)) = N ∧ 2147483648 ≤ V.getD (m + 1) 0 ∧ N < 4294967296 ^ (m + 2)) := Lib.hid (by
    have h := shifted (bs := nw B) (V := V) (m := m) hs32 HM.out (by rw [HV.out.1, HM.out]) HV.out.2.1 (nw_wd B) HV.out.2.2 (by rw [← HM1.out, ← HX.out]; exact HXS.out.1) (by rw [← HM1.out, ← HX.out]; exact HXS.out.2)
    rw [nv_nw, ← HN.out] at h
    exact h)
  have hlv1 : m1 < V.length := by rw [HV.out.1, HM.out, HM1.out]; omega
  have hct := wds_cell HRV.out m1 hlv1
  have hcn := wds_cell HRV.out m (by have := HM1.out; omega)
  have htw := HV.out.2.1.getD m1
  have hnw := HV.out.2.1.getD m
  obtain ⟨top, htop⟩ : ∃ top, top = V.getD m1 0 := ⟨_, rfl⟩
  obtain ⟨nxt, hnxt⟩ : ∃ nxt, nxt = V.getD m 0 := ⟨_, rfl⟩
  rw [← htop] at hct htw
  rw [← hnxt] at hcn hnw
  have htb : 2147483648 ≤ top := by rw [htop, HM1.out]; exact HSH.out.2.1
  have HTOP := Lib.hid htop
  have HNXT := Lib.hid hnxt
  clear htop hnxt hlv1
  go_wp2_with fail
  go_quiet (fail)
  go_wp2_with (refine make_one 36 34 (.int .u32 0) 4 info_u32 Tryz.underlying36 rfl rfl _ _ rfl L rfl rfl (by omega) (by unfold maxLen; omega) ?_; intro w7 hr7 hk7)
  have HR7 : Hid (RowAt w7 w6.heap.size 34 ((List.replicate L 0).map w32)) := Lib.hid (made_wds hr7)
  have HK7 : Hid (Kept w6 w7) := Lib.hid (((Kept.refl w6).drewN _).trans hk7)
  clear hr7 hk7
  have HKW : Hid (Kept w w7) := Lib.hid (((HK2.out.trans HK3.out).trans HK6.out).trans HK7.out)
  have hgw : w.heap.size ≤ gu := by
    have h2 := (HK2.out.trans HK3.out).size
    have h3 := HGV.out
    have h4 := HGVU.out
    omega
  have hgq : w.heap.size ≤ w6.heap.size := ((HK2.out.trans HK3.out).trans HK6.out).size
  have hgvu : gv ≠ gu := by have := HGVU.out; omega
  have hguq : gu ≠ w6.heap.size := by have := HRU.out.lt; omega
  have hgvq : gv ≠ w6.heap.size := by have := HRV.out.lt; omega
  have HGW := Lib.hid hgw
  have HGQ := Lib.hid hgq
  have HGVU := Lib.hid hgvu
  have HGUQ := Lib.hid hguq
  have HGVQ := Lib.hid hgvq
  have HST : Hid (DivAt U0 U0 (List.replicate L 0) N L p1 L) := Lib.hid (DivAt.start hs32 (A := A) (l1 := l1) (m := m) (V := V) (s := s) (by rw [HL1.out]; exact nw_len_lt.1 (Nat.le_refl _)) (by have := HU.out.2.2; rwa [nv_nw] at this) (by rw [HU.out.1, HL1.out]) HP1.out HLL.out HU.out.2.1 HV.out.2.1 (by rw [HV.out.1, HM.out]; omega) HSH.out.1 HSH.out.2.1)
  have HRU7 := Lib.hid (HRU.out.kept HK7.out)
  have HRV7 := Lib.hid (HRV.out.kept HK7.out)
  clear hc3' hct hcn hgw hgq hgvu hguq hgvq HRU HRV
  generalize w6.heap.size = gq at *
  go_loopg [14] L (fun kx s14 wr => ∃ (k : Nat) (U Q : List Nat), s14 = .int .i64 ((k : Int) - 1) ∧ k ≤ L ∧ k ≤ kx ∧ Hid (RowAt wr gu 34 (U.map w32)) ∧ Hid (RowAt wr gv 34 (V.map w32)) ∧ Hid (RowAt wr gq 34 (Q.map w32)) ∧ Hid (DivAt U0 U Q N L p1 k) ∧ Hid (Kept w wr))
  case atStart => exact ⟨L, U0, List.replicate L 0, rfl, Nat.le_refl _, Nat.le_refl _, HRU7, HRV7, HR7, HST, HKW⟩
  case round =>
    clear HRU7 HRV7 HR7 HST HKW HK7 HK6 HK3 HK2
    obtain ⟨wo, rfl⟩ : ∃ wo : World, wo = wr := ⟨_, rfl⟩
    obtain ⟨k, U, Q, rfl, hk, hkx, HRU, HRV, HRQ, HD, HK⟩ := hrel
    by_cases hk0 : k = 0
    · subst hk0
      have hdn := HD.out.done (A := A) (B := B) (s := s) (by have := HU.out.2.2; rwa [nv_nw] at this) HN.out
      have HDN := Lib.hid hdn
      have HQA : Hid (WdsAt wo (.slice (some ⟨gq, 0, none⟩) L L) Q) := Lib.hid (by
        have h := row_wds HRQ.out (c := L) (by rw [HD.out.lq]; exact Nat.le_refl _) (by rw [HD.out.lq]; omega) HD.out.wq
        rw [HD.out.lq] at h
        exact h)
      have HUA : Hid (WdsAt wo (.slice (some ⟨gu, 0, none⟩) p1 p1) U) := Lib.hid (by
        have h := row_wds HRU.out (c := p1) (by rw [HD.out.lu]; exact Nat.le_refl _) (by rw [HD.out.lu]; omega) HD.out.wu
        rw [HD.out.lu] at h
        exact h)
      clear hdn
      go_wp2_with fail
      refine (ntrim_any _ _ _ HQA.out).mono ?_
      rintro e w8 ⟨⟨v8, rfl, hv8⟩, hk8⟩
      go_wp2_with fail
      refine (right_any _ _ s _ (HUA.out.kept hk8) hs32).mono ?_
      rintro e w9 ⟨⟨v9, L9, rfl, hv9, hq9⟩, hk9⟩
      go_wp2_with fail
      refine (ntrim_any _ _ _ hv9).mono ?_
      rintro e w10 ⟨⟨v10, rfl, hv10⟩, hk10⟩
      have H8 := Lib.hid ((hv8.kept hk9).kept hk10)
      rw [hq9, HDN.out.2] at hv10
      have H10 := Lib.hid hv10
      have HK10 := Lib.hid ((hk8.trans hk9).trans hk10)
      clear hv8 hv9 hq9 hv10 hk8 hk9 hk10
      obtain ⟨a8, c8, rfl⟩ := H8.out.shape
      obtain ⟨a10, c10, rfl⟩ := H10.out.shape
      go_wp2
      go_ret3
      exact ⟨⟨_, _, rfl, by rw [HDN.out.1]; exact H8.out, H10.out⟩, HK.out.trans HK10.out⟩
    · obtain ⟨j, rfl⟩ : ∃ j, k = j + 1 := ⟨k - 1, by omega⟩
      have hml := HLL.out
      have hm2 := HL2.out
      have hm3 := HM1.out
      have hp1 := HP1.out
      have hp2 := HP2.out
      obtain ⟨i2, hi2⟩ : ∃ i2, i2 = j + l2 := ⟨_, rfl⟩
      obtain ⟨i1, hi1⟩ : ∃ i1, i1 = j + m1 := ⟨_, rfl⟩
      obtain ⟨i0, hi0⟩ : ∃ i0, i0 = j + m := ⟨_, rfl⟩
      obtain ⟨i3, hi3⟩ : ∃ i3, i3 = j + p2 := ⟨_, rfl⟩
      have hjp : j + (m + 3) ≤ p1 := by omega
      have hE := HD.out.est hjp HSH.out.2.2 HV.out.2.1 (by rw [HV.out.1, HM.out]; omega) HSH.out.1 HSH.out.2.1
      have hca := wds_cell HRU.out i2 (by rw [HD.out.lu]; omega)
      have hcb := wds_cell HRU.out i1 (by rw [HD.out.lu]; omega)
      have hcu := wds_cell HRU.out i0 (by rw [HD.out.lu]; omega)
      rw [← hm2, ← hm3, ← hi2, ← hi1, ← hi0, ← HTOP.out, ← HNXT.out] at hE
      obtain ⟨X, hX⟩ : ∃ X, X = nv ((U.drop j).take (m + 3)) := ⟨_, rfl⟩
      rw [← hX] at hE
      generalize U.getD i2 0 = a at *
      generalize U.getD i1 0 = b at *
      generalize U.getD i0 0 = u2 at *
      have ha9 := hE.a2
      have hb9 := hE.b2
      have hu9 := hE.u22
      have HE := Lib.hid hE
      have HXX := Lib.hid hX
      obtain ⟨hd, hhd⟩ : ∃ hd, hd = a * 4294967296 + b := ⟨_, rfl⟩
      have eor := or_word a b ha9 hb9
      rw [← hhd] at eor
      obtain ⟨hst1, hst2, hst3, hst4⟩ := EstAt.start hE hhd
      obtain ⟨g0, hg0⟩ : ∃ g0, g0 = hd / top := ⟨_, rfl⟩
      obtain ⟨r0, hr0⟩ : ∃ r0, r0 = hd % top := ⟨_, rfl⟩
      rw [← hg0, ← hr0] at hst1
      rw [← hr0] at hst2
      rw [← hg0] at hst3
      have eg0 : (hd : Int) / (top : Int) = (g0 : Int) := by rw [hg0]; simp
      have er0 : (hd : Int) % (top : Int) = (r0 : Int) := by rw [hr0]; simp
      have HS0 := Lib.hid hst1
      have HHD := Lib.hid hhd
      have ej : ((j + 1 : Nat) : Int) - 1 = (j : Int) := by omega
      have ei2 : (j : Int) + (l2 : Int) = (i2 : Int) := by omega
      have ei1 : (i2 : Int) - 1 = (i1 : Int) := by omega
      have ei0 : (i2 : Int) - 2 = (i0 : Int) := by omega
      have ei3 : (i2 : Int) + 1 = (i3 : Int) := by omega
      have e3j : i3 - j = p2 := by omega
      have hl3 : i3 ≤ p1 := by omega
      have hl2p : i2 < p1 := by omega
      have hl1p : i1 < p1 := by omega
      have hl0p : i0 < p1 := by omega
      have hji3 : j ≤ i3 := by omega
      have hjL : (j : Int) < (L : Int) := by omega
      have hjL2 : j < L := by omega
      have hj0 : (0 : Int) ≤ (j : Int) := by omega
      have htop0 : ((top : Int) == 0) = false := by simp; omega
      have HJP := Lib.hid hjp
      rw [ej]
      clear hE hX hhd hg0 hr0 hst1 ej hml hm2 hm3 hp1 hp2 hi2 hi1 hi0 hi3 hjp hk0
      go_wp2_with fail
      go_quiet (fail)
      rename Nat => nq1
      go_wp2_with fail
      go_quiet (fail)
      go_upto_block 2 with fail
      obtain ⟨wd, hwd⟩ : ∃ wd : World, Kept wo wd ∧ wd = (wo.drewN nq1).drewN nq := ⟨_, ((Kept.refl wo).drewN _).drewN _, rfl⟩
      rw [← hwd.2]
      have HKD := Lib.hid hwd.1
      have hcu' := hwd.1.cell hcu
      clear hwd hca hcb hcu eg0 eor ha9 hb9
      go_cut [16] (fun v16 wx => ∃ g : Nat, v16 = .int .u64 g ∧ g < 4294967296 ∧ Hid (X / N ≤ g ∧ g ≤ X / N + 1) ∧ Hid (Kept wo wx))
      case first =>
        go_wp2_with fail
        go_loopg [16, 17] g0 (fun kx s16 s17 wr => ∃ (g r : Nat), s16 = .int .u64 g ∧ s17 = .int .u64 r ∧ g ≤ kx ∧ g < 18446744073709551616 ∧ r < 4294967296 ∧ Hid (EstAt N X top hd g r) ∧ wd = wr)
        case atStart => exact ⟨g0, r0, rfl, by rw [er0], Nat.le_refl _, hst3, hst2, HS0, rfl⟩
        case round =>
          obtain ⟨g, r, rfl, rfl, hgk, hg9, hr9, HEA, rfl⟩ := hrel
          obtain ⟨r2, hr2⟩ : ∃ r2, r2 = r + top := ⟨_, rfl⟩
          obtain ⟨rs, hrs⟩ : ∃ rs, rs = r * 4294967296 + u2 := ⟨_, rfl⟩
          have er2 : (r : Int) + (top : Int) = (r2 : Int) := by omega
          have hr29 : r2 < 8589934592 := by omega
          by_cases hc : 4294967296 ≤ g ∨ rs < g * nxt
          · obtain ⟨g', hg', hea⟩ := EstAt.next HE.out HHD.out HEA.out (by rw [← hrs]; exact hc)
            rw [← hr2] at hea
            have HEB := Lib.hid hea
            have eg : (g : Int) - 1 = (g' : Int) := by omega
            have hg19 : g' < 18446744073709551616 := by omega
            have hgm : g' < g := by omega
            have hg1 : (1 : Int) ≤ (g : Int) := by omega
            have hgp : g = g' + 1 := hg'
            have HGP := Lib.hid hgp
            clear hgp
            by_cases hbr : 4294967296 ≤ r2
            · have HGD := Lib.hid (EstAt.good HE.out HHD.out hea (.inr hbr))
              have hgw9 : g' < 4294967296 := HGD.out.1
              have hbr' : (4294967296 : Int) ≤ (r2 : Int) := by omega
              clear hea hg' hr2
              by_cases hc1 : 4294967296 ≤ g
              · have hc1' : (4294967296 : Int) ≤ (g : Int) := by omega
                clear hc hrs
                go_wp2_with fail
                go_meet
                exact ⟨g', rfl, hgw9, Lib.hid HGD.out.2, HKD⟩
              · have hc1' : (g : Int) < 4294967296 := by omega
                have hc2 := hc.resolve_left hc1
                obtain ⟨gn, hgn⟩ : ∃ gn, gn = g * nxt := ⟨_, rfl⟩
                have egn : (g : Int) * (nxt : Int) = (gn : Int) := by rw [hgn]; simp
                have hgn9 : gn < 18446744073709551616 := by
                  have : g * nxt ≤ 4294967295 * 4294967295 := Nat.mul_le_mul (by omega) (by omega)
                  omega
                rw [← hgn] at hc2
                have hb2 : decide (rs < gn) = true := by simpa using hc2
                have hb1 : decide ((4294967296 : Int) ≤ (g : Int)) = false := by simp; omega
                have eors := or_word r u2 hr9 hu9
                rw [← hrs] at eors
                have hc1'' : g < 4294967296 := by omega
                clear hc hrs hgn hc1 hc2
                go_upto_block 3 with fail
                clear egn hgn9 hb1 hb2 eors hc1'' hc1'
                go_wp2_with fail
                go_meet
                exact ⟨g', rfl, hgw9, Lib.hid HGD.out.2, HKD⟩
            · have hb3 : decide ((4294967296 : Int) ≤ (r2 : Int)) = false := by simp; omega
              have hr2b : r2 < 4294967296 := by omega
              clear hea hg' hr2 hbr
              by_cases hc1 : 4294967296 ≤ g
              · have hc1' : (4294967296 : Int) ≤ (g : Int) := by omega
                clear hc hrs
                go_wp2_with fail
                go_roundg g'
                case measure => omega
                case rel => exact ⟨g', r2, rfl, rfl, Nat.le_refl _, hg19, hr2b, HEB, rfl⟩
              · have hc1' : (g : Int) < 4294967296 := by omega
                have hc2 := hc.resolve_left hc1
                obtain ⟨gn, hgn⟩ : ∃ gn, gn = g * nxt := ⟨_, rfl⟩
                have egn : (g : Int) * (nxt : Int) = (gn : Int) := by rw [hgn]; simp
                have hgn9 : gn < 18446744073709551616 := by
                  have : g * nxt ≤ 4294967295 * 4294967295 := Nat.mul_le_mul (by omega) (by omega)
                  omega
                rw [← hgn] at hc2
                have hb2 : decide (rs < gn) = true := by simpa using hc2
                have hb1 : decide ((4294967296 : Int) ≤ (g : Int)) = false := by simp; omega
                have eors := or_word r u2 hr9 hu9
                rw [← hrs] at eors
                have hc1'' : g < 4294967296 := by omega
                clear hc hrs hgn hc1 hc2
                go_upto_block 3 with fail
                clear egn hgn9 hb1 hb2 eors hc1'' hc1'
                go_wp2_with fail
                go_roundg g'
                case measure => omega
                case rel => exact ⟨g', r2, rfl, rfl, Nat.le_refl _, hg19, hr2b, HEB, rfl⟩
          · have hc1 : g < 4294967296 := by omega
            have hc1' : (g : Int) < 4294967296 := by omega
            have hc2 : g * nxt ≤ rs := by omega
            have HGD := Lib.hid (EstAt.good HE.out HHD.out HEA.out (.inl ⟨hc1, by rw [← hrs]; exact hc2⟩))
            obtain ⟨gn, hgn⟩ : ∃ gn, gn = g * nxt := ⟨_, rfl⟩
            have egn : (g : Int) * (nxt : Int) = (gn : Int) := by rw [hgn]; simp
            have hgn9 : gn < 18446744073709551616 := by
              have : g * nxt ≤ 4294967295 * 4294967295 := Nat.mul_le_mul (by omega) (by omega)
              omega
            rw [← hgn] at hc2
            have hb2 : decide (rs < gn) = false := by simp; omega
            have hb1 : decide ((4294967296 : Int) ≤ (g : Int)) = false := by simp; omega
            have eors := or_word r u2 hr9 hu9
            rw [← hrs] at eors
            clear hc hrs hgn hr2
            go_wp2_with fail
            go_meet
            exact ⟨g, rfl, hc1, Lib.hid HGD.out.2, HKD⟩
      case rest =>
        obtain ⟨g, rfl, hg9, HG, HKC⟩ := hcut
        have HRUc := Lib.hid (HRU.out.kept HKC.out)
        have HRVc := Lib.hid (HRV.out.kept HKC.out)
        have HRQc := Lib.hid (HRQ.out.kept HKC.out)
        clear hcu' HKD HS0 hst2 hst3 hst4 HRU HRV HRQ
        go_wp2_with fail
        refine (take_any gu gv j l2 p2 (p1 - j) p2 g U V wc HRUc.out HRVc.out HGVU.out HD.out.wu HV.out.2.1 HP2.out (by rw [HD.out.lu]; have := HJP.out; have := HL2.out; have := HP2.out; omega) (by rw [HV.out.1, HM.out, HL2.out]; omega) (by omega) (by omega) hg9 (by have := HJP.out; have := HL2.out; have := HP2.out; omega)).mono ?_
        rintro e w8 ⟨⟨b8, U8, rfl, hb8, hr8, hw8, hl8, hs8, he8⟩, ho8⟩
        have hq3 : p2 = m + 3 := by rw [HP2.out, HL2.out]
        have HP3 := Lib.hid hq3
        rw [HP3.out, HL2.out, HSH.out.1, ← HXX.out] at he8
        rw [HP3.out] at hs8
        have hNM : N < 4294967296 ^ (m + 3) := Nat.lt_trans HSH.out.2.2 (Nat.pow_lt_pow_right (by omega) (by omega))
        have HNM := Lib.hid hNM
        have hde := digit_end HE.out.pos he8 (seg_lt hw8 j (m + 3)) (Nat.le_of_lt hNM) hb8 HG.out.1 HG.out.2
        have HDE := Lib.hid hde
        have HR8 := Lib.hid hr8
        have HW8 := Lib.hid (And.intro hw8 hl8)
        have HS8 := Lib.hid hs8
        have HV8 := Lib.hid (ho8.row HRVc.out HGVU.out)
        have HQ8 := Lib.hid (ho8.row HRQc.out (fun h => HGUQ.out h.symm))
        have HK8 := Lib.hid (ho8.toKept (HK.out.trans HKC.out) HGW.out)
        clear hr8 hw8 hl8 hs8 he8 ho8 hq3 hNM hde
        have hjQ : j < Q.length := by rw [HD.out.lq]; exact hjL2
        rcases (by omega : b8 = 0 ∨ b8 = 1) with rfl | rfl
        · obtain ⟨hg1, hv8⟩ := HDE.out.1 rfl
          have HNX := Lib.hid (HD.out.step (by rw [HU.out.1, HP1.out, HL1.out]) hjL2 HJP.out HSH.out.2.2 hg9 HXX.out hg1 (by rw [HW8.out.2]; exact HD.out.lu) HW8.out.1 HS8.out hv8)
          have f := HQ8.out.free j
          have hst := wds_cell HQ8.out j hjQ
          have e5 : IntKind.u32.wrap (g : Int) = (g : Int) := by rw [IntKind.wrap_u32]; omega
          clear hg1 hv8 hb8 hjQ
          go_wp2
          go_roundg j
          case measure => omega
          case rel => exact ⟨j, U8, Q.set j g, rfl, by omega, Nat.le_refl _, Lib.hid (((OnlyAt.refl gq w8).store j _).row HR8.out HGUQ.out), Lib.hid (((OnlyAt.refl gq w8).store j _).row HV8.out HGVQ.out), Lib.hid (wds_store HQ8.out j g), HNX, Lib.hid (HK8.out.store HGQ.out j _)⟩
        · obtain ⟨hg1, hv8⟩ := HDE.out.2 rfl
          obtain ⟨g1, hg2⟩ : ∃ g1, g1 = X / N := ⟨_, rfl⟩
          rw [← hg2] at hg1
          have hg19 : g1 < 4294967296 := by omega
          have eg1 : (g : Int) - 1 = (g1 : Int) := by omega
          have hgge : (1 : Int) ≤ (g : Int) := by omega
          have HG2 := Lib.hid hg2
          have HV9 := Lib.hid hv8
          clear hg1 hg2 hv8 hb8
          go_wp2_with fail
          refine (give_any gu gv j l2 p2 (p1 - j) p2 U8 V w8 HR8.out HV8.out HGVU.out HW8.out.1 HV.out.2.1 HP2.out (by rw [HW8.out.2, HD.out.lu]; have := HJP.out; have := HL2.out; have := HP2.out; omega) (by rw [HV.out.1, HM.out, HL2.out]; omega) (by omega) (by omega)).mono ?_
          rintro e w9 ⟨⟨b9, U9, rfl, hr9, hw9, hl9, hs9, he9⟩, ho9⟩
          rw [HP3.out, HL2.out, HSH.out.1] at he9
          rw [HP3.out] at hs9
          have hge := give_end he9 HV9.out (seg_lt hw9 j (m + 3)) (Nat.lt_trans (Nat.mod_lt _ HE.out.pos) HNM.out)
          have HNX := Lib.hid (HD.out.step (by rw [HU.out.1, HP1.out, HL1.out]) hjL2 HJP.out HSH.out.2.2 hg19 HXX.out HG2.out (by rw [hl9, HW8.out.2]; exact HD.out.lu) hw9 (fun i hi => (hs9 i hi).trans (HS8.out i hi)) hge)
          have HR9 := Lib.hid hr9
          have HVV9 := Lib.hid (ho9.row HV8.out HGVU.out)
          have HQ9 := Lib.hid (ho9.row HQ8.out (fun h => HGUQ.out h.symm))
          have HK9 := Lib.hid (ho9.toKept HK8.out HGW.out)
          have f := HQ9.out.free j
          have hst := wds_cell HQ9.out j hjQ
          have e5 : IntKind.u32.wrap (g1 : Int) = (g1 : Int) := by rw [IntKind.wrap_u32]; omega
          clear hr9 hw9 hl9 hs9 he9 ho9 hge hjQ
          go_wp2
          go_roundg j
          case measure => omega
          case rel => exact ⟨j, U9, Q.set j g1, rfl, by omega, Nat.le_refl _, Lib.hid (((OnlyAt.refl gq w9).store j _).row HR9.out HGUQ.out), Lib.hid (((OnlyAt.refl gq w9).store j _).row HVV9.out HGVQ.out), Lib.hid (wds_store HQ9.out j g1), HNX, Lib.hid (HK9.out.store HGQ.out j _)⟩
end Go.Proofs.YtpaedhlacbpmpaaGreatDoor

/-
  Walks: natural.Div, Gcd, Bits.
-/
namespace Go.Proofs.YtpaedhlacbpmpaaGreatDoor
open Go.RowKit

theorem nw_length_le {xs : List Nat} (h : Wd xs) : (nw (nv xs)).length ≤ xs.length := nw_len_lt.2 (nv_lt h)
set_option maxRecDepth 100000 in
set_option maxHeartbeats 4000000 in
theorem ndiv_less (va vb : Value) (xs ys : List Nat) (w : World) (ha : WdsAt w va xs) (hb : WdsAt w vb ys) (h0 : nv ys ≠ 0) (hlt : nv xs < nv ys) :
    Calls Tryz.prog 108 #[va, vb] w fun e w' => (∃ v1 v2, e = .returned (.tuple #[v1, v2, .nilIface]) ∧ WdsAt w' v1 (nw (nv xs / nv ys)) ∧ WdsAt w' v2 (nw (nv xs % nv ys))) ∧ Kept w w' := by
  have HTA := Lib.hid (fun W (hk : Kept w W) => ntrim_any va xs W (ha.kept hk))
  have HTB := Lib.hid (fun W (hk : Kept w W) => ntrim_any vb ys W (hb.kept hk))
  have HLB : Hid ((nw (nv ys)).length ≠ 0) := Lib.hid fun h => h0 (nw_eq_nil.1 (List.eq_nil_of_length_eq_zero h))
  obtain ⟨a0, c0, rfl⟩ := ha.shape
  obtain ⟨a1, c1, rfl⟩ := hb.shape
  have HQ : Hid (nv xs / nv ys = 0 ∧ nv xs % nv ys = nv xs) := Lib.hid ⟨Nat.div_eq_of_lt hlt, Nat.mod_eq_of_lt hlt⟩
  have HC : Hid (cmpN (nv xs) (nv ys) = -1) := Lib.hid (cmpN_lt hlt)
  generalize nv xs = A at *
  generalize nv ys = B at *
  generalize xs.length = n0 at *
  generalize ys.length = n1 at *
  clear ha hb h0 hlt
  go_enter Tryz.func108, Tryz.ntmps108
  go_wp2_with fail
  refine (HTA.out _ (Kept.refl _)).mono ?_
  rintro e w1 ⟨⟨v1, rfl, hv1⟩, hk1⟩
  go_wp2_with fail
  refine (HTB.out _ hk1).mono ?_
  rintro e w2 ⟨⟨v2, rfl, hv2⟩, hk2⟩
  have H1 := Lib.hid (hv1.kept hk2)
  have H2 := Lib.hid hv2
  have HK2 := Lib.hid (hk1.trans hk2)
  clear hv1 hv2 hk1 hk2
  obtain ⟨a2, c2, rfl⟩ := H1.out.shape
  obtain ⟨a3, c3, rfl⟩ := H2.out.shape
  obtain ⟨l2, hl2⟩ : ∃ l2, l2 = (nw B).length := ⟨_, rfl⟩
  have hn2 : ((l2 : Int) == 0) = false := by have := HLB.out; simp; omega
  have HH2 := Lib.hid hl2
  rw [← hl2]
  clear hl2
  go_wp2_with fail
  rw [HH2.out]
  refine (ncmp_any _ _ _ _ _ H1.out H2.out).mono ?_
  rintro e w3 ⟨rfl, hk3⟩
  rw [nv_nw, nv_nw, HC.out]
  have HK3 := Lib.hid hk3
  clear hk3 hn2
  obtain ⟨l1, hl1⟩ : ∃ l1, l1 = (nw A).length := ⟨_, rfl⟩
  have HH1 := Lib.hid hl1
  rw [← hl1]
  generalize (nw B).length = l3 at *
  clear hl1
  go_wp2
  go_ret3
  exact ⟨⟨_, _, rfl, by rw [HQ.out.1, nw_zero]; exact WdsAt.nil _, by rw [HQ.out.2, HH1.out]; exact H1.out.kept HK3.out⟩, HK2.out.trans HK3.out⟩
set_option maxRecDepth 100000 in
set_option maxHeartbeats 4000000 in
theorem ndiv_one (va vb : Value) (xs ys : List Nat) (w : World) (ha : WdsAt w va xs) (hb : WdsAt w vb ys) (h1 : (nw (nv ys)).length = 1) (hle : nv ys ≤ nv xs) :
    Calls Tryz.prog 108 #[va, vb] w fun e w' => (∃ v1 v2, e = .returned (.tuple #[v1, v2, .nilIface]) ∧ WdsAt w' v1 (nw (nv xs / nv ys)) ∧ WdsAt w' v2 (nw (nv xs % nv ys))) ∧ Kept w w' := by
  have HTA := Lib.hid (fun W (hk : Kept w W) => ntrim_any va xs W (ha.kept hk))
  have HTB := Lib.hid (fun W (hk : Kept w W) => ntrim_any vb ys W (hb.kept hk))
  obtain ⟨a0, c0, rfl⟩ := ha.shape
  obtain ⟨a1, c1, rfl⟩ := hb.shape
  obtain ⟨d, hd⟩ : ∃ d, d = (nw (nv ys)).getD 0 0 := ⟨_, rfl⟩
  have hdB : nv ys = d := by
    have h2 := nv_nw (nv ys)
    rw [hd]
    cases h3 : nw (nv ys) with
    | nil => rw [h3] at h1; simp at h1
    | cons x l =>
      rw [h3] at h1 h2
      have : l = [] := by cases l with
        | nil => rfl
        | cons _ _ => simp at h1
      subst this
      rw [← h2]; simp [nv]
  have hd9 : d < 4294967296 := by rw [hd]; exact (nw_wd _).getD _
  have hd0 : 0 < d := by
    rcases Nat.eq_zero_or_pos d with h | h
    · rw [hdB, h, nw_zero] at h1; simp at h1
    · exact h
  obtain ⟨c, hc⟩ : ∃ c, c = cmpN (nv xs) (nv ys) := ⟨_, rfl⟩
  have hcm : ¬ c < 0 := by
    rw [hc]
    rcases Nat.lt_or_ge (nv ys) (nv xs) with h | h
    · rw [cmpN_gt h]; omega
    · rw [cmpN_eq (by omega)]; omega
  have HD := Lib.hid hd
  have HDB := Lib.hid hdB
  have HH1 := Lib.hid h1
  have HC := Lib.hid hc
  generalize nv xs = A at *
  generalize nv ys = B at *
  generalize xs.length = n0 at *
  generalize ys.length = n1 at *
  obtain ⟨r, hr⟩ : ∃ r, r = A % d := ⟨_, rfl⟩
  have hr9 : r < 4294967296 := by have := Nat.mod_lt A hd0; omega
  have HR := Lib.hid hr
  clear ha hb hle hd hdB h1 hc hr
  go_enter Tryz.func108, Tryz.ntmps108
  go_wp2_with fail
  refine (HTA.out _ (Kept.refl _)).mono ?_
  rintro e w1 ⟨⟨v1, rfl, hv1⟩, hk1⟩
  go_wp2_with fail
  refine (HTB.out _ hk1).mono ?_
  rintro e w2 ⟨⟨v2, rfl, hv2⟩, hk2⟩
  have H1 := Lib.hid (hv1.kept hk2)
  have H2 := Lib.hid hv2
  have HK2 := Lib.hid (hk1.trans hk2)
  clear hv1 hv2 hk1 hk2
  obtain ⟨a2, c2, rfl⟩ := H1.out.shape
  obtain ⟨a3, c3, hv3⟩ := H2.out.shape
  rw [HH1.out] at hv3
  subst hv3
  obtain ⟨b3, o3, rfl, hc3⟩ := H2.out.get 0 (by rw [HH1.out]; omega)
  rw [← HD.out, Nat.add_zero] at hc3
  have HC3 := Lib.hid hc3
  clear hc3
  go_wp2_with fail
  refine (ncmp_any _ _ _ _ _ H1.out H2.out).mono ?_
  rintro e w3 ⟨rfl, hk3⟩
  rw [nv_nw, nv_nw, ← HC.out]
  have hc3 := hk3.cell HC3.out
  have HK3 := Lib.hid hk3
  have HSM := Lib.hid (small_any _ _ d _ (H1.out.kept hk3) hd0 hd9)
  clear hk3
  generalize (nw A).length = l1 at *
  go_wp2_with fail
  refine HSM.out.mono ?_
  rintro e w4 ⟨⟨v4, rfl, hv4⟩, hk4⟩
  rw [nv_nw] at hv4 ⊢
  rw [← HR.out]
  have H4 := Lib.hid hv4
  have HK4 := Lib.hid hk4
  clear hv4 hk4 hc3 hcm
  obtain ⟨a4, c4, rfl⟩ := H4.out.shape
  generalize (nw (A / d)).length = l4 at *
  go_wp2_with fail
  refine (nof_any r _ (by omega)).mono ?_
  rintro e w5 ⟨⟨v5, rfl, hv5⟩, hk5⟩
  have H5 := Lib.hid hv5
  have HK5 := Lib.hid hk5
  clear hv5 hk5
  obtain ⟨a5, c5, rfl⟩ := H5.out.shape
  go_wp2
  go_ret3
  exact ⟨⟨_, _, rfl, by rw [HDB.out]; exact H4.out.kept HK5.out, by rw [HDB.out, ← HR.out]; exact H5.out⟩, ((HK2.out.trans HK3.out).trans HK4.out).trans HK5.out⟩
/-- natural.Div by a number that is not 0. -/
theorem ndiv_any (va vb : Value) (xs ys : List Nat) (w : World) (ha : WdsAt w va xs) (hb : WdsAt w vb ys) (hla : xs.length ≤ 274877906944) (h0 : nv ys ≠ 0) :
    Calls Tryz.prog 108 #[va, vb] w fun e w' => (∃ v1 v2, e = .returned (.tuple #[v1, v2, .nilIface]) ∧ WdsAt w' v1 (nw (nv xs / nv ys)) ∧ WdsAt w' v2 (nw (nv xs % nv ys))) ∧ Kept w w' := by
  rcases Nat.lt_or_ge (nv xs) (nv ys) with h | h
  · exact ndiv_less va vb xs ys w ha hb h0 h
  · have hn : (nw (nv ys)).length ≠ 0 := fun h => h0 (nw_eq_nil.1 (List.eq_nil_of_length_eq_zero h))
    by_cases h1 : (nw (nv ys)).length = 1
    · exact ndiv_one va vb xs ys w ha hb h1 h
    · exact ndiv_long va vb xs ys ((nw (nv ys)).length - 2) w ha hb hla (by omega) h
end Go.Proofs.YtpaedhlacbpmpaaGreatDoor

/-
  Walks: natural.Gcd, Bits.
-/
namespace Go.Proofs.YtpaedhlacbpmpaaGreatDoor
open Go.RowKit

set_option maxRecDepth 100000 in
set_option maxHeartbeats 4000000 in
theorem ngcd_any (va vb : Value) (xs ys : List Nat) (w : World) (ha : WdsAt w va xs) (hb : WdsAt w vb ys) (hla : xs.length ≤ 274877906944) (hlb : ys.length ≤ 274877906944) :
    Calls Tryz.prog 102 #[va, vb] w fun e w' => (∃ v, e = .returned v ∧ WdsAt w' v (nw (Nat.gcd (nv xs) (nv ys)))) ∧ Kept w w' := by
  have HTA := Lib.hid (fun W (hk : Kept w W) => ntrim_any va xs W (ha.kept hk))
  have HTB := Lib.hid (fun W (hk : Kept w W) => ntrim_any vb ys W (hb.kept hk))
  obtain ⟨a0, c0, rfl⟩ := ha.shape
  obtain ⟨a1, c1, rfl⟩ := hb.shape
  have HLA : Hid ((nw (nv xs)).length ≤ 274877906944) := Lib.hid (Nat.le_trans (nw_length_le ha.wd) hla)
  have HLB : Hid ((nw (nv ys)).length ≤ 274877906944) := Lib.hid (Nat.le_trans (nw_length_le hb.wd) hlb)
  generalize nv xs = A at *
  generalize nv ys = B at *
  generalize xs.length = n0 at *
  generalize ys.length = n1 at *
  clear ha hb hla hlb
  go_enter Tryz.func102, Tryz.ntmps102
  go_wp2_with fail
  refine (HTA.out _ (Kept.refl _)).mono ?_
  rintro e w1 ⟨⟨v1, rfl, hv1⟩, hk1⟩
  go_wp2_with fail
  refine (HTB.out _ hk1).mono ?_
  rintro e w2 ⟨⟨v2, rfl, hv2⟩, hk2⟩
  have H1 := Lib.hid (hv1.kept hk2)
  have H2 := Lib.hid hv2
  have HK2 := Lib.hid (hk1.trans hk2)
  clear hv1 hv2 hk1 hk2
  go_wp2_with fail
  go_loopg [0, 1] B (fun kx s0 s1 wr => ∃ (m n : Nat), Hid (WdsAt wr s0 (nw m)) ∧ Hid (WdsAt wr s1 (nw n)) ∧ n ≤ kx ∧ Hid (Nat.gcd m n = Nat.gcd A B) ∧ Hid ((nw m).length ≤ 274877906944 ∧ (nw n).length ≤ 274877906944) ∧ Hid (Kept w wr))
  case atStart => exact ⟨A, B, H1, H2, Nat.le_refl _, Lib.hid rfl, Lib.hid ⟨HLA.out, HLB.out⟩, HK2⟩
  case round =>
    obtain ⟨m, n, HS0, HS1, hkx, HG, HL, HK⟩ := hrel
    obtain ⟨a2, c2, rfl⟩ := HS0.out.shape
    obtain ⟨a3, c3, rfl⟩ := HS1.out.shape
    by_cases hn : n = 0
    · have HR : Hid (nw m = nw (Nat.gcd A B)) := Lib.hid (by rw [← HG.out, hn, Nat.gcd_zero_right])
      have hl : (nw n).length = 0 := by rw [hn, nw_zero]; rfl
      rw [hl]
      clear hl hn
      generalize hlm : (nw m).length = lm at *
      have HLM := Lib.hid hlm
      clear hlm
      go_wp2
      go_ret
      exact ⟨⟨_, rfl, by rw [← HR.out, ← HLM.out] ; first | exact HS0.out | (rw [HLM.out]; exact HS0.out)⟩, HK.out⟩
    · have hl : (nw n).length ≠ 0 := fun h => hn (nw_eq_nil.1 (List.eq_nil_of_length_eq_zero h))
      have HDV := Lib.hid (ndiv_any _ _ _ _ _ HS0.out HS1.out HL.out.1 (by rw [nv_nw]; exact hn))
      obtain ⟨r, hr⟩ : ∃ r, r = m % n := ⟨_, rfl⟩
      have hrn : r < n := by rw [hr]; exact Nat.mod_lt _ (by omega)
      have HN : Hid (Nat.gcd n r = Nat.gcd A B) := Lib.hid (by rw [← HG.out, hr, Nat.gcd_comm n, ← Nat.gcd_rec, Nat.gcd_comm])
      have HLR : Hid ((nw n).length ≤ 274877906944 ∧ (nw r).length ≤ 274877906944) := Lib.hid ⟨HL.out.2, Nat.le_trans (nw_len_lt.2 (Nat.lt_trans hrn (nw_len_lt.1 (Nat.le_refl _)))) HL.out.2⟩
      have HR := Lib.hid hr
      obtain ⟨ln, hln⟩ : ∃ ln, ln = (nw n).length := ⟨_, rfl⟩
      have hlp : (0 : Int) < (ln : Int) := by omega
      have hlp2 : 0 < ln := by omega
      obtain ⟨lm, hlm⟩ : ∃ lm, lm = (nw m).length := ⟨_, rfl⟩
      rw [← hln, ← hlm] at HDV ⊢
      rw [← hln] at HS1
      clear hl hr hn hln hlm
      go_wp2_with fail
      refine HDV.out.mono ?_
      rintro e w3 ⟨⟨v3, v4, rfl, hv3, hv4⟩, hk3⟩
      rw [nv_nw, nv_nw, ← HR.out] at hv4
      have H4 := Lib.hid hv4
      have HS1' := Lib.hid (HS1.out.kept hk3)
      have HK3 := Lib.hid (HK.out.trans hk3)
      clear hv3 hv4 hk3
      go_wp2_with fail
      go_roundg r
      case measure => omega
      case rel => exact ⟨n, r, HS1', H4, Nat.le_refl _, HN, HLR, HK3⟩
set_option maxRecDepth 100000 in
set_option maxHeartbeats 2000000 in
theorem nbits_any (va : Value) (xs : List Nat) (w : World) (ha : WdsAt w va xs) :
    Calls Tryz.prog 107 #[va] w fun e w' => (∃ k : Nat, e = .returned (.int .i64 k) ∧ (k = 0 ↔ nv xs = 0)) ∧ w' = w := by
  have HA := Lib.hid ha
  obtain ⟨a0, c0, rfl⟩ := ha.shape
  obtain ⟨n, hn⟩ : ∃ n, n = xs.length := ⟨_, rfl⟩
  have hn9 : n ≤ 1099511627776 := by rw [hn]; exact ha.len
  rw [← hn] at HA ⊢
  have HN := Lib.hid hn
  clear ha hn
  go_enter Tryz.func107, Tryz.ntmps107
  go_wp2_with fail
  go_loopg [3] n (fun kx s3 wr => ∃ k : Nat, s3 = .int .i64 ((k : Int) - 1) ∧ k ≤ n ∧ k ≤ kx ∧ Hid (∀ i, k ≤ i → xs.getD i 0 = 0) ∧ w = wr)
  case atStart => exact ⟨n, rfl, Nat.le_refl _, Nat.le_refl _, Lib.hid (fun i hi => by have := HN.out; simp [List.getD_eq_getElem?_getD, show xs.length ≤ i by omega]), rfl⟩
  case round =>
    obtain ⟨k, rfl, hk, hkx, HZ, rfl⟩ := hrel
    by_cases hk0 : k = 0
    · subst hk0
      have HV : Hid (nv xs = 0) := Lib.hid (nv_of_zero xs fun i => HZ.out i (by omega))
      go_wp2
      go_ret
      exact ⟨⟨0, rfl, by simp [HV.out]⟩, rfl⟩
    · obtain ⟨j, rfl⟩ : ∃ j, k = j + 1 := ⟨k - 1, by omega⟩
      obtain ⟨b, o, rfl, hc⟩ := HA.out.get j (by have := HN.out; omega)
      have hx9 := HA.out.wd.getD j
      obtain ⟨x, hx⟩ : ∃ x, x = xs.getD j 0 := ⟨_, rfl⟩
      rw [← hx] at hc hx9
      have e1 : ((j + 1 : Nat) : Int) - 1 = (j : Int) := by omega
      have hj0 : (0 : Int) ≤ (j : Int) := by omega
      have hjn : (j : Int) < (n : Int) := by omega
      have HX := Lib.hid hx
      rw [e1]
      clear hx e1 hk0
      by_cases hx0 : x = 0
      · subst hx0
        go_wp2_with fail
        go_roundg j
        case measure => omega
        case rel => exact ⟨j, rfl, by omega, Nat.le_refl _, Lib.hid (fun i hi => by
          by_cases h : i = j
          · rw [h]; exact HX.out.symm
          · exact HZ.out i (by omega)), rfl⟩
      · obtain ⟨p, hp, _⟩ := bitLen_ge (x := x) (Nat.lt_of_lt_of_le hx9 (by omega)) hx0
        have hp32 : p + 1 ≤ 32 := by rw [← hp]; exact Lib.bitLen_le x 32 (by omega) (by rw [show (2 : Nat) ^ 32 = 4294967296 by rfl]; exact hx9)
        have HB : Hid (Calls Tryz.prog 132 #[.int .u32 (x : Int)] w fun e w' => e = .returned (.int .i64 ((p + 1 : Nat) : Int)) ∧ w' = w) := Lib.hid (by
          have h := Tryz.bits_Len32 (x : Int) w (by omega) (by omega)
          simp only [Int.toNat_natCast, hp] at h
          exact h)
        have hb : ((x : Int) == 0) = false := by simp; exact hx0
        have hb' : ((x : Int) != 0) = true := by simp; exact hx0
        have HNE : Hid (nv xs ≠ 0) := Lib.hid fun h => hx0 (by rw [HX.out]; exact nv_zero_of h j)
        obtain ⟨q, hq⟩ : ∃ q, q = p + 1 := ⟨_, rfl⟩
        rw [← hq] at HB hp32
        obtain ⟨t, ht⟩ : ∃ t, t = 32 * j := ⟨_, rfl⟩
        have et : 32 * (j : Int) = (t : Int) := by omega
        have ht9 : t ≤ 35184372088832 := by omega
        obtain ⟨z, hz⟩ : ∃ z, z = t + q := ⟨_, rfl⟩
        have ez : (t : Int) + (q : Int) = (z : Int) := by omega
        have hz9 : z ≤ 35184372088864 := by omega
        have HZ0 : Hid (z ≠ 0) := Lib.hid (by omega)
        clear hp hq ht hz hx0
        go_wp2_with (go_at_call 132; (with_reducible refine HB.out.mono ?_); rintro e w3 ⟨rfl, rfl⟩)
        go_ret
        exact ⟨⟨z, rfl, ⟨fun h => absurd h HZ0.out, fun h => absurd h HNE.out⟩⟩, rfl⟩
end Go.Proofs.YtpaedhlacbpmpaaGreatDoor

/-
  Walks: rational.one, plain, Valid, parts.
-/
namespace Go.Proofs.YtpaedhlacbpmpaaGreatDoor
open Go.RowKit

/-- A fraction that can be read. -/
def RatAt (w : World) (v : Value) (r : Rw) : Prop := ∃ u1 u2, v = .agg #[.bool r.neg, u1, u2] ∧ WdsAt w u1 r.num ∧ WdsAt w u2 r.den
theorem RatAt.kept {w w' : World} {v : Value} {r : Rw} (h : RatAt w v r) (hk : Kept w w') : RatAt w' v r := by
  obtain ⟨u1, u2, h1, h2, h3⟩ := h
  exact ⟨u1, u2, h1, h2.kept hk, h3.kept hk⟩
theorem RatAt.ok {w : World} {v : Value} {r : Rw} (h : RatAt w v r) : r.Ok := by obtain ⟨u1, u2, _, h2, h3⟩ := h; exact ⟨h2.wd, h3.wd⟩
/-- A fraction whose words are few. -/
def Rw.Short (r : Rw) (n : Nat) : Prop := r.num.length ≤ n ∧ r.den.length ≤ n
theorem RatAt.zero (w : World) : RatAt w (.agg #[.bool false, .slice none 0 0, .slice none 0 0]) ⟨false, [], []⟩ := ⟨_, _, rfl, WdsAt.nil w, WdsAt.nil w⟩
set_option maxRecDepth 100000 in
theorem rone_any (w : World) : Calls Tryz.prog 90 #[] w fun e w' => (∃ v, e = .returned v ∧ WdsAt w' v [1]) ∧ Kept w w' := by
  go_enter Tryz.func90, Tryz.ntmps90
  go_wp2
  go_ret
  exact ⟨⟨_, rfl, wds_new1 w 1 (by omega)⟩, (Kept.refl _).alloc _⟩
set_option maxRecDepth 100000 in
theorem rplain_any (v : Value) (xs : List Nat) (w : World) (hv : WdsAt w v xs) : Calls Tryz.prog 101 #[v] w fun e w' => e = .returned (.bool (plainW xs)) ∧ w' = w := by
  obtain ⟨a, c, rfl⟩ := hv.shape
  have hl := hv.len
  obtain ⟨n, hn⟩ : ∃ n, n = xs.length := ⟨_, rfl⟩
  rw [← hn] at hv hl ⊢
  by_cases h0 : n = 0
  · have hp : plainW xs = false := by unfold plainW; rw [← hn, h0]; rfl
    rw [hp]
    subst h0
    clear hv hn hp
    go_enter Tryz.func101, Tryz.ntmps101
    go_wp2
    go_ret
    exact ⟨rfl, rfl⟩
  · obtain ⟨m, hm⟩ : ∃ m, n = m + 1 := ⟨n - 1, by omega⟩
    obtain ⟨b, o, rfl, hc⟩ := hv.get m (by omega)
    obtain ⟨x, hx⟩ : ∃ x, x = xs.getD m 0 := ⟨_, rfl⟩
    have hp : plainW xs = !((x : Int) == 0) := by
      unfold plainW
      rw [← hn, hm, Nat.add_sub_cancel, ← hx]
      by_cases h : x = 0
      · simp [h]
      · have : ((x : Int) == 0) = false := by simp; exact h
        simp [h, this]
    rw [hp]
    rw [← hx] at hc
    have e1 : (n : Int) - 1 = (m : Int) := by omega
    have hp0 : (0 : Int) < (n : Int) := by omega
    have hp1 : 0 < n := by omega
    have hmn : m < n := by omega
    have hmn' : (m : Int) < (n : Int) := by omega
    obtain ⟨bx, hbx⟩ : ∃ bx, ((x : Int) == 0) = bx := ⟨_, rfl⟩
    rw [hbx]
    clear hv hn hp hx hm h0
    cases bx with
    | true =>
      have hbn : ((x : Int) != 0) = false := by simp [bne, hbx]
      go_enter Tryz.func101, Tryz.ntmps101
      go_wp2
      go_ret
      exact ⟨by first | rfl | simp, rfl⟩
    | false =>
      have hbn : ((x : Int) != 0) = true := by simp [bne, hbx]
      go_enter Tryz.func101, Tryz.ntmps101
      go_wp2
      go_ret
      exact ⟨by first | rfl | simp, rfl⟩
theorem cmp_one (g : Nat) : (cmpN g 1 == 0) = (g == 1) := by
  rcases Nat.lt_trichotomy g 1 with h | h | h
  · rw [cmpN_lt h]
    have : (g == 1) = false := by simp; omega
    rw [this]; rfl
  · rw [cmpN_eq h]
    simp [h]
  · rw [cmpN_gt h]
    have : (g == 1) = false := by simp; omega
    rw [this]; rfl
set_option maxRecDepth 100000 in
set_option maxHeartbeats 4000000 in
theorem ratvalid_any (v : Value) (r : Rw) (w : World) (hv : RatAt w v r) (hs : r.Short 274877906944) : Calls Tryz.prog 63 #[v] w fun e w' => e = .returned (.bool (validR r)) ∧ Kept w w' := by
  obtain ⟨neg, num, den⟩ := r
  obtain ⟨u1, u2, rfl, h1, h2⟩ := hv
  obtain ⟨hs1, hs2⟩ := hs
  simp only at h1 h2 hs1 hs2
  obtain ⟨a1, c1, rfl⟩ := h1.shape
  obtain ⟨a2, c2, rfl⟩ := h2.shape
  obtain ⟨n1, hn1⟩ : ∃ n1, n1 = num.length := ⟨_, rfl⟩
  obtain ⟨n2, hn2⟩ : ∃ n2, n2 = den.length := ⟨_, rfl⟩
  rw [← hn1] at h1 ⊢
  rw [← hn2] at h2 ⊢
  have HR := Lib.hid (RowAt.made w #[.bool neg, .slice a1 n1 c1, .slice a2 n2 c2] 38)
  have HK0 : Hid (Kept w (w.alloc (.cells #[.bool neg, .slice a1 n1 c1, .slice a2 n2 c2] 38))) := Lib.hid ((Kept.refl w).alloc _)
  have H1 := Lib.hid h1
  have H2 := Lib.hid h2
  by_cases he : num = [] ∧ den = []
  · have hV : validR ⟨neg, num, den⟩ = !neg := by unfold validR; rw [if_pos he]
    have e1 : n1 = 0 := by rw [hn1, he.1]; rfl
    have e2 : n2 = 0 := by rw [hn2, he.2]; rfl
    rw [hV]
    subst e1 e2
    clear h1 h2 hn1 hn2 hV he HR
    go_enter Tryz.func63, Tryz.ntmps63
    go_wp2
    go_ret
    exact ⟨rfl, HK0.out⟩
  · have hV : validR ⟨neg, num, den⟩ = (plainW num && plainW den && (Nat.gcd (nv num) (nv den) == 1)) := by unfold validR; rw [if_neg he]
    rw [hV]
    have HP1 := Lib.hid (fun W (hk : Kept w W) => rplain_any _ num W (h1.kept hk))
    have HP2 := Lib.hid (fun W (hk : Kept w W) => rplain_any _ den W (h2.kept hk))
    have HGC := Lib.hid (fun W (hk : Kept w W) => ngcd_any _ _ num den W (h1.kept hk) (h2.kept hk) hs1 hs2)
    generalize plainW den = p2 at *
    obtain ⟨p1, hp1⟩ : ∃ p1, p1 = plainW num := ⟨_, rfl⟩
    rw [← hp1] at HP1 ⊢
    have hc : (n1 ≠ 0) ∨ (n1 = 0 ∧ n2 ≠ 0 ∧ p1 = false) := by
      by_cases h : n1 = 0
      · refine .inr ⟨h, fun h3 => he ⟨List.eq_nil_of_length_eq_zero (hn1.symm.trans h), List.eq_nil_of_length_eq_zero (hn2.symm.trans h3)⟩, ?_⟩
        rw [hp1, List.eq_nil_of_length_eq_zero (hn1.symm.trans h)]; rfl
      · exact .inl h
    generalize Nat.gcd (nv num) (nv den) = g at *
    have HG1 : Hid (∀ W v1 v2, WdsAt W v1 (nw g) → WdsAt W v2 [1] → Calls Tryz.prog 70 #[v1, v2] W fun e w' => e = .returned (.int .i64 (cmpN g 1)) ∧ Kept W w') := Lib.hid fun W v1 v2 k1 k2 => by
      have h := ncmp_any v1 v2 _ _ W k1 k2
      rw [nv_nw] at h
      exact h
    obtain ⟨bg, hbg⟩ : ∃ bg, (g == 1) = bg := ⟨_, rfl⟩
    have hcm := cmp_one g
    rw [hbg] at hcm ⊢
    obtain ⟨cg, hcg⟩ : ∃ cg, cg = cmpN g 1 := ⟨_, rfl⟩
    rw [← hcg] at hcm HG1
    clear h1 h2 hn1 hn2 hV he hp1 hbg hcg hs1 hs2
    rcases hc with hc | ⟨hc, hc2, rfl⟩
    · have hb1 : ((n1 : Int) == 0) = false := by simp; exact hc
      clear hc
      cases p1 with
      | false =>
        go_enter Tryz.func63, Tryz.ntmps63
        go_wp2_with (go_at_call 101; (with_reducible refine (HP1.out _ HK0.out).mono ?_); rintro e w2 ⟨rfl, rfl⟩)
        go_ret
        exact ⟨by simp, HK0.out⟩
      | true =>
        cases p2 with
        | false =>
          go_enter Tryz.func63, Tryz.ntmps63
          go_wp2_with (first | (go_at_call 101; (with_reducible refine (HP1.out _ HK0.out).mono ?_); rintro e w2 ⟨rfl, rfl⟩) | (go_at_call 101; (with_reducible refine (HP2.out _ HK0.out).mono ?_); rintro e w2 ⟨rfl, rfl⟩))
          go_ret
          exact ⟨by simp, HK0.out⟩
        | true =>
          go_enter Tryz.func63, Tryz.ntmps63
          go_wp2_with (first
            | (go_at_call 101; (with_reducible refine (HP1.out _ HK0.out).mono ?_); rintro e w2 ⟨rfl, rfl⟩)
            | (go_at_call 101; (with_reducible refine (HP2.out _ HK0.out).mono ?_); rintro e w2 ⟨rfl, rfl⟩)
            | (go_at_call 102; (with_reducible refine (HGC.out _ HK0.out).mono ?_); rintro e w2 ⟨⟨vg, rfl, hvg⟩, hk2⟩; have HVG := Lib.hid hvg; have HK2 := Lib.hid (HK0.out.trans hk2); clear hvg hk2)
            | (go_at_call 90; (with_reducible refine (rone_any _).mono ?_); rintro e w3 ⟨⟨vo, rfl, hvo⟩, hk3⟩; have HVG3 := Lib.hid (HVG.out.kept hk3); have HVO := Lib.hid hvo; have HK3 := Lib.hid (HK2.out.trans hk3); clear hvo hk3)
            | (go_at_call 70; (with_reducible refine (HG1.out _ _ _ HVG3.out HVO.out).mono ?_); rintro e w4 ⟨rfl, hk4⟩; have HK4 := Lib.hid (HK3.out.trans hk4); clear hk4))
          go_ret
          exact ⟨by simp, HK4.out⟩
    · have hb1 : ((n2 : Int) == 0) = false := by simp; exact hc2
      subst hc
      clear hc2
      go_enter Tryz.func63, Tryz.ntmps63
      go_wp2_with (go_at_call 101; (with_reducible refine (HP1.out _ HK0.out).mono ?_); rintro e w2 ⟨rfl, rfl⟩)
      go_ret
      exact ⟨by simp, HK0.out⟩
end Go.Proofs.YtpaedhlacbpmpaaGreatDoor
