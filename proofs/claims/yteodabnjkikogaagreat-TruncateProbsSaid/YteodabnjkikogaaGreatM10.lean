import Derived.WalkKit
import Derived.WalkSpells
import Derived.WalkLawsBesides
import Derived.Deep.QuietTactic
import Derived.BigQuiet
import Derived.Lib.Hide
import Derived.Shelf.Abstract
import Derived.Deep.RegionWith
import Derived.Laws.AppendOwnNone
import Derived.Lib.AppendZerosOnto
import Derived.Lib.SliceRun
import Derived.Lib.SlicesCompact
import Derived.Shelf.SlSortCmp.NoneTotal
import Derived.Maps.OwnOps
import Derived.Maps.OwnSet
import Derived.Maps.Views
import Derived.Deep.MidRow
import Derived.Deep.RegionHeld3
import Derived.Deep.AppendLies
import Derived.Deep.RegionLaw
import Derived.IntWalk
import Derived.StillTailTactics
import Derived.RegionTactic
import Derived.BigRegion
import Derived.ChangeAlike
import Derived.Sort.LotD2
import Derived.Sort.LotA
import Derived.Shelf.SlSortCmp.PdqK
import Derived.Deep.DeepCutAuto
import Derived.Lib.ItoaNum
import Derived.Deep.LoopGhost
import Derived.ProofKit
import Derived.OpenShut
import Derived.SizedLaws
import Derived.Lib.SmallJoins
import Derived.Deep.Slices
import Derived.Deep.Fields
import Derived.Deep.Strs
import Derived.Carry
import Derived.Lib.BitFns
import Derived.Deep.CutBlock
import Derived.Test.YteodabnjkikogaaGreatM9
import Derived.Test.YteodabnjkikogaaGreatM2
import Derived.Test.YteodabnjkikogaaGreatM6
import Derived.Test.YteodabnjkikogaaGreatM8
import Derived.Test.YteodabnjkikogaaGreatM7
import Derived.Test.YteodabnjkikogaaGreatM3
import Derived.Test.YteodabnjkikogaaGreatRows
import Derived.Test.YteodabnjkikogaaGreatChecked
/-
  Walks: faultlineref31.Typed; faultlineref32.of.
-/
namespace Go.Proofs.YteodabnjkikogaaGreat
open Go.RowKit

theorem monoK_append (a b : List Int) : monoK (a ++ b) = (monoK a && monoK b) := by unfold monoK; exact List.all_append
theorem monoK_false (V : Nat) (mark : List Bool) (nodes : List Nd) (m : Nat) (h : monoK (kindsUp V mark nodes m) = false) : ∀ k, m ≤ k → monoK (kindsUp V mark nodes k) = false := by
  intro k hk
  induction k with
  | zero => have : m = 0 := by omega
            subst this; exact h
  | succ k ih =>
    by_cases e : m = k + 1
    · subst e; exact h
    · unfold kindsUp
      have := ih (by omega)
      split
      · rw [monoK_append, this]; rfl
      · exact this
set_option maxRecDepth 100000 in
set_option maxHeartbeats 4000000 in
theorem typed_any (v : Value) (f : Fm) (V T : Nat) (w : World) (hv : NodesAt w v f.nodes) (hok : Ok f V T) :
    Calls Tryz.prog 38 #[.agg #[.int .i64 V, v, .int .i64 T]] w fun e w' => e = .returned (.int .i64 (if synK V T f = true then 0 else 7)) ∧ Kept w w' := by
  have h2 : ∀ W, Kept w W → Calls Tryz.prog 76 #[.agg #[.int .i64 V, v, .int .i64 T]] W fun e w' => ∃ g, e = .returned (.slice (some ⟨g, 0, none⟩) (V + f.nodes.length) (V + f.nodes.length)) ∧ W.heap.size ≤ g ∧ RowAt w' g 4 ((belowK V T f.nodes).map .bool) ∧ Kept W w' := fun W hk => refBelow_any v f V T W (hv.kept hk) hok
  obtain ⟨r, hr⟩ : ∃ r : Int, r = (if synK V T f = true then 0 else 7) := ⟨_, rfl⟩
  rw [← hr]
  unfold synK at hr
  obtain ⟨mark, hmark⟩ : ∃ m, m = belowK V T f.nodes := ⟨_, rfl⟩
  have hml : mark.length = V + f.nodes.length := by rw [hmark, len_belowK]
  rw [← hmark] at hr h2
  obtain ⟨a, c, rfl, _, hl, hx⟩ := hv
  obtain ⟨n, hn⟩ : ∃ n, n = f.nodes.length := ⟨_, rfl⟩
  rw [← hn] at h2 hml hr ⊢
  have hn9 : n ≤ 128 := by rw [hn]; exact hok.n128
  have hV9 := hok.v24
  have hT9 : T < V + n := by rw [hn]; exact hok.tlt
  have H2 := Lib.hid h2
  have HX := Lib.hid hx
  have HN := Lib.hid hn
  have HR := Lib.hid hr
  have HML := Lib.hid hml
  clear h2 hx hn hok hr hml hl hmark
  go_enter Tryz.func38, Tryz.ntmps38
  go_wp2_with (go_at_call 76; refine (H2.out _ ((Kept.refl _).alloc _)).mono ?_; rintro e w2 ⟨gn, rfl, hgn, hrn, hk2⟩; have d0 := hk2.cell (p := ⟨w.heap.size, 0, none⟩) (v := .int .i64 V) (by simp); have d1 := hk2.cell (p := ⟨w.heap.size, 1, none⟩) (v := .slice a n c) (by simp); have HRN := Lib.hid hrn; clear hrn)
  have HK2 := Lib.hid hk2
  clear d0 d1 hk2
  go_loopw [4, 5, 11] (fun _ _ i wr => ∃ k : Nat, k ≤ n ∧ i = .int .i64 k ∧ Hid (monoK (kindsUp V mark f.nodes k) = true) ∧ Kept w2 wr) (fun _ _ i _ => n - (intOf i).toNat)
  case atStart => exact ⟨0, Nat.zero_le _, rfl, Lib.hid rfl, Kept.refl _⟩
  case round =>
    obtain ⟨k, hk, rfl, HM, hK⟩ := hrel
    have hkW := HK2.out.trans hK
    have q0 := hkW.cell (p := ⟨w.heap.size, 0, none⟩) (v := .int .i64 V) (by simp)
    have q1 := hkW.cell (p := ⟨w.heap.size, 1, none⟩) (v := .slice a n c) (by simp)
    by_cases hlt : k < n
    · have hkx : k < f.nodes.length := by have := HN.out; omega
      have hmc := (HRN.out.kept hK).cell (i := V + k) (by simp [HML.out]; omega)
      rw [getD_map_bool mark (V + k) (by rw [HML.out]; omega)] at hmc
      obtain ⟨b, o, rfl, u, hc1, hc2, hc3, hI⟩ := HX.out k hkx
      have hkA : Kept w wr := ((Kept.refl w).alloc (.cells #[.int .i64 V, .slice (some ⟨b, o, none⟩) n c, .int .i64 T] 24)).trans hkW
      have hrange := node_range (hkA.cell hc1) (hkA.cell hc2) (hkA.cell hc3)
      obtain ⟨ax, cx, rfl, _, hlx, hcx⟩ := hI
      have hstep : kindsUp V mark f.nodes (k + 1) = if mark.getD (V + k) false then kindsUp V mark f.nodes k ++ [f.nodes[k].kind] else kindsUp V mark f.nodes k := by
        show (if mark.getD (V + k) false then kindsUp V mark f.nodes k ++ [(f.nodes.getD k noNd).kind] else kindsUp V mark f.nodes k) = _
        rw [show f.nodes.getD k noNd = f.nodes[k] by simp [List.getD_eq_getElem?_getD, hkx]]
      obtain ⟨kd, hkd⟩ : ∃ x, x = f.nodes[k].kind := ⟨_, rfl⟩
      obtain ⟨kk, hkk⟩ : ∃ x, x = f.nodes[k].k := ⟨_, rfl⟩
      obtain ⟨na, hna⟩ : ∃ x, x = f.nodes[k].args.length := ⟨_, rfl⟩
      rw [← hkd, ← hkk, ← hna] at hrange
      rw [← hkd] at hstep
      have HRG := Lib.hid hrange
      have HST := Lib.hid hstep
      have HKA := Lib.hid hkA
      have HK := Lib.hid hK
      have hi1 : (V : Int) + (k : Int) < (V : Int) + (n : Int) := by omega
      have hi2 : (V : Int) + (k : Int) < ((V + n : Nat) : Int) := by omega
      have hgl : gn < wr.heap.size := Nat.lt_of_lt_of_le HRN.out.lt hK.size
      have hlw : w.heap.size < wr.heap.size := by have := hkW.size; simp at this; omega
      clear hc1 hc2 hc3 hrange hcx hlx hna hkA hK hkW hstep hkd hkk
      cases hmk : mark.getD (V + k) false with
      | false =>
        rw [hmk] at hmc
        have HMK := Lib.hid hmk
        clear hmk
        go_wp2_with (with_reducible refine wpList_load_mid rfl 64 _ rfl b (o + k * 3) rfl _ _ HRG.out Tryz.underlying64 rfl (by kernel_rfl) ?_)
        go_roundw
        case rel => exact ⟨k + 1, by omega, by go_num, Lib.hid (by rw [HST.out, HMK.out]; exact HM.out), HK.out.alloc _⟩
        case measure => simp [intOf]; omega
      | true =>
        rw [hmk] at hmc
        have HMK := Lib.hid hmk
        clear hmk
        by_cases k1 : kd = 1
        · subst k1
          go_wp2_with (with_reducible refine wpList_load_mid rfl 64 _ rfl b (o + k * 3) rfl _ _ HRG.out Tryz.underlying64 rfl (by kernel_rfl) ?_)
          go_ret
          have hr7 : r = 7 := by
            rw [HR.out, if_neg]
            rw [monoK_false V mark f.nodes (k + 1) (by rw [HST.out, HMK.out, if_pos rfl, monoK_append]; simp [monoK]) n (by omega)]
            simp
          exact ⟨by rw [hr7]; rfl, HKA.out.alloc _⟩
        · have e1 : (kd == 1) = false := by simpa using k1
          by_cases k5 : kd = 5
          · subst k5
            clear e1 k1
            go_wp2_with (with_reducible refine wpList_load_mid rfl 64 _ rfl b (o + k * 3) rfl _ _ HRG.out Tryz.underlying64 rfl (by kernel_rfl) ?_)
            go_ret
            have hr7 : r = 7 := by
              rw [HR.out, if_neg]
              rw [monoK_false V mark f.nodes (k + 1) (by rw [HST.out, HMK.out, if_pos rfl, monoK_append]; simp [monoK]) n (by omega)]
              simp
            exact ⟨by rw [hr7]; rfl, HKA.out.alloc _⟩
          · have e5 : (kd == 5) = false := by simpa using k5
            have E1 := Lib.hid k1
            have E5 := Lib.hid k5
            clear k1 k5
            go_wp2_with (with_reducible refine wpList_load_mid rfl 64 _ rfl b (o + k * 3) rfl _ _ HRG.out Tryz.underlying64 rfl (by kernel_rfl) ?_)
            go_roundw
            case rel => exact ⟨k + 1, by omega, by go_num, Lib.hid (by rw [HST.out, HMK.out, if_pos rfl, monoK_append, HM.out]; simp [monoK, E1.out, E5.out]), HK.out.alloc _⟩
            case measure => simp [intOf]; omega
    · have e : k = n := by omega
      have hr0 : r = 0 := by rw [HR.out, ← e, if_pos HM.out]
      have HKA := Lib.hid (((Kept.refl w).alloc _).trans hkW)
      have HR0 := Lib.hid hr0
      clear hr0 e hkW
      go_wp2
      go_ret
      exact ⟨by rw [HR0.out]; rfl, HKA.out⟩
end Go.Proofs.YteodabnjkikogaaGreat

/-
  Walks: faultlineref31.Run.
-/
namespace Go.Proofs.YteodabnjkikogaaGreat
open Go.RowKit
variable {Z : Option Nat}

theorem own_grown {w w' : World} {B : Nat} {e : TypeId} {size : Nat} {v : Value} {n : Nat} {xs : List Value} {ob : Option Nat} (h : w.ownsRow B e size v n xs) (hg : w.grownBy w' ob) (hne : ∀ g, v.ownBlock = some g → some g ≠ ob) : w'.ownsRow B e size v n xs := by
  have hlt := fun g hg => (h.lt g hg).2
  obtain ⟨h1, h2⟩ := h
  refine ⟨h1, h2.imp id ?_⟩
  rintro ⟨g, cap, cur, rfl, h5, h6, h7⟩
  exact ⟨g, cap, cur, rfl, h5, (hg.block g (hlt g rfl) (hne g rfl)).trans h6, h7⟩
/-- Rows stay while the steps, in a block that holds none of their nodes, are appended to. -/
theorem OwnRfs.stepped {W w7 : World} {B B' g : Nat} {v s : Value} {L : List Nat} {xs : List Int} (h : OwnRfs s.ownBlock W B v L) (hs : OwnInts W B' s xs) (hg : W.grownBy w7 s.ownBlock) (hat : s.ownBlock = some g ∨ g = W.heap.size) : OwnRfs (some g) w7 B v L := by
  obtain ⟨cells, h1, h2, h3⟩ := h
  refine ⟨cells, own_tag h1 hs.1 (by decide) (fun k hk hne => hg.block k hk hne), h2, fun i hi => ?_⟩
  obtain ⟨u, e0, e1, ⟨e2, e4⟩, e3⟩ := h3 i hi
  refine ⟨u, e0, e1, ⟨own_grown e2 hg fun g2 hg2 he => e3 g2 hg2 he.symm, e4⟩, fun g2 hg2 he => ?_⟩
  have hlt := (e2.lt g2 hg2).2
  injection he with he
  subst he
  rcases hat with hat | hat
  · exact e3 _ hg2 hat
  · omega
theorem app_int_at {ops : Array Oper} {rest : List Oper} {o : Oper} {a : Act} {Q : Exit → Act → World → Prop} {w : World} (hgd : o.guard = none) (s x : Operand)
    (ho : o.op = .call { callee := .builtin .append, args := #[s, x], argTypes := #[32, 32] }) (B : Nat) (v : Value) (xs : List Int) (hs : a.eval s = v) (hown : OwnInts w B v xs)
    (ad : Addr) (y : Int) (hx : a.eval x = .slice (some ad) 1 1) (hc : w.cell? ad = some (.int .i64 y)) (hl : xs.length < 17592186044416) (hB : B ≤ w.heap.size)
    (h : ∀ g cap w', OwnInts w' B (.slice (some ⟨g, 0, none⟩) (xs.length + 1) cap) (xs ++ [y]) → w.grownBy w' v.ownBlock → (v.ownBlock = some g ∨ g = w.heap.size) → Below B w w' → wpList Tryz.prog ops Q rest (a.put o.dst (.slice (some ⟨g, 0, none⟩) (xs.length + 1) cap)) w') : wpList Tryz.prog ops Q (o :: rest) a w := by
  obtain ⟨i0, hi0, hz0, hz1, hz2⟩ := info_parts info_int
  refine wpList_append_lies w hgd s x 32 ho B 3 i0 _ 1 8 Tryz.underlying32 hi0 hz0 hz1 hz2 rfl (by decide) v xs.length _ hs hown.1 ad 1 1 [.int .i64 y] hx rfl ?_ ?_ (by decide) (by simp [maxLen]; omega) (by omega) hB w.heap.size rfl ?_
  · intro j u hj
    match j, hj with
    | 0, hj => simp at hj; subst hj; simpa [Addr.add] using hc
  · intro u hu; simp at hu; subst hu; rfl
  · intro g cap w' h2 h3 h4 _
    exact h g cap w' ⟨by simpa using h2, by simp; omega⟩ h3 h4 (grown_below h3 hown.1 hB)
theorem argsOk_pos {kind : Int} {n : Nat} (h : argsOk kind n = true) (h0 : kind ≠ 0) : 1 ≤ n := by
  unfold argsOk at h
  rw [if_neg h0] at h
  split at h
  · simp at h; omega
  · simp at h; omega
/-- What the reference's Run answers. -/
def RefRun (w' : World) (e : Ending) (r : Option (List Nat × List Nat)) : Prop :=
  match r with
  | some p => ∃ Z v1 v2 L, e = .returned (.tuple #[v1, v2, .int .i64 0]) ∧ OwnRfs Z w' 0 v1 L ∧ L.Perm p.1 ∧ OwnInts w' 0 v2 (ofN p.2)
  | none => e = .returned (.tuple #[.slice none 0 0, .slice none 0 0, .int .i64 4])
theorem nodesOf_zero : nodesOf 0 = [] := by
  unfold nodesOf
  rw [List.filter_eq_nil_iff]
  intro a _; simp
end Go.Proofs.YteodabnjkikogaaGreat

/-
  The reference's rows while a list is parted: what stays. Plain: where the reference's search with a limit stands.
-/
namespace Go.Proofs.YteodabnjkikogaaGreat
open Go.RowKit
variable {Z : Option Nat}

/-- append of one row; and what else stays. -/
theorem app_rf2 {ops : Array Oper} {rest : List Oper} {o : Oper} {a : Act} {Q : Exit → Act → World → Prop} {w : World} (hgd : o.guard = none) (s x : Operand)
    (ho : o.op = .call { callee := .builtin .append, args := #[s, x], argTypes := #[114, 114] }) (B : Nat) (v : Value) (L : List Nat) (hs : a.eval s = v) (hown : OwnRfs Z w B v L)
    (g r : Nat) (u : Value) (hx : a.eval x = .slice (some ⟨g, 0, none⟩) 1 1) (hc : w.rangeAt g 0 [.int .i64 (evW r), u]) (hu : NdsAt Z w u r) (hr : RowLt 152 r) (hl : L.length < 20000) (hB : B ≤ w.heap.size)
    (h : ∀ v' w', OwnRfs Z w' B v' (L ++ [r]) → w.grownBy w' v.ownBlock → Below B w w' → wpList Tryz.prog ops Q rest (a.put o.dst v') w') : wpList Tryz.prog ops Q (o :: rest) a w := by
  obtain ⟨i0, hi0, hz0, hz1, hz2⟩ := info_parts info_rrow
  obtain ⟨cells, hown1, ⟨hkl, hlt⟩, hcell⟩ := hown
  obtain ⟨sa, sc, rfl⟩ := hu.shape
  refine wpList_append_own _ hgd s x 114 ho B 113 i0 _ 2 32 Tryz.underlying114 hi0 hz0 hz1 hz2 rfl (by decide) v L.length cells hs hown1 ⟨g, 0, none⟩ 1 1 [.int .i64 (evW r), .slice sa (nodesOf r).length sc] hx rfl ?_ ?_ (by unfold maxLen; omega) (by omega) hB ?_
  · intro j u hj
    have := hc j u hj
    rw [addr_add]; exact this
  · intro u hu
    simp at hu
    rcases hu with rfl | rfl <;> rfl
  · intro v' w' h3 h4 _
    have hg : ∀ k, k < w.heap.size → some k ≠ v.ownBlock → w'.heap[k]? = w.heap[k]? := fun k hk hne => h4.block k hk hne
    refine h v' w' ⟨cells ++ [.int .i64 (evW r), .slice sa (nodesOf r).length sc], by simpa using h3, ⟨by simp; omega, fun c hc => ?_⟩, ?_⟩ h4 (grown_below h4 hown1 hB)
    · rcases List.mem_append.1 hc with hc | hc
      · exact hlt c hc
      · simp at hc; subst hc; exact hr
    · intro i hi
      simp at hi
      have hcl : cells.length = L.length * 2 := hown1.1
      by_cases hik : i < L.length
      · obtain ⟨u, e0, e1, e2⟩ := hcell i hik
        rw [List.getElem_append_left hik]
        refine ⟨u, ?_, ?_, ⟨⟨own_tag e2.1.1 hown1 (by decide) hg, e2.1.2⟩, e2.2⟩⟩
        · rw [List.getElem?_append_left (by omega), e0]
        · rw [List.getElem?_append_left (by omega), e1]
      · have e : i = L.length := by omega
        subst e
        rw [List.getElem_append_right (Nat.le_refl _)]
        simp only [Nat.sub_self, List.getElem_cons_zero]
        refine ⟨.slice sa (nodesOf r).length sc, ?_, ?_, ⟨⟨own_tag hu.1.1 hown1 (by decide) hg, hu.1.2⟩, hu.2⟩⟩
        · rw [List.getElem?_append_right (by omega), hcl]; simp
        · rw [List.getElem?_append_right (by omega), hcl]; simp
/-- Rows stay while another slice of rows is appended to. -/
theorem OwnRfs.grownR {W w7 : World} {B B' n : Nat} {v s : Value} {L : List Nat} {cells : List Value} (h : OwnRfs Z W B v L) (hs : W.ownsRow B' 113 2 s n cells) (hg : W.grownBy w7 s.ownBlock) (hne : ∀ g, v.ownBlock = some g → some g ≠ s.ownBlock) : OwnRfs Z w7 B v L := by
  obtain ⟨cs, h1, h2, h3⟩ := h
  refine ⟨cs, own_grown h1 hg hne, h2, fun i hi => ?_⟩
  obtain ⟨u, e0, e1, e2⟩ := h3 i hi
  exact ⟨u, e0, e1, ⟨own_tag e2.1.1 hs (by decide) (fun k hk hn => hg.block k hk hn), e2.1.2⟩, e2.2⟩
/-- Ints stay while rows are appended to. -/
theorem OwnInts.grownR {W w7 : World} {B B' n : Nat} {v s : Value} {xs : List Int} {cells : List Value} (h : OwnInts W B v xs) (hs : W.ownsRow B' 113 2 s n cells) (hg : W.grownBy w7 s.ownBlock) : OwnInts w7 B v xs :=
  ⟨own_tag h.1 hs (by decide) (fun k hk hn => hg.block k hk hn), h.2⟩
/-- Beside a slice that is new, rows hold none of its memory. -/
theorem OwnRfs.fresh {w w' : World} {B : Nat} {v s : Value} {L : List Nat} (h : OwnRfs Z w B v L) (hk : Kept w w') (hs : ∀ g, s.ownBlock = some g → w.heap.size ≤ g) : OwnRfs s.ownBlock w' B v L := by
  obtain ⟨cells, h1, h2, h3⟩ := h
  refine ⟨cells, own_kept h1 hk, h2, fun i hi => ?_⟩
  obtain ⟨u, e0, e1, e2⟩ := h3 i hi
  exact ⟨u, e0, e1, OwnInts.kept e2.1 hk, fun g hg he => by have h4 := (e2.1.1.lt g hg).2; have h5 := hs g he; omega⟩
/-- Where the reference's search with a limit stands. -/
def RefAt (V T : Nat) (f : Fm) (P : Nat → Bool) (L F : List Nat) (j : Int) (kx : Nat) : Prop :=
  (j = -1 ∧ L = [cond V (T : Int)] ∧ F = [] ∧ f.nodes.length + 1 ≤ kx) ∨ ∃ m i : Nat, j = (i : Int) ∧ m ≤ kx ∧ TStand V T f P L F m ∧ (∃ c ∈ L, c.testBit (24 + i) = true) ∧ ∀ c ∈ L, ∀ j, c.testBit (24 + j) = true → j ≤ i
theorem sort_kept {R L : List Nat} (hg : Good R) (hm : ∀ r ∈ R, r < 16777216) (hp : L.Perm R) : sortK (L.map evW) = R := by
  have e : R.map evW = R := by
    have := List.map_congr_left (l := R) (f := evW) (g := id) fun r hr => evW_of_lt (hm r hr)
    simpa using this
  have hR : R.Pairwise ltK := by rw [← hg.1]; exact pair_minK R
  refine (sortK_unique (L.map evW) R hR fun x => ?_).symm
  rw [(hp.map evW).mem_iff, e]
/-- The limit's value, and what it decides. -/
def BeyAt (w : World) (lim : Value) (bp : Bool) (P : Nat → Bool) : Prop :=
  ∀ e W, Kept w W → Mk e → Calls Tryz.prog 78 #[lim, .bool bp, .int .i64 (e : Nat)] W fun e' w' => e' = .returned (.bool (P e)) ∧ Kept W w'
theorem nodes_one (V T : Nat) (hV : V ≤ 24) (hT : T < V + 128) : (T < V → nodesOf (cond V (T : Int)) = [] ∧ evW (cond V (T : Int)) = 2 ^ T) ∧ (¬ T < V → nodesOf (cond V (T : Int)) = [T - V] ∧ evW (cond V (T : Int)) = 0) := by
  have e0 : evW 0 = 0 := rfl
  refine ⟨fun h => ?_, fun h => ?_⟩
  · have hc : cond V (T : Int) = 0 ||| 2 ^ T := by unfold cond; rw [if_pos (by omega)]; simp
    rw [hc, nodesOf_ev 0 T (by omega), nodesOf_zero]
    refine ⟨rfl, ?_⟩
    rw [Nat.zero_or]
    exact evW_of_lt (Nat.lt_of_lt_of_le (Nat.pow_lt_pow_right (by omega) (by omega : T < 24)) (by decide : 2 ^ 24 ≤ 16777216))
  · have hc : cond V (T : Int) = 0 ||| 2 ^ (24 + (T - V)) := by unfold cond; rw [if_neg (by omega), Nat.zero_or, show ((T : Int) - (V : Int)).toNat = T - V by omega]
    rw [hc, nodesOf_node 0 (T - V) (by omega), nodesOf_zero, evW_or, e0]
    exact ⟨rfl, rfl⟩
end Go.Proofs.YteodabnjkikogaaGreat

/-
  Walks: faultlineref35.run.
-/
namespace Go.Proofs.YteodabnjkikogaaGreat
open Go.RowKit

theorem four_rows (w : World) (c1 c2 c3 c4 : Array Value) (e1 e2 e3 e4 : TypeId) : RowAt ((((w.alloc (.cells c1 e1)).alloc (.cells c2 e2)).alloc (.cells c3 e3)).alloc (.cells c4 e4)) w.heap.size e1 c1.toList ∧ RowAt ((((w.alloc (.cells c1 e1)).alloc (.cells c2 e2)).alloc (.cells c3 e3)).alloc (.cells c4 e4)) (w.heap.size + 1) e2 c2.toList ∧ RowAt ((((w.alloc (.cells c1 e1)).alloc (.cells c2 e2)).alloc (.cells c3 e3)).alloc (.cells c4 e4)) (w.heap.size + 1 + 1) e3 c3.toList ∧ RowAt ((((w.alloc (.cells c1 e1)).alloc (.cells c2 e2)).alloc (.cells c3 e3)).alloc (.cells c4 e4)) (w.heap.size + 1 + 1 + 1) e4 c4.toList := by
  refine ⟨(RowAt.made w c1 e1).kept (((Kept.refl _).alloc _).alloc _ |>.alloc _), ?_, ?_, ?_⟩
  · have := (RowAt.made (w.alloc (.cells c1 e1)) c2 e2).kept (((Kept.refl _).alloc (.cells c3 e3)).alloc (.cells c4 e4))
    simpa using this
  · have := (RowAt.made ((w.alloc (.cells c1 e1)).alloc (.cells c2 e2)) c3 e3).kept ((Kept.refl _).alloc (.cells c4 e4))
    simpa using this
  · have := RowAt.made (((w.alloc (.cells c1 e1)).alloc (.cells c2 e2)).alloc (.cells c3 e3)) c4 e4
    simpa using this
theorem ints_single {W : World} {g : Nat} {d : Int} (h : W.heap[g]? = some (.cells #[.int .i64 d] 3 (0, 0))) : OwnInts W 0 (.slice (some ⟨g, 0, none⟩) 1 1) [d] :=
  ⟨⟨by simp, .inr ⟨g, 1, _, rfl, Nat.zero_le _, h, Nat.le_refl _, by unfold maxLen; omega, by simp, by simp⟩⟩, by simp⟩
theorem ints_len' {w : World} {a : Option Addr} {n c : Nat} {R : List Nat} (h : IntsAt w (.slice a n c) (ofN R)) : n = R.length := by
  obtain ⟨_, _, h, _⟩ := h
  injection h with _ h _
  rw [h]; simp [ofN]
/-- What the reference's search with a limit answers. -/
def SRes (w : World) (e : Ending) : Option (List Nat × List Nat) → Prop
  | none => e = .returned (.tuple #[.agg #[.slice none 0 0, .slice none 0 0], .int .i64 4])
  | some p => ∃ kv fv, e = .returned (.tuple #[.agg #[kv, fv], .int .i64 0]) ∧ IntsAt w kv (ofN p.1) ∧ IntsAt w fv (ofN p.2)
theorem RefAt.start {V T : Nat} {f : Fm} {P : Nat → Bool} : RefAt V T f P [cond V (T : Int)] [] (-1) (f.nodes.length + 1) := .inl ⟨rfl, rfl, rfl, Nat.le_refl _⟩
end Go.Proofs.YteodabnjkikogaaGreat

/-
  Walk: faultlineref35.run, its limit asked for sets of known events only. Printed by conv_prob.py.
-/
namespace Go.Proofs.YteodabnjkikogaaGreat
open Go.RowKit

/-- The limit's value, and what it decides of sets of V events. -/
def BeyV (w : World) (lim : Value) (bp : Bool) (V : Nat) (P : Nat → Bool) : Prop :=
  ∀ e W, Kept w W → e < 2 ^ V → Calls Tryz.prog 78 #[lim, .bool bp, .int .i64 (e : Nat)] W fun e' w' => e' = .returned (.bool (P e)) ∧ Kept W w'
/-- A row's events are known ones. -/
def EvLt (V c : Nat) : Prop := ∀ j, j < 24 → c.testBit j = true → j < V
theorem evLt_cond {V : Nat} {a : Int} (h0 : 0 ≤ a) (_hV : V ≤ 24) : EvLt V (cond V a) := by
  intro j hj h
  unfold cond at h
  split at h
  · simp [Nat.testBit_two_pow] at h; omega
  · simp [Nat.testBit_two_pow] at h; omega
theorem evLt_or {V x y : Nat} (h1 : EvLt V x) (h2 : EvLt V y) : EvLt V (x ||| y) := fun j hj h => by
  simp at h; exact h.elim (h1 j hj) (h2 j hj)
theorem evLt_sub {V x m : Nat} (h : EvLt V x) : EvLt V (sdiff x m) := fun j hj hb => by
  rw [sdiff_bit] at hb; simp at hb; exact h j hj hb.1
theorem evLt_fold {V : Nat} (args : List Int) (h : ∀ a ∈ args, EvLt V (cond V a)) : ∀ r, EvLt V r → EvLt V (args.foldl (withC V) r) := by
  induction args with
  | nil => intro r hr; exact hr
  | cons a l ih => intro r hr; exact ih (fun x hx => h x (List.mem_cons_of_mem _ hx)) _ (evLt_or hr (h a (List.mem_cons_self ..)))
theorem evLt_choose {V : Nat} (args : List Int) : (∀ a ∈ args, EvLt V (cond V a)) → ∀ k r, EvLt V r → ∀ t ∈ chooseK V args k r, EvLt V t := by
  induction args with
  | nil =>
    intro _ k r hr t ht
    unfold chooseK at ht
    split at ht
    · simp at ht; subst ht; exact hr
    · cases ht
  | cons a l ih =>
    intro h k r hr t ht
    unfold chooseK at ht
    split at ht
    · simp at ht; subst ht; exact hr
    · have h' : ∀ x ∈ l, EvLt V (cond V x) := fun x hx => h x (List.mem_cons_of_mem _ hx)
      rcases List.mem_append.1 ht with ht | ht
      · exact ih h' _ _ (evLt_or hr (h a (List.mem_cons_self ..))) t ht
      · exact ih h' _ _ hr t ht
theorem evLt_expK {V i : Nat} {x : Nd} {R : List Nat} (hV : V ≤ 24) (hR : ∀ r ∈ R, EvLt V r) (ha : ∀ a ∈ x.args, 0 ≤ a) : ∀ t ∈ expK V x i R, EvLt V t := by
  intro t ht
  obtain ⟨r, hr, ht⟩ := List.mem_flatMap.1 ht
  unfold expR at ht
  split at ht
  · have h' : ∀ a ∈ x.args, EvLt V (cond V a) := fun a h => evLt_cond (ha a h) hV
    have hd : EvLt V (sdiff r (2 ^ (24 + i))) := evLt_sub (hR r hr)
    unfold expandK at ht
    split at ht
    · split at ht
      · simp at ht; subst ht; exact hd
      · cases ht
    · split at ht
      · simp at ht; subst ht; exact evLt_fold _ h' _ hd
      · split at ht
        · obtain ⟨a, h1, rfl⟩ := List.mem_map.1 ht
          exact evLt_or hd (h' a h1)
        · exact evLt_choose _ h' _ _ hd t ht
  · simp at ht; subst ht; exact hR t hr
theorem ev_lt {V c : Nat} (h : EvLt V c) : evW c < 2 ^ V := by
  refine Nat.lt_pow_two_of_testBit _ fun j hj => ?_
  rw [evW_bit]
  by_cases h24 : j < 24
  · cases hb : c.testBit j with
    | false => simp
    | true => have := h j h24 hb; omega
  · simp [h24]
set_option maxRecDepth 100000 in
set_option maxHeartbeats 8000000 in
theorem rrunV_any (v : Value) (f : Fm) (V T : Nat) (P : Nat → Bool) (bp lb : Bool) (kq : Int) (p0 l0 d0 : Option Addr) (p1 p2 l1 l2 d1 d2 : Nat) (w : World) (hv : NodesAt w v f.nodes) (hok : Ok f V T) (hs : synK V T f = true)
    (hbe : BeyV w (.agg #[.int .i64 kq, .slice p0 p1 p2, .bool lb, .slice l0 l1 l2, .slice d0 d1 d2]) bp V P) :
    Calls Tryz.prog 39 #[.agg #[.int .i64 V, v, .int .i64 T], .agg #[.int .i64 kq, .slice p0 p1 p2, .bool lb, .slice l0 l1 l2, .slice d0 d1 d2], .bool bp] w fun e w' => SRes w' e (topT V T P f.nodes) ∧ Kept w w' := by
  have HNR := Lib.hid (fun i (hi : i < f.nodes.length) => node_read hv i hi)
  have HOK := Lib.hid hok
  have HMO := Lib.hid (fun i (hi : i < f.nodes.length) h => kind_mono hok hs i hi h)
  have HSY := Lib.hid hs
  have HBE := Lib.hid hbe
  have hsh : ∃ a n c, v = .slice a n c := by obtain ⟨a, c, h, _⟩ := hv; exact ⟨a, _, c, h⟩
  obtain ⟨a, n, c, rfl⟩ := hsh
  have h24 := hok.v24
  have h128 := hok.n128
  have htl := hok.tlt
  have hc0 : RowLt 152 (cond V (T : Int)) := rowLt_mono (rowLt_cond (V := V) (m := 128) (by omega) h24) (by omega)
  have HN1 := Lib.hid (nodes_one V T h24 (by omega))
  obtain ⟨c0, hc00⟩ : ∃ c0, c0 = cond V (T : Int) := ⟨_, rfl⟩
  rw [← hc00] at hc0 HN1
  have HC0 := Lib.hid hc0
  have HCC := Lib.hid hc00
  obtain ⟨nl, hnl⟩ : ∃ nl, nl = f.nodes.length := ⟨_, rfl⟩
  have HNL := Lib.hid hnl
  obtain ⟨x0, hx0⟩ : ∃ x, x = evW c0 := ⟨_, rfl⟩
  have HX0 := Lib.hid hx0
  have hx9 : x0 < 16777216 := by rw [hx0]; exact evW_lt c0
  have htV : T < V + 128 := by omega
  clear hv hok hs hc0 hc00 hnl hx0 hbe htl h128
  go_enter Tryz.func39, Tryz.ntmps39
  go_upto_if 25 with fail
  go_cut [8] (fun p8 wx => ∃ (ua : Option Addr) (un uc : Nat), p8 = .pointer (some ⟨w.heap.size + 1 + 1 + 1, 0, none⟩) ∧ Hid (RowAt wx (w.heap.size + 1 + 1 + 1) 113 [.int .i64 x0, .slice ua un uc]) ∧ Hid (NdsAt none wx (.slice ua un uc) c0) ∧ Hid (RowAt wx w.heap.size 24 [.int .i64 V, .slice a n c, .int .i64 T]) ∧ Hid (RowAt wx (w.heap.size + 1) 75 [.int .i64 kq, .slice p0 p1 p2, .bool lb, .slice l0 l1 l2, .slice d0 d1 d2]) ∧ Hid (RowAt wx (w.heap.size + 1 + 1) 34 [.slice none 0 0, .slice none 0 0]) ∧ Hid (Kept w wx))
  case first =>
    obtain ⟨r1, r2, r3, r4⟩ := four_rows w #[.int .i64 V, .slice a n c, .int .i64 T] #[.int .i64 kq, .slice p0 p1 p2, .bool lb, .slice l0 l1 l2, .slice d0 d1 d2] #[.slice none 0 0, .slice none 0 0] #[.int .i64 0, .slice none 0 0] 24 75 34 113
    have R1 := Lib.hid r1
    have R2 := Lib.hid r2
    have R3 := Lib.hid r3
    have R4 := Lib.hid r4
    have g0 := r1.cell (i := 0) (by simp)
    have g2 := r1.cell (i := 2) (by simp)
    have f0 := r4.free 0
    have f1 := r4.free 1
    have s0 := r4.cell (i := 0) (by simp)
    have s1 := r4.cell (i := 1) (by simp)
    have hk0 := (((((Kept.refl w).alloc (.cells #[.int .i64 V, .slice a n c, .int .i64 T] 24)).alloc (.cells #[.int .i64 kq, .slice p0 p1 p2, .bool lb, .slice l0 l1 l2, .slice d0 d1 d2] 75)).alloc (.cells #[.slice none 0 0, .slice none 0 0] 34)).alloc (.cells #[.int .i64 0, .slice none 0 0] 113))
    have HK0 := Lib.hid hk0
    obtain ⟨W0, hW0⟩ : ∃ W0, W0 = (((w.alloc (.cells #[.int .i64 V, .slice a n c, .int .i64 T] 24)).alloc (.cells #[.int .i64 kq, .slice p0 p1 p2, .bool lb, .slice l0 l1 l2, .slice d0 d1 d2] 75)).alloc (.cells #[.slice none 0 0, .slice none 0 0] 34)).alloc (.cells #[.int .i64 0, .slice none 0 0] 113) := ⟨_, rfl⟩
    simp only [List.getElem_cons_succ, List.getElem_cons_zero] at g0 g2 s0 s1
    have hsz : W0.heap.size = w.heap.size + 1 + 1 + 1 + 1 := by rw [hW0]; simp
    rw [← hW0] at R1 R2 R3 R4 g0 g2 f0 f1 s0 s1 HK0 ⊢
    have HSZ := Lib.hid hsz
    clear hW0 r1 r2 r3 r4 hk0 hsz
    by_cases hT : T < V
    · obtain ⟨e1, e2⟩ := HN1.out.1 hT
      have ew := shlW T (by omega)
      have ex : x0 = 2 ^ T := by rw [HX0.out, e2]
      rw [← ex] at ew
      have hTi : (T : Int) < (V : Int) := by omega
      have HE1 := Lib.hid e1
      clear e1 e2 ex
      go_wp2
      go_meet
      have h4 := R4.out.store 0 (.int .i64 x0)
      refine ⟨none, 0, 0, rfl, Lib.hid (by simpa using h4), Lib.hid ⟨by rw [HE1.out]; simpa [ofN] using OwnInts.nil _ _, fun g hg => by simp [Value.ownBlock] at hg⟩, Lib.hid (R1.out.other (by omega) 0 _), Lib.hid (R2.out.other (by omega) 0 _), Lib.hid (R3.out.other (by omega) 0 _), Lib.hid (HK0.out.store (by omega) 0 _)⟩
    · obtain ⟨e1, e2⟩ := HN1.out.2 hT
      have ex : x0 = 0 := by rw [HX0.out, e2]
      subst ex
      have hTi : ¬ (T : Int) < (V : Int) := by omega
      obtain ⟨d, hd⟩ : ∃ d, d = T - V := ⟨_, rfl⟩
      rw [← hd] at e1
      have ed : (T : Int) - (V : Int) = (d : Int) := by omega
      have HE1 := Lib.hid e1
      clear e1 e2 hd
      have hl3 : w.heap.size + 1 + 1 + 1 < W0.heap.size := by have := HSZ.out; omega
      go_wp2
      go_meet
      have h4 := (R4.out.store 1 (.slice (some ⟨W0.heap.size, 0, none⟩) 1 1)).kept ((Kept.refl _).alloc (.cells #[.int .i64 d] 3))
      have hb : ((W0.setCell ⟨w.heap.size + 1 + 1 + 1, 1, none⟩ (.slice (some ⟨W0.heap.size, 0, none⟩) 1 1)).alloc (.cells #[.int .i64 d] 3)).heap[W0.heap.size]? = some (.cells #[.int .i64 d] 3 (0, 0)) := by
        have := heap_alloc_new (W0.setCell ⟨w.heap.size + 1 + 1 + 1, 1, none⟩ (.slice (some ⟨W0.heap.size, 0, none⟩) 1 1)) (.cells #[.int .i64 d] 3)
        simpa using this
      refine ⟨_, 1, 1, rfl, Lib.hid (by simpa using h4), Lib.hid ⟨by rw [HE1.out]; exact ints_single hb, fun g hg => by simp⟩, Lib.hid ((R1.out.other (by omega) 1 _).kept ((Kept.refl _).alloc _)), Lib.hid ((R2.out.other (by omega) 1 _).kept ((Kept.refl _).alloc _)), Lib.hid ((R3.out.other (by omega) 1 _).kept ((Kept.refl _).alloc _)), Lib.hid ((HK0.out.store (by omega) 1 _).alloc _)⟩
  case rest =>
    obtain ⟨ua, un, uc, rfl, HR4, HND, HR1, HR2, HR3, HKW⟩ := hcut
    have hr4 := HR4.out
    have q0 := hr4.cell (i := 0) (by simp)
    have q1 := hr4.cell (i := 1) (by simp)
    have hsw : w.heap.size + 1 + 1 + 1 < wc.heap.size := hr4.lt
    simp only [List.getElem_cons_succ, List.getElem_cons_zero] at q0 q1
    clear hr4
    go_wp2
    obtain ⟨L1, hL1⟩ : ∃ L : World, L = wc.alloc (.cells #[.int .i64 x0, .slice ua un uc] 113) := ⟨_, rfl⟩
    have HO1 : Hid (OwnRfs none L1 0 (.slice (some ⟨wc.heap.size, 0, none⟩) 1 1) [c0]) := Lib.hid (by
      rw [hL1]
      exact OwnRfs.one (by rw [← HX0.out]; exact heap_alloc_new wc _) (HND.out.kept ((Kept.refl wc).alloc _)) HC0.out (Nat.zero_le _))
    have HKL : Hid (Kept w L1) := Lib.hid (by rw [hL1]; exact HKW.out.alloc _)
    have R1 : Hid (RowAt L1 w.heap.size 24 [.int .i64 V, .slice a n c, .int .i64 T]) := Lib.hid (by rw [hL1]; exact HR1.out.kept ((Kept.refl _).alloc _))
    have R2 : Hid (RowAt L1 (w.heap.size + 1) 75 [.int .i64 kq, .slice p0 p1 p2, .bool lb, .slice l0 l1 l2, .slice d0 d1 d2]) := Lib.hid (by rw [hL1]; exact HR2.out.kept ((Kept.refl _).alloc _))
    have R3 : Hid (RowAt L1 (w.heap.size + 1 + 1) 34 [.slice none 0 0, .slice none 0 0]) := Lib.hid (by rw [hL1]; exact HR3.out.kept ((Kept.refl _).alloc _))
    have hwL : w.heap.size + 1 + 1 < L1.heap.size := R3.out.lt
    rw [← hL1]
    clear hL1 q0 q1 HR1 HR2 HR3 HR4 hsw
    go_loopg [9, 10, 11] (nl + 1) (fun kx s9 s10 s11 wr => ∃ (L F : List Nat) (vr vs : Value) (j : Int) (kk : Nat), s9 = vr ∧ s10 = vs ∧ s11 = .int .i64 j ∧ kk ≤ kx ∧ Hid (OwnRfs vs.ownBlock wr 0 vr L) ∧ Hid (OwnInts wr L1.heap.size vs (ofN F)) ∧ Hid (Kept L1 wr) ∧ Hid (RefAt V T f P L F j kk) ∧ Hid (∀ c ∈ L, EvLt V c))
    case atStart => exact ⟨[c0], [], _, _, -1, nl + 1, rfl, rfl, rfl, Nat.le_refl _, HO1, Lib.hid (by simpa [ofN] using OwnInts.nil _ _), Lib.hid (Kept.refl _), Lib.hid (by rw [HCC.out, HNL.out]; exact RefAt.start), Lib.hid (by intro c hc; simp only [List.mem_singleton] at hc; rw [hc, HCC.out]; exact evLt_cond (by omega) h24)⟩
    case round =>
      obtain ⟨wo, rfl⟩ : ∃ wo : World, wo = wr := ⟨_, rfl⟩
      obtain ⟨L, F, vr, vs, j, kk, rfl, rfl, rfl, hkk, HOR, HOS, HK, HAT, HEV⟩ := hrel
      obtain ⟨va, vc, hvr, _⟩ := HOR.out.slice
      obtain ⟨ln, hln⟩ : ∃ ln, ln = L.length := ⟨_, rfl⟩
      rw [← hln] at hvr
      subst hvr
      have HLN := Lib.hid hln
      obtain ⟨sa, sn, sc, hvs⟩ := HOS.out.ints.shape
      subst hvs
      have r1 := R1.out.kept HK.out
      have g0 := r1.cell (i := 0) (by simp)
      have g1 := r1.cell (i := 1) (by simp)
      have g2 := r1.cell (i := 2) (by simp)
      have r3 := R3.out.kept HK.out
      have t0 := r3.cell (i := 0) (by simp)
      have t1 := r3.cell (i := 1) (by simp)
      have u0 := r3.free 0
      have u1 := r3.free 1
      simp only [List.getElem_cons_succ, List.getElem_cons_zero] at g0 g1 g2 t0 t1
      have HKA : Hid (Kept w wo) := Lib.hid (HKL.out.trans HK.out)
      clear hln r1 r3
      go_upto_if 40 with fail
      go_cut [9, 10] (fun p9 p10 wx => ∃ (M : List Nat) (m : Nat) (ma : Option Addr) (mc mn : Nat), p9 = .slice ma mn mc ∧ p10 = .slice sa sn sc ∧ m + 1 ≤ kk ∧ Hid (mn = M.length) ∧ Hid (Pend V T f P M F m) ∧ Hid (OwnRfs (Value.slice sa sn sc).ownBlock wx 0 (.slice ma mn mc) M) ∧ Hid (Kept wo wx) ∧ Hid (∀ c ∈ M, EvLt V c))
      case first =>
        rcases HAT.out with ⟨rfl, hL, hF, hnk⟩ | ⟨m, i, rfl, hmk, hTS, hib, hmax⟩
        · have HPD : Hid (Pend V T f P L F nl) := Lib.hid (by rw [hL, hF, HNL.out]; exact pend_start HOK.out P)
          have hnk2 : nl + 1 ≤ kk := by rw [HNL.out]; exact hnk
          clear hL hF hnk HAT
          go_wp2
          go_meet
          exact ⟨L, nl, va, vc, ln, rfl, rfl, hnk2, HLN, HPD, HOR, Lib.hid (Kept.refl _), HEV⟩
        · have HTS := Lib.hid hTS
          have HHI : Hid ((∃ c ∈ L, c.testBit (24 + i) = true) ∧ ∀ c ∈ L, ∀ j, c.testBit (24 + j) = true → j ≤ i) := Lib.hid ⟨hib, hmax⟩
          obtain ⟨him, hmk2, _⟩ := hTS.at hib hmax
          have hle := hTS.le
          have hil : i < f.nodes.length := by omega
          obtain ⟨b, o, n', c', ya, yn, yc, hveq, hn', hnr⟩ := HNR.out i hil
          injection hveq with q1 q2 q3
          subst q1
          rw [← q2, ← HNL.out] at hn'
          have hkd := HMO.out i hil hmk2
          have hok := HOK.out
          have h128' := hok.n128
          have hargs : ∀ a ∈ f.nodes[i].args, 0 ≤ a ∧ a < (V : Int) + 128 := fun a ha => by have := hok.args i hil a ha; omega
          have h16 : f.nodes[i].args.length ≤ 16 := argsOk_le (hok.argc i hil)
          have hne : f.nodes[i].kind ≠ 0 → 1 ≤ f.nodes[i].args.length := fun h0 => argsOk_pos (hok.argc i hil) h0
          have hk4 : f.nodes[i].kind = 4 → 1 ≤ f.nodes[i].k ∧ f.nodes[i].k ≤ f.nodes[i].args.length := fun h4 => by
            have := hok.arity i hil
            unfold chkK at this
            rw [if_neg (by omega), if_pos h4] at this
            split at this
            · omega
            · cases this
          have hx : f.nodes.getD i noNd = f.nodes[i] := by simp [List.getD_eq_getElem?_getD, hil]
          obtain ⟨x, hxx⟩ : ∃ x, x = f.nodes[i] := ⟨_, rfl⟩
          rw [← hxx] at hnr hkd hargs h16 hne hk4 hx
          have HX := Lib.hid hx
          have HA0 : Hid (∀ a ∈ x.args, 0 ≤ a) := Lib.hid fun a ha => (hargs a ha).1
          have hin : i < n := by rw [hn', HNL.out]; exact hil
          have hi128 : i < 128 := by omega
          have HEX := Lib.hid (rexpand_any (Z := (Value.slice sa sn sc).ownBlock) 0 V i b o n c T x ya yn yc (.slice va ln vc) L wo (fun z hz => (HOS.out.1.lt z hz).2) h24 HOR.out hTS.len hi128 hin (hnr wo HKA.out).1 (hnr wo HKA.out).2 hargs h16 hkd hk4 hne hmax)
          have hi0 : (i : Int) ≥ 0 := by omega
          clear hnr hkd hargs h16 hk4 hne hx hxx hok hmk2 q2 q3 hn' hib hil hmax HAT hTS hle
          go_wp2_with fail
          refine HEX.out.mono ?_
          rintro e w4 ⟨⟨hbig, v4, rfl⟩ | ⟨hsm, v4, rfl, ho4⟩, hk4⟩
          · have HBG := Lib.hid hbig
            have HK4 := Lib.hid hk4
            have t0' := hk4.cell t0
            have t1' := hk4.cell t1
            have u0' := ((R3.out.kept HK.out).kept hk4).free 0
            have u1' := ((R3.out.kept HK.out).kept hk4).free 1
            clear hbig hk4
            go_wp2
            have HNO : Hid (topT V T P f.nodes = none) := Lib.hid (HTS.out.full HHI.out.1 HHI.out.2 (by rw [HX.out]; exact HBG.out))
            refine bodyPost_ret (v := .tuple #[.agg #[.slice none 0 0, .slice none 0 0], .int .i64 4]) ?_ rfl ⟨by rw [HNO.out]; rfl, (((HKA.out.trans HK4.out).store (by omega) 0 _).store (by omega) 1 _)⟩
            simp [results, Tryz.results39, go_sem, t0', t1']
          · obtain ⟨va4, vc4, hv4, _⟩ := ho4.slice
            obtain ⟨l4, hl4⟩ : ∃ l4, l4 = (expK V x i L).length := ⟨_, rfl⟩
            rw [← hl4] at hv4
            subst hv4
            have HPN := Lib.hid (pend_next HOK.out HTS.out HHI.out.1 HHI.out.2 (by rw [HX.out]; exact hsm))
            rw [HX.out] at HPN
            have HO4 := Lib.hid (ho4.mono (Nat.zero_le _))
            have HL4 := Lib.hid hl4
            clear hsm ho4 hl4
            go_wp2
            go_meet
            exact ⟨expK V x i L, i, va4, vc4, l4, rfl, rfl, by omega, HL4, Lib.hid HPN.out.2, HO4, Lib.hid hk4, Lib.hid (evLt_expK h24 HEV.out HA0.out)⟩
      case rest =>
        obtain ⟨M, m, ma, mc, mn, rfl, rfl, hmk, HMN, HP, HOM, HKX, HEM⟩ := hcut
        obtain ⟨wx, rfl⟩ : ∃ wx : World, wx = wc := ⟨_, rfl⟩
        have HKB : Hid (Kept L1 wx) := Lib.hid (HK.out.trans HKX.out)
        have HOSX : Hid (OwnInts wx L1.heap.size (.slice sa sn sc) (ofN F)) := Lib.hid (HOS.out.kept HKX.out)
        have HMG : Hid (∀ g, (Value.slice ma mn mc).ownBlock = some g → g < wx.heap.size) := Lib.hid fun g hg => (HOM.out.own_ge hg).2
        have hlM : mn ≤ 4096 := by rw [HMN.out]; exact HP.out.len
        have hlF : F.length ≤ 1024 := HP.out.lenF
        have hszX := HKB.out.size
        clear HOR HAT g0 g1 g2 t0 t1 u0 u1 HOS HKX
        go_wp2
        go_loopg [10, 14, 53] mn (fun kx s10 s14 s53 wr => ∃ (k : Nat) (vs2 vi : Value), s10 = vs2 ∧ s14 = vi ∧ s53 = .int .i64 k ∧ k ≤ mn ∧ mn - k ≤ kx ∧ Hid (OwnRfs vs2.ownBlock wr 0 (.slice ma mn mc) M) ∧ Hid (OwnRfs vs2.ownBlock wr wx.heap.size vi (Tr.inTo P M k)) ∧ Hid (OwnInts wr L1.heap.size vs2 (ofN (F ++ Tr.goneTo P M k))) ∧ Hid (Kept L1 wr) ∧ wx.heap.size ≤ wr.heap.size)
        case atStart => exact ⟨0, _, _, rfl, rfl, rfl, Nat.zero_le _, by omega, HOM, Lib.hid (by simpa [Tr.inTo] using OwnRfs.nil _ _), Lib.hid (by simpa [Tr.goneTo] using HOSX.out), HKB, Nat.le_refl _⟩
        case round =>
          obtain ⟨k, vs2, vi, rfl, rfl, rfl, hk, hkx, HOM2, HI, HG, HK2, hszW⟩ := hrel
          obtain ⟨ia, ic, hvi, _⟩ := HI.out.slice
          obtain ⟨iN, hiN⟩ : ∃ iN, iN = (Tr.inTo P M k).length := ⟨_, rfl⟩
          rw [← hiN] at hvi
          subst hvi
          have HIN := Lib.hid hiN
          obtain ⟨ga, gn, gc, hvs⟩ := HG.out.ints.shape
          subst hvs
          clear hiN
          by_cases hlt : k < mn
          · have hkl : k < M.length := by have := HMN.out; omega
            obtain ⟨b, ra, rn, rc, rfl, hrn, hnd, hrg⟩ := HOM2.out.get k hkl
            have hrl := HOM2.out.lt M[k] (List.getElem_mem _)
            have hi1 := Tr.inTo_succ P M k hkl
            have hg1 := Tr.goneTo_succ P M k hkl
            have hil := Tr.inTo_len P M k
            have hgl := Tr.goneTo_len P M k
            obtain ⟨r, hr⟩ : ∃ r, r = M[k] := ⟨_, rfl⟩
            have HRE : Hid (evW r < 2 ^ V) := Lib.hid (ev_lt (HEM.out r (by rw [hr]; exact List.getElem_mem _)))
            rw [← hr] at hrn hnd hrg hrl hi1 hg1
            have HBY : Hid (∀ W, Kept wr W → Calls Tryz.prog 78 #[.agg #[.int .i64 kq, .slice p0 p1 p2, .bool lb, .slice l0 l1 l2, .slice d0 d1 d2], .bool bp, .int .i64 (evW r : Nat)] W fun e' w' => e' = .returned (.bool (P (evW r))) ∧ Kept W w') := Lib.hid fun W hk => HBE.out (evW r) W (HKL.out.trans (HK2.out.trans hk)) HRE.out
            have r2 := R2.out.kept HK2.out
            have k0 := r2.cell (i := 0) (by simp)
            have k1 := r2.cell (i := 1) (by simp)
            have k2 := r2.cell (i := 2) (by simp)
            have k3 := r2.cell (i := 3) (by simp)
            have k4 := r2.cell (i := 4) (by simp)
            simp only [List.getElem_cons_succ, List.getElem_cons_zero] at k0 k1 k2 k3 k4
            have HRL := Lib.hid hrl
            have HND := Lib.hid hnd
            have HI1 := Lib.hid hi1
            have HG1 := Lib.hid hg1
            have HRG := Lib.hid hrg
            have HLL : Hid ((Tr.inTo P M k).length ≤ 4096 ∧ (Tr.goneTo P M k).length ≤ 4096) := Lib.hid (by rw [← HMN.out] at hil hgl; omega)
            have hkn : (k : Int) < (mn : Int) := by omega
            have hswr : w.heap.size + 1 < wr.heap.size := by omega
            obtain ⟨z0, hz0⟩ : ∃ z0, z0 = evW r := ⟨_, rfl⟩
            have HZ0 := Lib.hid hz0
            rw [← hz0] at HRG HBY HG1 HI1
            obtain ⟨pb, hpb⟩ : ∃ pb, pb = P z0 := ⟨_, rfl⟩
            rw [← hpb] at HBY HG1 HI1
            clear hrl hnd hrg hi1 hg1 hil hgl hr hrn r2 hz0 hpb
            cases pb with
            | true =>
              have HI2 : Hid (Tr.inTo P M (k + 1) = Tr.inTo P M k) := Lib.hid (by have := HI1.out; simpa using this)
              have HG2 : Hid (Tr.goneTo P M (k + 1) = Tr.goneTo P M k ++ [z0]) := Lib.hid (by have := HG1.out; simpa using this)
              go_wp2_with (first | (with_reducible refine wpList_load_mid rfl 113 _ rfl b (k * 2) rfl _ _ HRG.out Tryz.underlying113 rfl (by kernel_rfl) ?_) | (go_at_call 78; refine (HBY.out _ ((Kept.refl _).alloc _)).mono ?_; rintro e w6 ⟨rfl, hk6⟩; have b0 := hk6.cell (p := ⟨wr.heap.size, 0, none⟩) (v := .int .i64 z0) (by simp); have HK6 := Lib.hid (((Kept.refl wr).alloc _).trans hk6); have hsz6 := hk6.size; simp only [World.size_alloc] at hsz6; clear hk6) | (at_builtin; refine app_int_at rfl _ _ rfl L1.heap.size _ (ofN (F ++ Tr.goneTo P M k)) rfl (HG.out.kept (HK6.out.alloc _)) _ (z0 : Int) rfl (by simp) (by have := HLL.out; simp [ofN]; omega) (by simp; omega) ?_; intro g7 cap7 w7 hown7 hg7 hat7 hb7; have O7 := Lib.hid hown7; have HB7 := Lib.hid hb7; have HG7 := Lib.hid hg7; have HA7 := Lib.hid hat7; clear hown7 hb7 hg7 hat7))
              go_roundg (mn - (k + 1))
              case measure => omega
              case rel =>
                refine ⟨k + 1, _, _, rfl, rfl, by go_num, by omega, Nat.le_refl _, Lib.hid ?_, Lib.hid ?_, Lib.hid ?_, Lib.hid (((HK2.out.trans HK6.out).alloc _).app HB7.out), by have := HB7.out.size; simp at this; omega⟩
                · exact OwnRfs.stepped (HOM2.out.kept (HK6.out.alloc _)) (HG.out.kept (HK6.out.alloc _)) HG7.out HA7.out
                · rw [HI2.out]
                  exact OwnRfs.stepped (HI.out.kept (HK6.out.alloc _)) (HG.out.kept (HK6.out.alloc _)) HG7.out HA7.out
                · rw [HG2.out]
                  have := O7.out
                  simpa [ofN] using this
            | false =>
              have HI2 : Hid (Tr.inTo P M (k + 1) = Tr.inTo P M k ++ [r]) := Lib.hid (by have := HI1.out; rw [if_neg (by simp)] at this; rw [this])
              have HG2 : Hid (Tr.goneTo P M (k + 1) = Tr.goneTo P M k) := Lib.hid (by have := HG1.out; simpa using this)
              obtain ⟨cells, hcl⟩ : ∃ cells, wr.ownsRow wx.heap.size 113 2 (.slice ia iN ic) (Tr.inTo P M k).length cells := by obtain ⟨cells, h, _⟩ := HI.out; exact ⟨cells, h⟩
              have HCL := Lib.hid hcl
              have hne : ∀ g, (Value.slice (some ⟨b, 0, none⟩) mn mc).ownBlock = some g → some g ≠ (Value.slice ia iN ic).ownBlock := fun g hg he => by
                have h1 := HMG.out g hg
                have h2 := (HI.out.own_ge he.symm).1
                omega
              have HNE := Lib.hid hne
              clear hcl hne
              go_wp2_with (first | (with_reducible refine wpList_load_mid rfl 113 _ rfl b (k * 2) rfl _ _ HRG.out Tryz.underlying113 rfl (by kernel_rfl) ?_) | (go_at_call 78; refine (HBY.out _ ((Kept.refl _).alloc _)).mono ?_; rintro e w6 ⟨rfl, hk6⟩; have b0 := hk6.cell (p := ⟨wr.heap.size, 0, none⟩) (v := .int .i64 z0) (by simp); have b1 := hk6.cell (p := ⟨wr.heap.size, 1, none⟩) (v := .slice ra rn rc) (by simp); have HK6 := Lib.hid (((Kept.refl wr).alloc _).trans hk6); have hsz6 := hk6.size; simp only [World.size_alloc] at hsz6; clear hk6) | (at_builtin; refine app_rf2 rfl _ _ rfl wx.heap.size _ (Tr.inTo P M k) rfl (HI.out.kept (HK6.out.alloc _)) w6.heap.size r (.slice ra rn rc) rfl (two_range (by rw [← HZ0.out]; simp) (by simp)) (HND.out.kept (HK6.out.alloc _)) HRL.out (by have := HLL.out; omega) (by simp; omega) ?_; intro v7 w7 hown7 hg7 hb7; have O7 := Lib.hid hown7; have HB7 := Lib.hid hb7; have HG7 := Lib.hid hg7; clear hown7 hb7 hg7))
              go_roundg (mn - (k + 1))
              case measure => omega
              case rel =>
                refine ⟨k + 1, _, _, rfl, rfl, by go_num, by omega, Nat.le_refl _, Lib.hid ?_, Lib.hid ?_, Lib.hid ?_, Lib.hid (((HK2.out.trans HK6.out).alloc _).app (HB7.out.mono hszX)), by have := HB7.out.size; simp at this; omega⟩
                · exact OwnRfs.grownR (HOM2.out.kept (HK6.out.alloc _)) (own_kept HCL.out (HK6.out.alloc _)) HG7.out HNE.out
                · rw [HI2.out]; exact O7.out
                · rw [HG2.out]
                  exact OwnInts.grownR (HG.out.kept (HK6.out.alloc _)) (own_kept HCL.out (HK6.out.alloc _)) HG7.out
          · have hke : k = mn := by omega
            have HST : Hid (OwnRfs (Value.slice ga gn gc).ownBlock wr wx.heap.size (.slice ia iN ic) (M.filter fun r => !P (evW r))) := Lib.hid (by have h := HI.out; unfold Tr.inTo at h; rw [hke, HMN.out, List.take_length] at h; exact h)
            have HGO : Hid (OwnInts wr L1.heap.size (.slice ga gn gc) (ofN (F ++ (M.filter fun r => P (evW r)).map evW))) := Lib.hid (by have h := HG.out; unfold Tr.goneTo at h; rw [hke, HMN.out, List.take_length] at h; exact h)
            obtain ⟨S, hS⟩ : ∃ S, S = M.filter fun r => !P (evW r) := ⟨_, rfl⟩
            obtain ⟨G, hG⟩ : ∃ G, G = F ++ (M.filter fun r => P (evW r)).map evW := ⟨_, rfl⟩
            rw [← hS] at HST
            rw [← hG] at HGO
            have HSR : Hid (settleR P M = minK S) := Lib.hid (by unfold settleR; rw [hS])
            have HSF : Hid (settleF P M F = minK G) := Lib.hid (by unfold settleF; rw [hG])
            have hGl : G.length ≤ 5120 := by
              rw [hG, List.length_append, List.length_map]
              have := List.length_filter_le (fun r => P (evW r)) M
              rw [← HMN.out] at this
              omega
            have HGM : Hid (∀ t ∈ G, Mk t) := Lib.hid fun t ht => by
              rw [hG] at ht
              rcases List.mem_append.1 ht with h | h
              · exact HP.out.mkF t h
              · obtain ⟨r, _, rfl⟩ := List.mem_map.1 h; exact evW_lt r
            have HMI := Lib.hid (rminimal_any wx.heap.size _ S wr HST.out)
            have HGL := Lib.hid hGl
            clear hke hS hG hGl HI HG HOM2
            go_wp2_with fail
            refine HMI.out.mono ?_
            rintro e w6 ⟨⟨v6, rfl, ho6⟩, hk6⟩
            obtain ⟨va6, vc6, hv6, _⟩ := ho6.slice
            obtain ⟨RM, hRM⟩ : ∃ RM, RM = refMin S := ⟨_, rfl⟩
            rw [← hRM] at ho6 hv6
            obtain ⟨n6, hn6⟩ : ∃ n6, n6 = RM.length := ⟨_, rfl⟩
            rw [← hn6] at hv6
            subst hv6
            have HO6 := Lib.hid ho6
            have HN6 := Lib.hid hn6
            have HRP : Hid (RM.Perm (settleR P M)) := Lib.hid (by rw [HSR.out, hRM]; exact refMin_perm S)
            have HK6 := Lib.hid hk6
            have HLE := Lib.hid (least_own G (.slice ga gn gc) w6 ⟨(HGO.out.kept hk6).ints, HGM.out⟩ (by have := HGL.out; omega))
            clear ho6 hn6 hRM hk6 HMI
            go_wp2_with fail
            refine HLE.out.mono ?_
            rintro e w8 ⟨⟨v8, rfl, ho8⟩, hk8⟩
            obtain ⟨fa, fn, fc, rfl⟩ := ho8.1.ints.shape
            have hfn : fn = (minK G).length := ints_len' ho8.1.ints
            have HFN := Lib.hid (hfn.trans (by rw [HSF.out]) : fn = (settleF P M F).length)
            have HFR : Hid (OwnInts w8 L1.heap.size (.slice fa fn fc) (ofN (settleF P M F))) := Lib.hid (by
              rw [HSF.out]
              have h1 := HK2.out.size
              have h2 := HK6.out.size
              exact ho8.1.mono (by omega))
            have HLS : Hid (OwnRfs (Value.slice fa fn fc).ownBlock w8 0 (.slice va6 n6 vc6) RM) := Lib.hid ((HO6.out.fresh hk8 fun g hg => (ho8.1.1.lt g hg).1).mono (Nat.zero_le _))
            have HK8 : Hid (Kept L1 w8) := Lib.hid ((HK2.out.trans HK6.out).trans hk8)
            have HRN : Hid (n6 = (settleR P M).length) := Lib.hid (HN6.out.trans HRP.out.length_eq)
            have hn69 : n6 ≤ 20000 := by rw [HN6.out]; exact HO6.out.len
            have hfn9 : fn ≤ 20000 := by rw [hfn]; have h := len_minK G; have := HGL.out; omega
            have hsz8 := hk8.size
            clear ho8 hk8 hfn HLE HST HGO
            have r3 := R3.out.kept HK8.out
            have t0 := r3.cell (i := 0) (by simp)
            have t1 := r3.cell (i := 1) (by simp)
            have u0 := r3.free 0
            have u1 := r3.free 1
            simp only [List.getElem_cons_succ, List.getElem_cons_zero] at t0 t1
            clear r3
            by_cases hbig : 1024 < n6 ∨ 1024 < fn
            · have HNO : Hid (topT V T P f.nodes = none) := Lib.hid (HP.out.bad (by rw [← HRN.out, ← HFN.out]; exact hbig))
              have HK9 := Lib.hid (HKL.out.trans HK8.out)
              have e4 : (SRes (((w8.setCell ⟨w.heap.size + 1 + 1, 0, none⟩ (.slice none 0 0)).setCell ⟨w.heap.size + 1 + 1, 1, none⟩ (.slice none 0 0))) (.returned (.tuple #[.agg #[.slice none 0 0, .slice none 0 0], .int .i64 4])) (topT V T P f.nodes)) := by rw [HNO.out]; rfl
              have HE4 := Lib.hid e4
              clear e4
              by_cases hb1 : 1024 < n6
              · have hb1' : (n6 : Int) > 1024 := by omega
                clear hbig
                go_wp2
                refine bodyPost_ret (v := .tuple #[.agg #[.slice none 0 0, .slice none 0 0], .int .i64 4]) ?_ rfl ⟨HE4.out, ((HK9.out.store (by omega) 0 _).store (by omega) 1 _)⟩
                simp [results, Tryz.results39, go_sem, t0, t1]
              · have hb1' : ¬ (n6 : Int) > 1024 := by omega
                have hb2' : (fn : Int) > 1024 := by omega
                clear hbig
                go_wp2
                refine bodyPost_ret (v := .tuple #[.agg #[.slice none 0 0, .slice none 0 0], .int .i64 4]) ?_ rfl ⟨HE4.out, ((HK9.out.store (by omega) 0 _).store (by omega) 1 _)⟩
                simp [results, Tryz.results39, go_sem, t0, t1]
            · have hb1' : ¬ (n6 : Int) > 1024 := by omega
              have hb2' : ¬ (fn : Int) > 1024 := by omega
              have HTS : Hid (TStand V T f P RM (settleF P M F) m) := Lib.hid (HP.out.good RM HRP.out (by rw [← HRN.out, ← HFN.out]; exact hbig))
              have HG9 := Lib.hid (rgreatest_any 0 _ RM w8 HLS.out)
              obtain ⟨F2, hF2⟩ : ∃ F2, F2 = settleF P M F := ⟨_, rfl⟩
              rw [← hF2] at HTS HFR
              have hn61 : n6 ≤ 1024 := by omega
              clear hbig hF2 HFN
              go_wp2_with fail
              refine HG9.out.mono ?_
              rintro e w9 ⟨⟨r, rfl, hgt⟩, hk9⟩
              have HGT := Lib.hid hgt
              have HK9 : Hid (Kept L1 w9) := Lib.hid (HK8.out.trans hk9)
              have HL9 := Lib.hid (HLS.out.kept hk9)
              have HF9 := Lib.hid (HFR.out.kept hk9)
              have t0' := hk9.cell t0
              have t1' := hk9.cell t1
              have r3' := R3.out.kept HK9.out
              have u0' := r3'.free 0
              have u1' := r3'.free 1
              have hsz9 := HK9.out.size
              clear hgt hk9 r3' t0 t1 u0 u1 HG9
              by_cases hneg : r < 0
              · have HDN : Hid (∃ R', topT V T P f.nodes = some (R', F2) ∧ RM.Perm R') := Lib.hid (HTS.out.done fun c hc j hj => by have := HGT.out.1 c hc j hj; omega)
                go_wp2
                go_loopg [17, 91] n6 (fun kx s17 s91 wz => ∃ (k : Nat) (vo : Value), s17 = vo ∧ s91 = .int .i64 k ∧ k ≤ n6 ∧ n6 - k ≤ kx ∧ Hid (OwnInts wz w9.heap.size vo (ofN ((RM.take k).map evW))) ∧ Hid (Kept w9 wz))
                case atStart => exact ⟨0, _, rfl, rfl, Nat.zero_le _, by omega, Lib.hid (by simpa [ofN] using OwnInts.nil _ _), Lib.hid (Kept.refl _)⟩
                case round =>
                  obtain ⟨k, vo, rfl, rfl, hk, hkx, HO, HKZ⟩ := hrel
                  have hsz := HKZ.out.size
                  obtain ⟨ao, no, co, hvo⟩ := HO.out.ints.shape
                  subst hvo
                  by_cases hlt : k < n6
                  · have hkl : k < RM.length := by have := HN6.out; omega
                    obtain ⟨b, ra, rn, rc, rfl, hrn, hnd, hrg⟩ := (HL9.out.kept HKZ.out).get k hkl
                    have hnext : ofN ((RM.take (k + 1)).map evW) = ofN ((RM.take k).map evW) ++ [((evW RM[k] : Nat) : Int)] := by unfold ofN; rw [List.take_succ_eq_append_getElem hkl, List.map_append, List.map_append]; rfl
                    have hlen : (ofN ((RM.take k).map evW)).length = k := by simp [ofN]; omega
                    have hkn : (k : Int) < (n6 : Int) := by omega
                    have HRG := Lib.hid hrg
                    have HNX := Lib.hid hnext
                    generalize evW RM[k] = z0 at *
                    clear hrg hnext hrn hnd
                    go_wp2_with (first | (with_reducible refine wpList_load_mid rfl 113 _ rfl b (k * 2) rfl _ _ HRG.out Tryz.underlying113 rfl (by kernel_rfl) ?_) | (at_builtin; refine app_int rfl _ _ rfl w9.heap.size _ (ofN ((RM.take k).map evW)) rfl (HO.out.kept (((Kept.refl _).alloc _).alloc _)) _ (z0 : Int) rfl (by simp) (by rw [hlen]; omega) (by simp; omega) ?_; intro v7 w7 hown7 _ hb7; have O7 := Lib.hid hown7; have HB7 := Lib.hid hb7; clear hown7 hb7))
                    go_roundg (n6 - (k + 1))
                    case measure => omega
                    case rel => exact ⟨k + 1, v7, rfl, by go_num, by omega, Nat.le_refl _, Lib.hid (by rw [HNX.out]; exact O7.out), Lib.hid (((HKZ.out.alloc _).alloc _).app HB7.out)⟩
                  · have hke : k = n6 := by omega
                    have HFI : Hid (SetsAt wr (.slice ao no co) (RM.map evW)) := Lib.hid ⟨by have h := HO.out; rw [hke, HN6.out, List.take_length] at h; exact h.ints, fun t ht => by obtain ⟨r, _, rfl⟩ := List.mem_map.1 ht; exact evW_lt r⟩
                    have HSO := Lib.hid (rsort_any _ (RM.map evW) (.slice ao no co) wr (Nat.le_refl _) HFI.out (by simp; have := HN6.out; omega))
                    have HTZ : Hid (RowAt wr (w.heap.size + 1 + 1) 34 [.slice none 0 0, .slice none 0 0]) := Lib.hid ((R3.out.kept HK9.out).kept HKZ.out)
                    have HKF : Hid (Kept w wr) := Lib.hid ((HKL.out.trans HK9.out).trans HKZ.out)
                    have HFZ : Hid (OwnInts wr L1.heap.size (.slice fa fn fc) (ofN F2)) := Lib.hid (HF9.out.kept HKZ.out)
                    clear hke HO
                    go_wp2_with (go_at_call 82; refine HSO.out.mono ?_; rintro e w10 ⟨⟨v10, rfl, ho10⟩, hk10⟩; obtain ⟨sa10, sn10, sc10, rfl⟩ := ho10.1.ints.shape; have HO10 := Lib.hid ho10; have HK10 := Lib.hid hk10; have ht := HTZ.out.kept hk10; have HT10 := Lib.hid ht; have y0 := ht.cell (i := 0) (by simp); have y1 := ht.cell (i := 1) (by simp); have y2 := ht.free 0; have y3 := ht.free 1; simp only [List.getElem_cons_succ, List.getElem_cons_zero] at y0 y1; clear ho10 hk10 ht)
                    refine bodyPost_ret (v := .tuple #[.agg #[.slice sa10 sn10 sc10, .slice fa fn fc], .int .i64 0]) ?_ rfl ⟨?_, (((HKF.out.trans HK10.out).store (by omega) 0 _).store (by omega) 1 _)⟩
                    · simp [results, Tryz.results39, go_sem, y0, y1]
                    · obtain ⟨R', hR, hp⟩ := HDN.out
                      have hT : TopT V T f P R' F2 := topT_says HOK.out HSY.out P hR
                      rw [hR]
                      refine ⟨_, _, rfl, ?_, ?_⟩
                      · have h := HO10.out.1.ints
                        rw [sort_kept hT.goodR hT.mkR hp] at h
                        exact Tr.cutoff_ints HT10.out ⟨_, _, _, rfl⟩ h
                      · exact Tr.cutoff_ints HT10.out ⟨_, _, _, rfl⟩ (HFZ.out.kept HK10.out).ints
              · obtain ⟨i, rfl, hib⟩ := HGT.out.2.resolve_left (by omega)
                have HAT : Hid (RefAt V T f P RM F2 (i : Int) m) := Lib.hid (.inr ⟨m, i, rfl, Nat.le_refl _, HTS.out, hib, fun c hc j hj => by have := HGT.out.1 c hc j hj; omega⟩)
                clear hib
                go_wp2
                go_roundg m
                case measure => omega
                case rel => exact ⟨RM, F2, _, _, i, m, rfl, rfl, rfl, Nat.le_refl _, HL9, HF9, HK9, HAT, Lib.hid (fun c hc => HEM.out c (mem_settleR (HRP.out.mem_iff.1 hc)).1)⟩
end Go.Proofs.YteodabnjkikogaaGreat

/-
  Walks: faultlineref35.beyond by probability, ByProb. Printed by gen_Y33.py.
-/
namespace Go.Proofs.YteodabnjkikogaaGreat
open Go.RowKit

set_option maxRecDepth 100000 in
set_option maxHeartbeats 4000000 in
theorem beyond_prob (ps : List Rw) (l : Rw) (e pn pc : Nat) (pa a1 a2 : Option Addr) (z1 : Bool) (z2 c1 z3 c2 : Nat) (w : World) (hv : RatsAt w (.slice pa pn pc) ps) (h3 : ∀ r ∈ ps, r.Short 3) (hl : RatAt w (.agg #[.bool z1, .slice a1 z2 c1, .slice a2 z3 c2]) l) (hl3 : l.Short 3) (V : Nat) (hV : V ≤ 24) (hpV : ps.length = V) (he : e < 2 ^ V) :
    Calls Tryz.prog 78 #[.agg #[.int .i64 0, .slice pa pn pc, .bool z1, .slice a1 z2 c1, .slice a2 z3 c2], .bool true, .int .i64 (e : Nat)] w fun e' w' => e' = .returned (.bool (overQ ps (ratOf l) e)) ∧ Kept w w' := by
  have he24 : e < 16777216 := by
    have h1 : 2 ^ V ≤ 2 ^ 24 := Nat.pow_le_pow_right (by omega) hV
    have e1 : (2 : Nat) ^ 24 = 16777216 := rfl
    omega
  have hg : gtK e < (ps.length : Int) := by
    have h1 := Lib.bitLen_le e V (by omega) he
    unfold gtK
    omega
  have HP := Lib.hid (fun W (hk : Kept w W) => refproduct_any e _ ps W he24 (hv.kept hk) h3 hg)
  have hsh := prod_short (s := e) h3 hv.ok ps.length (Nat.le_refl _)
  have HC : Hid (∀ W u, Kept w W → RatAt W u (canR (prodQ e ps ps.length)) → Calls Tryz.prog 55 #[u, .agg #[.bool z1, .slice a1 z2 c1, .slice a2 z3 c2]] W fun e' w' => e' = .returned (.int .i64 (sgnR (prodQ e ps ps.length - ratOf l))) ∧ Kept W w') := Lib.hid fun W u hk hu => by
    have h := refcmp02_any u _ _ l W hu (hl.kept hk) ⟨Nat.le_trans hsh.1 (by omega), Nat.le_trans hsh.2 (by omega)⟩ ⟨Nat.le_trans hl3.1 (by omega), Nat.le_trans hl3.2 (by omega)⟩
    rw [ratOf_can] at h
    exact h
  unfold overQ
  generalize sgnR (prodQ e ps ps.length - ratOf l) = S at *
  generalize canR (prodQ e ps ps.length) = R at *
  have hr := RowAt.made w #[.int .i64 0, .slice pa pn pc, .bool z1, .slice a1 z2 c1, .slice a2 z3 c2] 75
  have HK0 : Hid (Kept w (w.alloc (.cells #[.int .i64 0, .slice pa pn pc, .bool z1, .slice a1 z2 c1, .slice a2 z3 c2] 75))) := Lib.hid ((Kept.refl w).alloc _)
  have x1 := hr.cell (i := 2) (by simp)
  have x2 := hr.cell (i := 3) (by simp)
  have x3 := hr.cell (i := 4) (by simp)
  simp only [List.getElem_cons_succ, List.getElem_cons_zero] at x1 x2 x3
  clear hv hl h3 hl3 he hsh hg he24 hr
  go_enter Tryz.func78, Tryz.ntmps78
  go_wp2
  go_region_with (first
    | (go_at_call 46; (with_reducible refine (HP.out _ HK0.out.drew).mono ?_); rintro e w3 ⟨⟨v3, rfl, hv3⟩, hk3⟩; have hkd := (Kept.refl _).drew.trans hk3; have i1 := hkd.cell x1; have i2 := hkd.cell x2; have i3 := hkd.cell x3; have HV3 := Lib.hid hv3; have HKD := Lib.hid (HK0.out.trans hkd); clear hv3 hk3 hkd)
    | (go_at_call 55; (with_reducible refine (HC.out _ _ HKD.out HV3.out).mono ?_); rintro e w4 ⟨rfl, hk4⟩; have HK4 := Lib.hid (HKD.out.trans hk4); clear hk4))
  all_goals
    go_wp2
    go_ret
    exact ⟨rfl, HK4.out⟩
set_option maxRecDepth 100000 in
set_option maxHeartbeats 8000000 in
theorem rbyP_any (v pv lv : Value) (f : Fm) (V T : Nat) (ps : List Rw) (l : Rw) (w : World) (hv : NodesAt w v f.nodes) (hok : Ok f V T) (hp : RatsAt w pv ps) (h3 : ∀ r ∈ ps, r.Short 3) (hl : RatAt w lv l) (hl3 : l.Short 3) :
    Calls Tryz.prog 14 #[.agg #[.int .i64 V, v, .int .i64 T], pv, lv] w fun e w' => (∃ kv fv, e = .returned (.tuple #[.agg #[kv, fv], .int .i64 ((byPR V T f ps l).1 : Nat)]) ∧ IntsAt w' kv (ofN (byPR V T f ps l).2.1) ∧ IntsAt w' fv (ofN (byPR V T f ps l).2.2)) ∧ Kept w w' := by
  have HC := Lib.hid (fun W (hk : Kept w W) => typed_any v f V T W (hv.kept hk) hok)
  have hsh : ∃ a n c, v = .slice a n c := by obtain ⟨a, c, h, _⟩ := hv; exact ⟨a, _, c, h⟩
  have HV := Lib.hid hv
  have HP := Lib.hid hp
  have H3 := Lib.hid h3
  have HL3 := Lib.hid hl3
  have HOK := Lib.hid hok
  have HBA := Lib.hid (fun W (h : Kept w W) => refbad_any pv ps W (hp.kept h) (fun r hr => ⟨Nat.le_trans (h3 r hr).1 (by omega), Nat.le_trans (h3 r hr).2 (by omega)⟩))
  have HPR := Lib.hid (fun W (h : Kept w W) => refprob_any lv l W (hl.kept h) ⟨Nat.le_trans hl3.1 (by omega), Nat.le_trans hl3.2 (by omega)⟩)
  obtain ⟨a, n, c, rfl⟩ := hsh
  obtain ⟨pa, pc, hps⟩ := hp.shape
  obtain ⟨pn, hpn⟩ : ∃ pn, pn = ps.length := ⟨_, rfl⟩
  rw [← hpn] at hps
  subst hps
  obtain ⟨u1, u2, rfl, k1, k2⟩ := hl
  obtain ⟨a1, c1, rfl⟩ := k1.shape
  obtain ⟨a2, c2, rfl⟩ := k2.shape
  obtain ⟨w4, hw4⟩ : ∃ w4, w4 = ((w.alloc (.cells #[.int .i64 V, .slice a n c, .int .i64 T] 24)).alloc (.cells #[.bool l.neg, .slice a1 l.num.length c1, .slice a2 l.den.length c2] 28)).alloc (.cells #[.slice none 0 0, .slice none 0 0] 34) := ⟨_, rfl⟩
  have HBF : Hid (RowAt w4 w.heap.size 24 [.int .i64 V, .slice a n c, .int .i64 T]) := Lib.hid (by rw [hw4]; exact (RowAt.made w #[.int .i64 V, .slice a n c, .int .i64 T] 24).kept (((Kept.refl _).alloc _).alloc _))
  have HLR : Hid (RatAt w (.agg #[.bool l.neg, .slice a1 l.num.length c1, .slice a2 l.den.length c2]) l) := Lib.hid ⟨_, _, rfl, k1, k2⟩
  have HLC : Hid (RowAt w4 (w.heap.size + 1) 28 [.bool l.neg, .slice a1 l.num.length c1, .slice a2 l.den.length c2]) := Lib.hid (by
    have h := (RowAt.made (w.alloc (.cells #[.int .i64 V, .slice a n c, .int .i64 T] 24)) #[.bool l.neg, .slice a1 l.num.length c1, .slice a2 l.den.length c2] 28).kept ((Kept.refl _).alloc (.cells #[.slice none 0 0, .slice none 0 0] 34))
    rw [← hw4] at h
    simpa using h)
  have HRS : Hid (RowAt w4 (w.heap.size + 1 + 1) 34 [.slice none 0 0, .slice none 0 0]) := Lib.hid (by
    have h := RowAt.made ((w.alloc (.cells #[.int .i64 V, .slice a n c, .int .i64 T] 24)).alloc (.cells #[.bool l.neg, .slice a1 l.num.length c1, .slice a2 l.den.length c2] 28)) #[.slice none 0 0, .slice none 0 0] 34
    rw [← hw4] at h
    simpa using h)
  have HK0 : Hid (Kept w w4) := Lib.hid (by rw [hw4]; exact (((Kept.refl w).alloc _).alloc _).alloc _)
  have HW4 := Lib.hid hw4
  have HPN := Lib.hid hpn
  generalize hz1 : l.neg = z1 at *
  generalize hz2 : l.num.length = z2 at *
  generalize hz3 : l.den.length = z3 at *
  have HZ := Lib.hid (And.intro hz1 (And.intro hz2 hz3))
  clear hz1 hz2 hz3 hv hp h3 hl3 hok k1 k2 hw4 hpn
  have b0 := HBF.out.cell (i := 0) (by simp)
  have b1 := HBF.out.cell (i := 1) (by simp)
  have b2 := HBF.out.cell (i := 2) (by simp)
  simp only [List.getElem_cons_succ, List.getElem_cons_zero] at b0 b1 b2
  have l0 := HLC.out.cell (i := 0) (by simp)
  have l1 := HLC.out.cell (i := 1) (by simp)
  have l2 := HLC.out.cell (i := 2) (by simp)
  simp only [List.getElem_cons_succ, List.getElem_cons_zero] at l0 l1 l2
  cases hsy : synK V T f with
  | false =>
    have e7 : byPR V T f ps l = (7, [], []) := by unfold byPR; rw [if_pos hsy]
    rw [e7]
    rw [hsy] at HC
    simp only [Bool.false_eq_true, if_false] at HC
    clear hsy e7
    go_enter Tryz.func14, Tryz.ntmps14
    go_wp2_with fail
    rw [← HW4.out]
    refine (HC.out _ HK0.out).mono ?_
    rintro e w5 ⟨rfl, hk5⟩
    have HT := Lib.hid (HRS.out.kept hk5)
    have HKE := Lib.hid (HK0.out.trans hk5)
    clear hk5
    have g0 := HT.out.cell (i := 0) (by simp)
    have g1 := HT.out.cell (i := 1) (by simp)
    have g2 := HT.out.free 0
    have g3 := HT.out.free 1
    have hlt := HT.out.lt
    simp only [List.getElem_cons_succ, List.getElem_cons_zero] at g0 g1
    go_wp2
    refine bodyPost_ret (v := .tuple #[.agg #[.slice none 0 0, .slice none 0 0], .int .i64 (7 : Nat)]) ?_ rfl ⟨⟨_, _, rfl, IntsAt.nil _, IntsAt.nil _⟩, (HKE.out.store (by omega) 0 _).store (by omega) 1 _⟩
    simp [results, Tryz.results14, go_sem, g0, g1]
  | true =>
    rw [hsy] at HC
    simp only [if_true] at HC
    by_cases hlen : pn = V
    · cases hbad : badR ps with
      | true =>
        have e3 : byPR V T f ps l = (3, [], []) := by unfold byPR; rw [if_neg (by simp [hsy]), if_neg (by have := HPN.out; omega), if_pos hbad]
        rw [e3]
        rw [hbad] at HBA
        have hne : ((pn : Int) == (V : Int)) = true := by simp; omega
        have hne2 : ((pn : Int) != (V : Int)) = false := by simp [bne]; omega
        clear hsy e3 hbad hlen
        go_enter Tryz.func14, Tryz.ntmps14
        go_wp2_with fail
        rw [← HW4.out]
        refine (HC.out _ HK0.out).mono ?_
        rintro e w5 ⟨rfl, hk5⟩
        have HT5 := Lib.hid (HRS.out.kept hk5)
        have HK5 := Lib.hid (HK0.out.trans hk5)
        have HK05 := Lib.hid hk5
        have b50 := hk5.cell b0
        have b51 := hk5.cell b1
        have b52 := hk5.cell b2
        have l50 := hk5.cell l0
        have l51 := hk5.cell l1
        have l52 := hk5.cell l2
        clear hk5
        go_wp2_with fail
        refine (HBA.out _ HK5.out).mono ?_
        rintro e w6 ⟨rfl, hk6⟩
        have HT := Lib.hid (HT5.out.kept hk6)
        have HKE := Lib.hid (HK5.out.trans hk6)
        clear hk6
        have g0 := HT.out.cell (i := 0) (by simp)
        have g1 := HT.out.cell (i := 1) (by simp)
        have g2 := HT.out.free 0
        have g3 := HT.out.free 1
        have hlt := HT.out.lt
        simp only [List.getElem_cons_succ, List.getElem_cons_zero] at g0 g1
        go_wp2
        refine bodyPost_ret (v := .tuple #[.agg #[.slice none 0 0, .slice none 0 0], .int .i64 (3 : Nat)]) ?_ rfl ⟨⟨_, _, rfl, IntsAt.nil _, IntsAt.nil _⟩, (HKE.out.store (by omega) 0 _).store (by omega) 1 _⟩
        simp [results, Tryz.results14, go_sem, g0, g1]
      | false =>
        rw [hbad] at HBA
        cases hpr : probR l with
        | false =>
          have e3 : byPR V T f ps l = (3, [], []) := by unfold byPR; rw [if_neg (by simp [hsy]), if_neg (by have := HPN.out; omega), if_neg (by simp [hbad]), if_pos hpr]
          rw [e3]
          rw [hpr] at HPR
          have hne : ((pn : Int) == (V : Int)) = true := by simp; omega
          have hne2 : ((pn : Int) != (V : Int)) = false := by simp [bne]; omega
          clear hsy e3 hbad hpr hlen
          go_enter Tryz.func14, Tryz.ntmps14
          go_wp2_with fail
          rw [← HW4.out]
          refine (HC.out _ HK0.out).mono ?_
          rintro e w5 ⟨rfl, hk5⟩
          have HT5 := Lib.hid (HRS.out.kept hk5)
          have HK5 := Lib.hid (HK0.out.trans hk5)
          have HK05 := Lib.hid hk5
          have b50 := hk5.cell b0
          have b51 := hk5.cell b1
          have b52 := hk5.cell b2
          have l50 := hk5.cell l0
          have l51 := hk5.cell l1
          have l52 := hk5.cell l2
          clear hk5
          go_wp2_with fail
          refine (HBA.out _ HK5.out).mono ?_
          rintro e w6 ⟨rfl, hk6⟩
          have m0 := hk6.cell l50
          have m1 := hk6.cell l51
          have m2 := hk6.cell l52
          have HT6 := Lib.hid (HT5.out.kept hk6)
          have HK6 := Lib.hid (HK5.out.trans hk6)
          clear hk6
          go_wp2_with fail
          refine (HPR.out _ HK6.out).mono ?_
          rintro e w7 ⟨rfl, hk7⟩
          have HT := Lib.hid (HT6.out.kept hk7)
          have HKE := Lib.hid (HK6.out.trans hk7)
          clear hk7
          have g0 := HT.out.cell (i := 0) (by simp)
          have g1 := HT.out.cell (i := 1) (by simp)
          have g2 := HT.out.free 0
          have g3 := HT.out.free 1
          have hlt := HT.out.lt
          simp only [List.getElem_cons_succ, List.getElem_cons_zero] at g0 g1
          go_wp2
          refine bodyPost_ret (v := .tuple #[.agg #[.slice none 0 0, .slice none 0 0], .int .i64 (3 : Nat)]) ?_ rfl ⟨⟨_, _, rfl, IntsAt.nil _, IntsAt.nil _⟩, (HKE.out.store (by omega) 0 _).store (by omega) 1 _⟩
          simp [results, Tryz.results14, go_sem, g0, g1]
        | true =>
          rw [hpr] at HPR
          have eP : byPR V T f ps l = match topT V T (overQ ps (ratOf l)) f.nodes with | none => (4, [], []) | some p => (0, p.1, p.2) := by unfold byPR; rw [if_neg (by simp [hsy]), if_neg (by have := HPN.out; omega), if_neg (by simp [hbad]), if_neg (by simp [hpr])] <;> rfl
          have HRUN : Hid (∀ W, Kept w4 W → Kept w W → Calls Tryz.prog 39 #[.agg #[.int .i64 V, .slice a n c, .int .i64 T], .agg #[.int .i64 0, .slice pa pn pc, .bool z1, .slice a1 z2 c1, .slice a2 z3 c2], .bool true] W fun e w' => SRes w' e (topT V T (overQ ps (ratOf l)) f.nodes) ∧ Kept W w') := Lib.hid fun W hk hk0 => by
            refine rrunV_any _ f V T (overQ ps (ratOf l)) true z1 0 pa a1 a2 pn pc z2 c1 z3 c2 W (HV.out.kept hk0) HOK.out hsy fun e W' hk' he => ?_
            have h := beyond_prob ps l e pn pc pa _ _ _ _ _ _ _ W' (HP.out.kept (hk0.trans hk')) H3.out (HLR.out.kept (hk0.trans hk')) HL3.out V HOK.out.v24 (by have := HPN.out; omega) he
            exact h
          have hne : ((pn : Int) == (V : Int)) = true := by simp; omega
          have hne2 : ((pn : Int) != (V : Int)) = false := by simp [bne]; omega
          have HSY := Lib.hid hsy
          clear hbad hpr hsy hlen
          cases hto : topT V T (overQ ps (ratOf l)) f.nodes with
          | none =>
            rw [hto] at HRUN eP
            simp only at eP
            rw [eP]
            clear eP hto
            go_enter Tryz.func14, Tryz.ntmps14
            go_wp2_with fail
            rw [← HW4.out]
            refine (HC.out _ HK0.out).mono ?_
            rintro e w5 ⟨rfl, hk5⟩
            have HT5 := Lib.hid (HRS.out.kept hk5)
            have HK5 := Lib.hid (HK0.out.trans hk5)
            have HK05 := Lib.hid hk5
            have b50 := hk5.cell b0
            have b51 := hk5.cell b1
            have b52 := hk5.cell b2
            have l50 := hk5.cell l0
            have l51 := hk5.cell l1
            have l52 := hk5.cell l2
            clear hk5
            go_wp2_with fail
            refine (HBA.out _ HK5.out).mono ?_
            rintro e w6 ⟨rfl, hk6⟩
            have m0 := hk6.cell l50
            have m1 := hk6.cell l51
            have m2 := hk6.cell l52
            have c60 := hk6.cell b50
            have c61 := hk6.cell b51
            have c62 := hk6.cell b52
            have HT6 := Lib.hid (HT5.out.kept hk6)
            have HK6 := Lib.hid (HK5.out.trans hk6)
            have HK06 := Lib.hid (HK05.out.trans hk6)
            clear hk6
            go_wp2_with fail
            refine (HPR.out _ HK6.out).mono ?_
            rintro e w7 ⟨rfl, hk7⟩
            have c70 := hk7.cell c60
            have c71 := hk7.cell c61
            have c72 := hk7.cell c62
            have m70 := hk7.cell m0
            have m71 := hk7.cell m1
            have m72 := hk7.cell m2
            have HT7 := Lib.hid (HT6.out.kept hk7)
            have HK7 := Lib.hid (HK6.out.trans hk7)
            have HK07 := Lib.hid (HK06.out.trans hk7)
            clear hk7 b50 b51 b52 c60 c61 c62 l50 l51 l52 m0 m1 m2
            go_wp2_with fail
            refine (HRUN.out _ HK07.out HK7.out).mono ?_
            rintro e w8 ⟨hres, hk8⟩
            have HT := Lib.hid (HT7.out.kept hk8)
            have HKE := Lib.hid (HK7.out.trans hk8)
            clear hk8
            have HE := hres
            unfold SRes at HE
            subst HE
            have g0 := HT.out.cell (i := 0) (by simp)
            have g1 := HT.out.cell (i := 1) (by simp)
            have g2 := HT.out.free 0
            have g3 := HT.out.free 1
            have hlt := HT.out.lt
            simp only [List.getElem_cons_succ, List.getElem_cons_zero] at g0 g1
            go_wp2
            refine bodyPost_ret (v := .tuple #[.agg #[.slice none 0 0, .slice none 0 0], .int .i64 (4 : Nat)]) ?_ rfl ⟨⟨_, _, rfl, IntsAt.nil _, IntsAt.nil _⟩, (HKE.out.store (by omega) 0 _).store (by omega) 1 _⟩
            simp [results, Tryz.results14, go_sem, g0, g1]
          | some p =>
            rw [hto] at HRUN eP
            simp only at eP
            rw [eP]
            have HTT := Lib.hid (topT_says HOK.out HSY.out (overQ ps (ratOf l)) hto)
            clear eP hto
            go_enter Tryz.func14, Tryz.ntmps14
            go_wp2_with fail
            rw [← HW4.out]
            refine (HC.out _ HK0.out).mono ?_
            rintro e w5 ⟨rfl, hk5⟩
            have HT5 := Lib.hid (HRS.out.kept hk5)
            have HK5 := Lib.hid (HK0.out.trans hk5)
            have HK05 := Lib.hid hk5
            have b50 := hk5.cell b0
            have b51 := hk5.cell b1
            have b52 := hk5.cell b2
            have l50 := hk5.cell l0
            have l51 := hk5.cell l1
            have l52 := hk5.cell l2
            clear hk5
            go_wp2_with fail
            refine (HBA.out _ HK5.out).mono ?_
            rintro e w6 ⟨rfl, hk6⟩
            have m0 := hk6.cell l50
            have m1 := hk6.cell l51
            have m2 := hk6.cell l52
            have c60 := hk6.cell b50
            have c61 := hk6.cell b51
            have c62 := hk6.cell b52
            have HT6 := Lib.hid (HT5.out.kept hk6)
            have HK6 := Lib.hid (HK5.out.trans hk6)
            have HK06 := Lib.hid (HK05.out.trans hk6)
            clear hk6
            go_wp2_with fail
            refine (HPR.out _ HK6.out).mono ?_
            rintro e w7 ⟨rfl, hk7⟩
            have c70 := hk7.cell c60
            have c71 := hk7.cell c61
            have c72 := hk7.cell c62
            have m70 := hk7.cell m0
            have m71 := hk7.cell m1
            have m72 := hk7.cell m2
            have HT7 := Lib.hid (HT6.out.kept hk7)
            have HK7 := Lib.hid (HK6.out.trans hk7)
            have HK07 := Lib.hid (HK06.out.trans hk7)
            clear hk7 b50 b51 b52 c60 c61 c62 l50 l51 l52 m0 m1 m2
            go_wp2_with fail
            refine (HRUN.out _ HK07.out HK7.out).mono ?_
            rintro e w8 ⟨hres, hk8⟩
            have HT := Lib.hid (HT7.out.kept hk8)
            have HKE := Lib.hid (HK7.out.trans hk8)
            clear hk8
            unfold SRes at hres
            obtain ⟨kv, fv, rfl, hkv, hfv⟩ := hres
            obtain ⟨ka, kn, kc, rfl⟩ := hkv.shape
            obtain ⟨fa, fn, fc, rfl⟩ := hfv.shape
            have HKV := Lib.hid hkv
            have HFV := Lib.hid hfv
            have g0 := HT.out.cell (i := 0) (by simp)
            have g1 := HT.out.cell (i := 1) (by simp)
            have g2 := HT.out.free 0
            have g3 := HT.out.free 1
            have hlt := HT.out.lt
            simp only [List.getElem_cons_succ, List.getElem_cons_zero] at g0 g1
            clear hkv hfv
            go_wp2
            refine bodyPost_ret (v := .tuple #[.agg #[.slice ka kn kc, .slice fa fn fc], .int .i64 (0 : Nat)]) ?_ rfl ⟨⟨_, _, rfl, ?_, ?_⟩, (HKE.out.store (by omega) 0 _).store (by omega) 1 _⟩
            · simp [results, Tryz.results14, go_sem, g0, g1]
            · exact Tr.cutoff_ints HT.out ⟨_, _, _, rfl⟩ HKV.out
            · exact Tr.cutoff_ints HT.out ⟨_, _, _, rfl⟩ HFV.out
    · have e11 : byPR V T f ps l = (11, [], []) := by unfold byPR; rw [if_neg (by simp [hsy]), if_pos (by have := HPN.out; omega)]
      rw [e11]
      have hne : ((pn : Int) == (V : Int)) = false := by simp; omega
      have hne2 : ((pn : Int) != (V : Int)) = true := by simp [bne]; omega
      have hne3 : ¬ (pn : Int) = (V : Int) := by omega
      clear hsy e11 hlen
      go_enter Tryz.func14, Tryz.ntmps14
      go_wp2_with fail
      rw [← HW4.out]
      refine (HC.out _ HK0.out).mono ?_
      rintro e w5 ⟨rfl, hk5⟩
      have HT := Lib.hid (HRS.out.kept hk5)
      have HKE := Lib.hid (HK0.out.trans hk5)
      have b50 := hk5.cell b0
      have b51 := hk5.cell b1
      have b52 := hk5.cell b2
      clear hk5
      have g0 := HT.out.cell (i := 0) (by simp)
      have g1 := HT.out.cell (i := 1) (by simp)
      have g2 := HT.out.free 0
      have g3 := HT.out.free 1
      have hlt := HT.out.lt
      simp only [List.getElem_cons_succ, List.getElem_cons_zero] at g0 g1
      go_wp2
      refine bodyPost_ret (v := .tuple #[.agg #[.slice none 0 0, .slice none 0 0], .int .i64 (11 : Nat)]) ?_ rfl ⟨⟨_, _, rfl, IntsAt.nil _, IntsAt.nil _⟩, (HKE.out.store (by omega) 0 _).store (by omega) 1 _⟩
      simp [results, Tryz.results14, go_sem, g0, g1]
end Go.Proofs.YteodabnjkikogaaGreat

/-
  The law TopdownTyped returns true, whatever the formula.
-/
namespace Go.Proofs.YteodabnjkikogaaGreat
open Go.RowKit

def negK (ks : List Int) : Bool := ks.any fun k => k == 1 || k == 5
end Go.Proofs.YteodabnjkikogaaGreat

/-
  Walks: faultlinelaw35.awake, refused, same; topdown.Cuts by its error number.
-/
namespace Go.Proofs.YteodabnjkikogaaGreat
open Go.RowKit

theorem by_ex : Tr.byR 3 5 exF 1 = (0, [1], [3, 5, 6]) := by
  unfold Tr.byR
  rw [if_neg (by rw [syn_ex]; decide), if_neg (by omega), show exF.nodes = exN from rfl, top35_ex]
theorem ex_by (v : Value) (w : World) (hv : NodesAt w v exN) :
    Calls Tryz.prog 27 #[.agg #[.int .i64 3, v, .int .i64 5], .int .i64 1] w fun e w' => (∃ kv fv, e = .returned (.tuple #[.agg #[kv, fv], .nilIface]) ∧ IntsAt w' kv (ofN [1]) ∧ IntsAt w' fv (ofN [3, 5, 6])) ∧ Kept w w' := by
  have h := Tr.tby_any v exF 3 5 1 w hv ok_ex chk_ex
  rw [by_ex] at h
  exact h
theorem one_new (w : World) (x : Int) : IntsAt (w.alloc (.cells #[.int .i64 x] 3)) (.slice (some ⟨w.heap.size, 0, none⟩) 1 1) [x] := by
  refine ⟨_, 1, rfl, ⟨Nat.le_refl _, fun h => by cases h⟩, by simp, fun i hi => ⟨w.heap.size, 0, rfl, ?_⟩⟩
  match i, hi with
  | 0, _ => exact alloc_cell rfl rfl
theorem one_new2 (w : World) (x : Int) (o : Obj) : IntsAt ((w.alloc o).alloc (.cells #[.int .i64 x] 3)) (.slice (some ⟨w.heap.size + 1, 0, none⟩) 1 1) [x] := by
  have := one_new (w.alloc o) x
  simpa using this
set_option maxRecDepth 100000 in
set_option maxHeartbeats 1000000 in
theorem wawake_ok (w : World) : Calls Tryz.prog 6 #[] w fun e w' => e = .returned (.bool true) ∧ Kept w w' := by
  go_enter Tryz.func6, Tryz.ntmps6
  go_wp2_with (first
    | (go_at_call 28; refine (example_ok _).mono ?_; rintro e w1 ⟨⟨v1, rfl, ⟨a1, n1, c1, rfl⟩, hn1⟩, hk1⟩; have HN1 := Lib.hid hn1; clear hn1)
    | (go_at_call 27; refine (ex_by _ _ HN1.out).mono ?_; rintro e w2 ⟨⟨kv, fv, rfl, hkv, hfv⟩, hk2⟩; obtain ⟨ka, kn, kc, rfl⟩ := hkv.shape; obtain ⟨fa, fn, fc, rfl⟩ := hfv.shape; have HKV := Lib.hid hkv; have HFV := Lib.hid hfv; have HK2 := Lib.hid (hk1.trans hk2); clear hkv hfv hk1 hk2)
    | (go_at_call 26; refine Calls.mono (ints_true (l := [1]) _ _ _ (HKV.out.kept (((Kept.refl _).alloc _).alloc _)) (one_new2 _ _ _)) ?_; rintro e w3 ⟨rfl, hk3⟩; have hc3 := hk3.cell (((Kept.refl _).alloc (.cells #[.int .i64 1] 3)).cell (p := ⟨w2.heap.size, 1, none⟩) (v := .slice fa fn fc) (by simp)); have HK3 := Lib.hid ((((Kept.refl _).alloc _).alloc _).trans hk3); clear hk3)
    | (go_at_call 26; refine Calls.mono (ints_true (l := [3, 5, 6]) _ _ _ ((HFV.out.kept HK3.out).kept ((Kept.refl _).alloc _)) (three_new _ _ _ _)) ?_; rintro e w4 ⟨rfl, hk4⟩))
  go_ret
  exact ⟨rfl, HK2.out.trans (HK3.out.trans (((Kept.refl _).alloc _).trans hk4))⟩
end Go.Proofs.YteodabnjkikogaaGreat

/-
  Walks: faultlinelaw35.broad; truncate.ByProb of a formula that Check refuses; a fraction that came in.
-/
namespace Go.Proofs.YteodabnjkikogaaGreat
open Go.RowKit Go.ChangeShapes Go.WideShapes Go.ChangeAt Go.Joins Go.Deep

/-- Some bool. -/
def IsB (u : Value) : Prop := ∃ b, u = .bool b
set_option maxRecDepth 100000 in
set_option maxHeartbeats 2000000 in
theorem broad_any (v : Value) (f : Fm) (w : World) (hv : NodesAt w v f.nodes) :
    Calls Tryz.prog 8 #[fmV v f] w fun e w' => (∃ u, e = .returned u ∧ IsB u) ∧ Kept w w' := by
  obtain ⟨a, c, rfl, _, hl, hx⟩ := hv
  obtain ⟨n, hn⟩ : ∃ n, n = f.nodes.length := ⟨_, rfl⟩
  rw [← hn] at hl ⊢
  obtain ⟨vars, nodes, top⟩ := f
  have HX := Lib.hid hx
  have HN := Lib.hid hn
  clear hx hn
  show Calls _ _ #[.agg #[.int .i64 vars, .slice a n c, .int .i64 top]] _ _
  go_enter Tryz.func8, Tryz.ntmps8
  go_wp2_with fail
  go_loopg [3, 9] n (fun kx s3 s9 wr => ∃ (k : Nat) (x : Int), k ≤ n ∧ s9 = .int .i64 k ∧ n - k ≤ kx ∧ s3 = .int .i64 x ∧ Hid (Kept w wr))
  case atStart => exact ⟨0, 0, Nat.zero_le _, rfl, by omega, rfl, Lib.hid ((Kept.refl _).alloc _)⟩
  case round =>
    obtain ⟨k, x, hk, rfl, hkx, rfl, HK⟩ := hrel
    by_cases hlt : k < n
    · obtain ⟨b, o, rfl, u, h1, h2, h3, h4⟩ := HX.out k (by have := HN.out; omega)
      obtain ⟨ax, cx, rfl, _, hlx, hcx⟩ := h4
      have HRG := Lib.hid (node_range (HK.out.cell h1) (HK.out.cell h2) (HK.out.cell h3))
      clear hcx h1 h2 h3
      generalize nodes[k].kind = kd at HRG
      generalize nodes[k].k = kk at HRG
      generalize nodes[k].args.length = na at HRG hlx
      have hkn : (k : Int) < (n : Int) := by omega
      go_wp2_with (with_reducible refine wpList_load_mid rfl 64 _ rfl b (o + k * 3) rfl _ _ HRG.out Tryz.underlying64 rfl (by kernel_rfl) ?_)
      go_roundg (n - (k + 1))
      case measure => omega
      case rel => exact ⟨k + 1, _, by omega, by go_num, Nat.le_refl _, rfl, Lib.hid (HK.out.alloc _)⟩
    · have hkn : ¬ (k : Int) < (n : Int) := by omega
      go_wp2
      go_ret
      exact ⟨⟨_, rfl, _, rfl⟩, HK.out⟩
set_option maxRecDepth 100000 in
set_option maxHeartbeats 2000000 in
theorem tbyP_err (v pv lv : Value) (f : Fm) (l : Rw) (ps : List Rw) (w : World) (hv : NodesAt w v f.nodes) (ht : f.top ≤ 9223372036854775807) (hck : chkF f ≠ 0) (hp : RatsAt w pv ps) (hl : RatAt w lv l) :
    Calls Tryz.prog 10 #[fmV v f, pv, lv] w fun e w' => e = .returned (.tuple #[.agg #[.slice none 0 0, .slice none 0 0], errV (chkF f)]) ∧ Kept w w' := by
  have HC := Lib.hid (fun W (hk : Kept w W) => Tr.coher_err v f W (hv.kept hk) ht hck)
  have E2 := Lib.hid (errV_pos hck)
  obtain ⟨q, hq⟩ : ∃ q, q = chkF f := ⟨_, rfl⟩
  obtain ⟨a, c, rfl, hrest⟩ := hv
  obtain ⟨pa, pc, rfl⟩ := hp.shape
  obtain ⟨u1, u2, rfl, k1, k2⟩ := hl
  obtain ⟨a1, c1, rfl⟩ := k1.shape
  obtain ⟨a2, c2, rfl⟩ := k2.shape
  clear hrest ht hck hp k1 k2
  generalize f.nodes.length = n at *
  generalize ps.length = pn at *
  generalize l.num.length = n1 at *
  generalize l.den.length = n2 at *
  generalize l.neg = neg at *
  obtain ⟨vars, nodes, top⟩ := f
  unfold fmV at *
  simp only at HC E2 ⊢
  rw [← hq] at HC E2 ⊢
  clear hq
  rw [E2.out] at HC ⊢
  obtain ⟨w4, hw4⟩ : ∃ w4, w4 = (((w.alloc (.cells #[.int .i64 vars, .slice a n c, .int .i64 top] 24)).alloc (.cells #[.slice pa pn pc] 25)).alloc (.cells #[.bool neg, .slice a1 n1 c1, .slice a2 n2 c2] 28)).alloc (.cells #[.slice none 0 0, .slice none 0 0] 34) := ⟨_, rfl⟩
  have HRS : Hid (RowAt w4 (w.heap.size + 1 + 1 + 1) 34 [.slice none 0 0, .slice none 0 0]) := Lib.hid (by
    have h := RowAt.made (((w.alloc (.cells #[.int .i64 vars, .slice a n c, .int .i64 top] 24)).alloc (.cells #[.slice pa pn pc] 25)).alloc (.cells #[.bool neg, .slice a1 n1 c1, .slice a2 n2 c2] 28)) #[.slice none 0 0, .slice none 0 0] 34
    rw [← hw4] at h
    simpa using h)
  have HK0 : Hid (Kept w w4) := Lib.hid (by rw [hw4]; exact ((((Kept.refl w).alloc _).alloc _).alloc _).alloc _)
  have HW4 := Lib.hid hw4
  clear hw4
  go_enter Tryz.func10, Tryz.ntmps10
  go_wp2_with fail
  rw [← HW4.out]
  refine (HC.out _ HK0.out).mono ?_
  rintro e w5 ⟨rfl, hk5⟩
  have HT := Lib.hid (HRS.out.kept hk5)
  have HKE := Lib.hid (HK0.out.trans hk5)
  have g0 := HT.out.cell (i := 0) (by simp)
  have g1 := HT.out.cell (i := 1) (by simp)
  have g2 := HT.out.free 0
  have g3 := HT.out.free 1
  have hlt := HT.out.lt
  simp only [List.getElem_cons_succ, List.getElem_cons_zero] at g0 g1
  clear hk5
  go_wp2
  refine bodyPost_ret (v := .tuple #[.agg #[.slice none 0 0, .slice none 0 0], .iface 56 (.int .i64 q)]) ?_ rfl ⟨rfl, (HKE.out.store (by omega) 0 _).store (by omega) 1 _⟩
  simp [results, Tryz.results10, go_sem, g0, g1]
/-- A fraction, however long. -/
def RatRaw (w : World) (v : Value) (r : Rw) : Prop := ∃ u1 u2, v = .agg #[.bool r.neg, u1, u2] ∧ WdRaw w u1 r.num ∧ WdRaw w u2 r.den
theorem RatRaw.small {w : World} {v : Value} {r : Rw} (h : RatRaw w v r) (hs : r.Short 1099511627776) : RatAt w v r := by
  obtain ⟨u1, u2, h1, h2, h3⟩ := h
  exact ⟨u1, u2, h1, h2.small hs.1, h3.small hs.2⟩
theorem rats_one {w : World} {r : Rw} {u1 u2 : Value} (h1 : WdRaw w u1 r.num) (h2 : WdRaw w u2 r.den) : RatsRaw (w.alloc (.cells #[.bool r.neg, u1, u2] 28)) (.slice (some ⟨w.heap.size, 0, none⟩) 1 1) [r] := by
  refine ⟨_, 1, rfl, ⟨Nat.le_refl _, fun h => by cases h⟩, by simp, fun i hi => ?_⟩
  have hi0 : i = 0 := by simp at hi; exact hi
  subst hi0
  refine ⟨w.heap.size, 0, u1, u2, rfl, ?_, h1.kept ((Kept.refl _).alloc _), h2.kept ((Kept.refl _).alloc _)⟩
  intro j v hj
  have hr := RowAt.made w #[.bool r.neg, u1, u2] 28
  match j, hj with
  | 0, hj => simp at hj; subst hj; exact hr.cell (i := 0) (by simp)
  | 1, hj => simp at hj; subst hj; exact hr.cell (i := 1) (by simp)
  | 2, hj => simp at hj; subst hj; exact hr.cell (i := 2) (by simp)
set_option maxRecDepth 100000 in
/-- A fraction that came in. -/
theorem rat_open {H : Type} {enc : TypeId × Value → H} {W : World} {base : Nat} {v : Value} {d : DataW H} {p : List MemPlace} (hv : Value.okWide Tryz.prog W .any base 28 v) (hb : ∀ n ∈ d.weights Tryz.prog 28, n ≤ reachBytes)
    (h : DataW.Trod enc Tryz.prog W 0 (fun _ => true) true 28 v d p) : ∃ r, RatRaw W v r := by
  obtain ⟨v0, v1, v2, y0, y1, y2, n, rfl, hd, _, t0, t1, t2⟩ := open_agg3 Tryz.underlying28 (by kernel_rfl) cells_rat hv h
  obtain ⟨ng, e0, _⟩ := DataW.trod_bool Tryz.underlying4 t0
  obtain ⟨u1, xs, e1, hu1⟩ := words_open (fun n hn => hb n (by
    rw [hd]
    simp only [DataW.weights, Tryz.underlying28]
    simp only [List.map_cons, DataW.weightsEach, List.mem_append]
    exact .inr (.inl hn))) t1
  obtain ⟨u2, ys, e2, hu2⟩ := words_open (fun n hn => hb n (by
    rw [hd]
    simp only [DataW.weights, Tryz.underlying28]
    simp only [List.map_cons, DataW.weightsEach, List.mem_append]
    exact .inr (.inr (.inl hn)))) t2
  simp at e0 e1 e2
  subst e0 e1 e2
  exact ⟨⟨ng, xs, ys⟩, _, _, rfl, hu1, hu2⟩
end Go.Proofs.YteodabnjkikogaaGreat

/-
  Walk: the law TruncateProbs returns true, whatever the arguments. Printed by gen_Y36.py.
-/
namespace Go.Proofs.YteodabnjkikogaaGreat
open Go.RowKit Go.ChangeShapes Go.WideShapes Go.ChangeAt Go.Joins Go.Deep

theorem bychk_leA (f : Fm) : chkF f ≤ 100 := by
  have h1 : ∀ (b : Int) (x : Nd), chkNd b x ≤ 100 := by
    intro b x
    unfold chkNd
    split
    · omega
    · split
      · omega
      · split
        · omega
        · unfold chkK
          split
          · split <;> omega
          · split
            · split <;> omega
            · split <;> omega
  have h2 : ∀ (xs : List Nd) (b : Int), chkFrom b xs ≤ 100 := by
    intro xs
    induction xs with
    | nil => intro b; unfold chkFrom; omega
    | cons x xs ih =>
      intro b
      unfold chkFrom
      split
      · exact ih _
      · exact h1 _ _
  unfold chkF
  split
  · omega
  · split
    · omega
    · split
      · split <;> omega
      · exact h2 _ _
theorem byPR_le (V T : Nat) (f : Fm) (ps : List Rw) (l : Rw) : (byPR V T f ps l).1 ≤ 100 := by
  unfold byPR
  split
  · simp
  · split
    · simp
    · split
      · simp
      · split
        · simp
        · split <;> simp
set_option maxRecDepth 100000 in
theorem same_trueA (k1 f1 k2 f2 : Value) (R F : List Int) (w : World) (h1 : IntsAt w k1 R) (h2 : IntsAt w f1 F) (h3 : IntsAt w k2 R) (h4 : IntsAt w f2 F) :
    Calls Tryz.prog 13 #[.agg #[k1, f1], .agg #[k2, f2]] w fun e w' => e = .returned (.bool true) ∧ Kept w w' := by
  have HA := Lib.hid (fun W (hk : Kept w W) => ints_true k1 k2 W (h1.kept hk) (h3.kept hk))
  have HB := Lib.hid (fun W (hk : Kept w W) => ints_true f1 f2 W (h2.kept hk) (h4.kept hk))
  obtain ⟨a1, n1, c1, rfl⟩ := h1.shape
  obtain ⟨a2, n2, c2, rfl⟩ := h2.shape
  obtain ⟨a3, n3, c3, rfl⟩ := h3.shape
  obtain ⟨a4, n4, c4, rfl⟩ := h4.shape
  clear h1 h2 h3 h4
  have HC : Hid (∀ w1, Kept ((w.alloc (.cells #[.slice a1 n1 c1, .slice a2 n2 c2] 34)).alloc (.cells #[.slice a3 n3 c3, .slice a4 n4 c4] 34)) w1 → w1.cell? ⟨w.heap.size, 1, none⟩ = some (.slice a2 n2 c2) ∧ w1.cell? ⟨w.heap.size + 1, 1, none⟩ = some (.slice a4 n4 c4)) := Lib.hid fun w1 hk => by
    constructor
    · have := ((RowAt.made w #[.slice a1 n1 c1, .slice a2 n2 c2] 34).kept ((Kept.refl _).alloc _)).kept hk
      exact this.cell (i := 1) (by simp)
    · have := (RowAt.made (w.alloc (.cells #[.slice a1 n1 c1, .slice a2 n2 c2] 34)) #[.slice a3 n3 c3, .slice a4 n4 c4] 34).kept hk
      have := this.cell (i := 1) (by simp)
      simpa using this
  go_enter Tryz.func13, Tryz.ntmps13
  go_wp2_with fail
  refine (HA.out _ (((Kept.refl _).alloc _).alloc _)).mono ?_
  rintro e w1 ⟨rfl, hk1⟩
  obtain ⟨g1, g2⟩ := HC.out w1 hk1
  have HK1 := Lib.hid ((((Kept.refl _).alloc _).alloc _).trans hk1)
  clear hk1
  go_wp2_with (go_at_call 26; refine (HB.out _ HK1.out).mono ?_; rintro e w2 ⟨rfl, hk2⟩)
  go_ret
  exact ⟨rfl, HK1.out.trans hk2⟩
set_option maxRecDepth 100000 in
set_option maxHeartbeats 16000000 in
theorem probs_true (w : World) (v pv lv : Value) (f : Fm) (ps : List Rw) (l : Rw) (hv : NodesAt w v f.nodes) (hfo : FmOk f) (hp : RatsRaw w pv ps) (hl : RatRaw w lv l) :
    Calls Tryz.prog 3 #[fmV v f, pv, lv] w fun e w' => e = .returned (.bool true) ∧ Kept w w' := by
  have ht : f.top ≤ 9223372036854775807 := hfo.2.1.2
  have hh : ∀ W, Kept w W → Calls Tryz.prog 7 #[fmV v f] W fun e w' => (∃ b, e = .returned (.bool b)) ∧ Kept W w' := fun W hk => heavy_any v f W (hv.kept hk)
  have hbr : ∀ W, Kept w W → Calls Tryz.prog 8 #[fmV v f] W fun e w' => (∃ u, e = .returned u ∧ IsB u) ∧ Kept W w' := fun W hk => broad_any v f W (hv.kept hk)
  have hc : ∀ W, Kept w W → Calls Tryz.prog 11 #[fmV v f] W fun e w' => e = .returned (.int .i64 (chkF f)) ∧ Kept W w' := fun W hk => rcheck_any v f W (hv.kept hk) ht
  have HTP := Lib.hid ht
  have hq9 : chkF f ≤ 100 := bychk_leA f
  have HLP := Lib.hid (fun W (h : Kept w W) => large_any pv ps W (hp.kept h))
  obtain ⟨q, hq⟩ : ∃ q, q = chkF f := ⟨_, rfl⟩
  rw [← hq] at hc hq9
  have hsh : ∃ a n c, v = .slice a n c := by obtain ⟨a, c, h, _⟩ := hv; exact ⟨a, _, c, h⟩
  have HQ := Lib.hid hq
  have HV := Lib.hid hv
  have HP := Lib.hid hp
  have HLR := Lib.hid hl
  obtain ⟨a, n, c, rfl⟩ := hsh
  obtain ⟨pa, pc, hps, _⟩ := id hp
  obtain ⟨pn, hpn⟩ : ∃ pn, pn = ps.length := ⟨_, rfl⟩
  have HPN := Lib.hid hpn
  rw [← hpn] at hps
  subst hps
  obtain ⟨u1, u2, hlv, k1, k2⟩ := id hl
  have HL2 : Hid (∀ W, Kept w W → Calls Tryz.prog 9 #[.slice (some ⟨W.heap.size, 0, none⟩) 1 1] (W.alloc (.cells #[.bool l.neg, u1, u2] 28)) fun e w' => (∃ u, e = .returned u ∧ LargeV u [l]) ∧ Kept (W.alloc (.cells #[.bool l.neg, u1, u2] 28)) w') := Lib.hid fun W hk => large_any _ [l] _ (rats_one (k1.kept hk) (k2.kept hk))
  obtain ⟨a1, c1, hu1, _⟩ := k1.shape
  obtain ⟨a2, c2, hu2, _⟩ := k2.shape
  subst hlv hu1 hu2
  obtain ⟨vars, nodes, top⟩ := f
  obtain ⟨w2, hw2⟩ : ∃ w2, w2 = (w.alloc (.cells #[.int .i64 vars, .slice a n c, .int .i64 top] 24)).alloc (.cells #[.bool l.neg, .slice a1 l.num.length c1, .slice a2 l.den.length c2] 28) := ⟨_, rfl⟩
  have HBX : Hid (∀ W, Kept w2 W → (W.cell? ⟨w.heap.size, 0, none⟩ = some (.int .i64 vars) ∧ W.cell? ⟨w.heap.size, 1, none⟩ = some (.slice a n c) ∧ W.cell? ⟨w.heap.size, 2, none⟩ = some (.int .i64 top)) ∧ (W.cell? ⟨w.heap.size + 1, 0, none⟩ = some (.bool l.neg) ∧ W.cell? ⟨w.heap.size + 1, 1, none⟩ = some (.slice a1 l.num.length c1) ∧ W.cell? ⟨w.heap.size + 1, 2, none⟩ = some (.slice a2 l.den.length c2))) := Lib.hid fun W hk => by
    have h1 := ((RowAt.made w #[.int .i64 vars, .slice a n c, .int .i64 top] 24).kept ((Kept.refl _).alloc (.cells #[.bool l.neg, .slice a1 l.num.length c1, .slice a2 l.den.length c2] 28)))
    have h2 := RowAt.made (w.alloc (.cells #[.int .i64 vars, .slice a n c, .int .i64 top] 24)) #[.bool l.neg, .slice a1 l.num.length c1, .slice a2 l.den.length c2] 28
    rw [World.size_alloc] at h2
    rw [← hw2] at h1 h2
    have h1 := h1.kept hk
    have h2 := h2.kept hk
    exact ⟨⟨h1.cell (i := 0) (by simp), h1.cell (i := 1) (by simp), h1.cell (i := 2) (by simp)⟩, h2.cell (i := 0) (by simp), h2.cell (i := 1) (by simp), h2.cell (i := 2) (by simp)⟩
  have HK0 : Hid (Kept w w2) := Lib.hid (by rw [hw2]; exact ((Kept.refl w).alloc _).alloc _)
  have HW2 := Lib.hid hw2
  have HH : Hid (∀ W, Kept w W → Calls Tryz.prog 7 #[.agg #[.int .i64 vars, .slice a n c, .int .i64 top]] W fun e w' => (∃ b, e = .returned (.bool b)) ∧ Kept W w') := Lib.hid hh
  have HBR : Hid (∀ W, Kept w W → Calls Tryz.prog 8 #[.agg #[.int .i64 vars, .slice a n c, .int .i64 top]] W fun e w' => (∃ u, e = .returned u ∧ IsB u) ∧ Kept W w') := Lib.hid hbr
  have HC : Hid (∀ W, Kept w W → Calls Tryz.prog 11 #[.agg #[.int .i64 vars, .slice a n c, .int .i64 top]] W fun e w' => e = .returned (.int .i64 q) ∧ Kept W w') := Lib.hid hc
  have HA : Hid (∀ W, Calls Tryz.prog 6 #[] W fun e w' => e = .returned (.bool true) ∧ Kept W w') := Lib.hid fun W => wawake_ok W
  show Calls _ _ #[.agg #[.int .i64 vars, .slice a n c, .int .i64 top], _, _] _ _
  generalize hz1 : l.neg = z1 at *
  generalize hz2 : l.num.length = z2 at *
  generalize hz3 : l.den.length = z3 at *
  clear hv hh hbr hc hq ht hfo hp hl k1 k2 hpn hw2 hz1 hz2 hz3
  go_enter Tryz.func3, Tryz.ntmps3
  go_wp2_with fail
  rw [← HW2.out]
  refine (HA.out _).mono ?_
  rintro e w3 ⟨rfl, hk3⟩
  have K3 := Lib.hid hk3
  obtain ⟨⟨c0, c1', c2'⟩, l0, l1, l2⟩ := HBX.out _ K3.out
  clear hk3
  go_wp2_with fail
  refine (HH.out _ (HK0.out.trans K3.out)).mono ?_
  rintro e w4 ⟨⟨b, rfl⟩, hk4⟩
  have K4 := Lib.hid (K3.out.trans hk4)
  clear hk4 c0 c1' c2' l0 l1 l2
  obtain ⟨⟨c0, c1', c2'⟩, l0, l1, l2⟩ := HBX.out _ K4.out
  cases b with
  | true =>
    go_wp2_with (go_at_call 6; refine (HA.out _).mono ?_; rintro e w5 ⟨rfl, hk5⟩)
    go_ret
    exact ⟨rfl, (HK0.out.trans K4.out).trans hk5⟩
  | false =>
    go_wp2_with fail
    refine (HBR.out _ (HK0.out.trans K4.out)).mono ?_
    rintro e w5 ⟨⟨u5, rfl, hu5⟩, hk5⟩
    obtain ⟨b, rfl⟩ := hu5
    have K5 := Lib.hid (K4.out.trans hk5)
    clear hk5 c0 c1' c2' l0 l1 l2
    obtain ⟨⟨c0, c1', c2'⟩, l0, l1, l2⟩ := HBX.out _ K5.out
    cases b with
    | true =>
      go_wp2_with (go_at_call 6; refine (HA.out _).mono ?_; rintro e w6 ⟨rfl, hk6⟩)
      go_ret
      exact ⟨rfl, (HK0.out.trans K5.out).trans hk6⟩
    | false =>
      go_wp2_with fail
      refine (HLP.out _ (HK0.out.trans K5.out)).mono ?_
      rintro e w6 ⟨⟨u6, rfl, hu6⟩, hk6⟩
      obtain ⟨b, rfl, hb6⟩ := hu6
      have K6 := Lib.hid (K5.out.trans hk6)
      have HB6 := Lib.hid hb6
      clear hk6 hb6 c0 c1' c2' l0 l1 l2
      obtain ⟨⟨c0, c1', c2'⟩, l0, l1, l2⟩ := HBX.out _ K6.out
      cases b with
      | true =>
        go_wp2_with (go_at_call 6; refine (HA.out _).mono ?_; rintro e w7 ⟨rfl, hk7⟩)
        go_ret
        exact ⟨rfl, (HK0.out.trans K6.out).trans hk7⟩
      | false =>
        go_wp2_with fail
        refine (HL2.out _ (HK0.out.trans K6.out)).mono ?_
        rintro e w7 ⟨⟨u7, rfl, hu7⟩, hk7⟩
        obtain ⟨b, rfl, hb7⟩ := hu7
        have K7 := Lib.hid ((K6.out.alloc _).trans hk7)
        have HB7 := Lib.hid hb7
        clear hk7 hb7 c0 c1' c2' l0 l1 l2
        obtain ⟨⟨c0, c1', c2'⟩, l0, l1, l2⟩ := HBX.out _ K7.out
        cases b with
        | true =>
          go_wp2_with (go_at_call 6; refine (HA.out _).mono ?_; rintro e w8 ⟨rfl, hk8⟩)
          go_ret
          exact ⟨rfl, (HK0.out.trans K7.out).trans hk8⟩
        | false =>
          obtain ⟨h30, hs3⟩ := HB6.out (by first | rfl | trivial)
          obtain ⟨_, hl3⟩ := HB7.out (by first | rfl | trivial)
          have hl3 : l.Short 3 := hl3 l (by simp)
          have HPA : Hid (RatsAt w (.slice pa pn pc) ps) := Lib.hid (HP.out.small fun r hr => ⟨Nat.le_trans (hs3 r hr).1 (by omega), Nat.le_trans (hs3 r hr).2 (by omega)⟩)
          have HLA := Lib.hid (HLR.out.small ⟨Nat.le_trans hl3.1 (by omega), Nat.le_trans hl3.2 (by omega)⟩)
          have HS3 := Lib.hid hs3
          have HL3 := Lib.hid hl3
          have H30 := Lib.hid h30
          clear hs3 hl3 h30
          by_cases hq0 : q = 0
          · have hck := HQ.out.symm.trans hq0
            subst hq0
            obtain ⟨V, T, hok⟩ := ok_of _ hck
            have e1 : vars = (V : Int) := hok.vars
            have e2 : top = (T : Int) := hok.top
            subst e1 e2
            have hq9' := byPR_le V T ⟨V, nodes, T⟩ ps l
            obtain ⟨qb, hqb⟩ : ∃ qb, qb = (byPR V T ⟨V, nodes, T⟩ ps l).1 := ⟨_, rfl⟩
            obtain ⟨R, hR⟩ : ∃ R, R = (byPR V T ⟨V, nodes, T⟩ ps l).2.1 := ⟨_, rfl⟩
            obtain ⟨F, hF⟩ : ∃ F, F = (byPR V T ⟨V, nodes, T⟩ ps l).2.2 := ⟨_, rfl⟩
            have HBY : Hid (∀ W, Kept w W → Calls Tryz.prog 10 #[.agg #[.int .i64 V, .slice a n c, .int .i64 T], .slice pa pn pc, .agg #[.bool z1, .slice a1 z2 c1, .slice a2 z3 c2]] W fun e w' => (∃ kv fv, e = .returned (.tuple #[.agg #[kv, fv], errV qb]) ∧ IntsAt w' kv (ofN R) ∧ IntsAt w' fv (ofN F)) ∧ Kept W w') := Lib.hid fun W hk => by
              have h := tbyP_any (.slice a n c) _ _ ⟨V, nodes, T⟩ V T ps l W (HV.out.kept hk) hok hck (HPA.out.kept hk) HS3.out H30.out (HLA.out.kept hk) HL3.out
              rw [← hqb, ← hR, ← hF] at h
              exact h
            have HRB : Hid (∀ W, Kept w W → Calls Tryz.prog 14 #[.agg #[.int .i64 V, .slice a n c, .int .i64 T], .slice pa pn pc, .agg #[.bool z1, .slice a1 z2 c1, .slice a2 z3 c2]] W fun e w' => (∃ kv fv, e = .returned (.tuple #[.agg #[kv, fv], .int .i64 (qb : Nat)]) ∧ IntsAt w' kv (ofN R) ∧ IntsAt w' fv (ofN F)) ∧ Kept W w') := Lib.hid fun W hk => by
              have h := rbyP_any (.slice a n c) _ _ ⟨V, nodes, T⟩ V T ps l W (HV.out.kept hk) hok (HPA.out.kept hk) HS3.out (HLA.out.kept hk) HL3.out
              rw [← hqb, ← hR, ← hF] at h
              exact h
            rw [← hqb] at hq9'
            have HN : Hid (∀ W, Calls Tryz.prog 12 #[errV qb] W fun e w' => e = .returned (.int .i64 qb) ∧ W = w') := Lib.hid fun W => num_eq qb W (by omega)
            clear hqb hR hF hck hok
            go_wp2_with fail
            refine (HBY.out _ (HK0.out.trans K7.out)).mono ?_
            rintro e w8 ⟨⟨kv, fv, rfl, hkv, hfv⟩, hk8⟩
            obtain ⟨ka, kn, kc, rfl⟩ := hkv.shape
            obtain ⟨fa, fn, fc, rfl⟩ := hfv.shape
            have K8 := Lib.hid ((K7.out.trans hk8).alloc (.cells #[.slice ka kn kc, .slice fa fn fc] 34))
            have HKV := Lib.hid hkv
            have HFV := Lib.hid hfv
            clear c0 c1' c2' l0 l1 l2 hkv hfv hk8
            obtain ⟨⟨c0, c1', c2'⟩, l0, l1, l2⟩ := HBX.out _ K8.out
            go_wp2_with fail
            refine (HC.out _ (HK0.out.trans K8.out)).mono ?_
            rintro e w9 ⟨rfl, hk9⟩
            have K9 := Lib.hid (K8.out.trans hk9)
            have H89 := Lib.hid hk9
            clear c0 c1' c2' l0 l1 l2 hk9
            obtain ⟨⟨c0, c1', c2'⟩, l0, l1, l2⟩ := HBX.out _ K9.out
            go_wp2_with fail
            refine (HRB.out _ (HK0.out.trans K9.out)).mono ?_
            rintro e w10 ⟨⟨kv, fv, rfl, hkv, hfv⟩, hk10⟩
            obtain ⟨ka2, kn2, kc2, rfl⟩ := hkv.shape
            obtain ⟨fa2, fn2, fc2, rfl⟩ := hfv.shape
            have K10 := Lib.hid (K9.out.trans hk10)
            have HS : Hid (Calls Tryz.prog 13 #[.agg #[.slice ka kn kc, .slice fa fn fc], .agg #[.slice ka2 kn2 kc2, .slice fa2 fn2 fc2]] (w10.alloc (.cells #[.slice ka2 kn2 kc2, .slice fa2 fn2 fc2] 34)) fun e w' => e = .returned (.bool true) ∧ Kept (w10.alloc (.cells #[.slice ka2 kn2 kc2, .slice fa2 fn2 fc2] 34)) w') := Lib.hid (by
              have h46 : Kept w8 w10 := (((Kept.refl w8).alloc _).trans H89.out).trans hk10
              exact same_trueA _ _ _ _ (ofN R) (ofN F) _ ((HKV.out.kept h46).kept ((Kept.refl _).alloc _)) ((HFV.out.kept h46).kept ((Kept.refl _).alloc _)) (hkv.kept ((Kept.refl _).alloc _)) (hfv.kept ((Kept.refl _).alloc _)))
            obtain ⟨d0, d1⟩ : w10.cell? ⟨w8.heap.size, 0, none⟩ = some (.slice ka kn kc) ∧ w10.cell? ⟨w8.heap.size, 1, none⟩ = some (.slice fa fn fc) := ⟨hk10.cell (H89.out.cell (by simp)), hk10.cell (H89.out.cell (by simp))⟩
            have hs6 : w8.heap.size < w10.heap.size := World.block_lt_of_cell? w10 _ d0
            clear hkv hfv hk10 c0 c1' c2' l0 l1 l2
            go_wp2_with (first | (go_at_call 12; refine (HN.out _).mono ?_; rintro e w11 ⟨rfl, rfl⟩) | (go_at_call 13; (with_reducible refine HS.out.mono ?_); rintro e w12 ⟨rfl, hk12⟩))
            go_ret
            exact ⟨rfl, (HK0.out.trans ((K10.out.alloc _).trans hk12))⟩
          · have HF : Hid (∀ W, Kept w W → Calls Tryz.prog 10 #[.agg #[.int .i64 vars, .slice a n c, .int .i64 top], .slice pa pn pc, .agg #[.bool z1, .slice a1 z2 c1, .slice a2 z3 c2]] W fun e w' => e = .returned (.tuple #[.agg #[.slice none 0 0, .slice none 0 0], errV q]) ∧ Kept W w') := Lib.hid fun W hk => by
              have h := tbyP_err (.slice a n c) _ _ ⟨vars, nodes, top⟩ l ps W (HV.out.kept hk) HTP.out (by rw [← HQ.out]; exact hq0) (HPA.out.kept hk) (HLA.out.kept hk)
              rw [← HQ.out] at h
              exact h
            have HN : Hid (∀ W, Calls Tryz.prog 12 #[errV q] W fun e w' => e = .returned (.int .i64 q) ∧ W = w') := Lib.hid fun W => num_eq q W (by omega)
            have b1 : ((q : Int) == 0) = false := by simp; omega
            have b2 : ((q : Int) != 0) = true := by simp; omega
            clear hq0
            go_wp2_with fail
            refine (HF.out _ (HK0.out.trans K7.out)).mono ?_
            rintro e w8 ⟨rfl, hk8⟩
            have K8 := Lib.hid ((K7.out.trans hk8).alloc (.cells #[.slice none 0 0, .slice none 0 0] 34))
            clear c0 c1' c2' l0 l1 l2 hk8
            obtain ⟨⟨c0, c1', c2'⟩, l0, l1, l2⟩ := HBX.out _ K8.out
            go_wp2_with fail
            refine (HC.out _ (HK0.out.trans K8.out)).mono ?_
            rintro e w9 ⟨rfl, hk9⟩
            have K9 := Lib.hid (K8.out.trans hk9)
            obtain ⟨d0, d1⟩ : w9.cell? ⟨w8.heap.size, 0, none⟩ = some (.slice none 0 0) ∧ w9.cell? ⟨w8.heap.size, 1, none⟩ = some (.slice none 0 0) := ⟨hk9.cell (by simp), hk9.cell (by simp)⟩
            have HS : Hid (∀ W, Calls Tryz.prog 13 #[.agg #[.slice none 0 0, .slice none 0 0], .agg #[.slice none 0 0, .slice none 0 0]] W fun e w' => e = .returned (.bool true) ∧ Kept W w') := Lib.hid fun W => same_trueA _ _ _ _ [] [] W (IntsAt.nil _) (IntsAt.nil _) (IntsAt.nil _) (IntsAt.nil _)
            clear hk9 c0 c1' c2' l0 l1 l2
            go_wp2_with (first | (go_at_call 12; refine (HN.out _).mono ?_; rintro e w11 ⟨rfl, rfl⟩) | (go_at_call 13; (with_reducible refine (HS.out _).mono ?_); rintro e w12 ⟨rfl, hk12⟩))
            go_ret
            exact ⟨rfl, (HK0.out.trans K9.out).trans hk12⟩
end Go.Proofs.YteodabnjkikogaaGreat

/-
  The law TruncateProbs: for every formula, list of fractions and limit the call returns true, and its arguments read as before.
-/
namespace Go.Proofs.YteodabnjkikogaaGreat
open Go.RowKit Go.ChangeShapes Go.WideShapes Go.ChangeAt Go.Joins Go.Deep

set_option maxRecDepth 100000 in
/-- A law of a formula, a list of fractions and a fraction: from its walk to its row's step. -/
theorem liftP {s : ChangeSpec} (F : FuncId) (fn : Func) (hs1 : s.vars = []) (hs2 : ∀ (H : Type) (d1 d2 d3 : DataW H), s.fn H [d1, d2, d3] = { results := [.lit (.bool true)], args := [d1, d2, d3] })
    (hp : fn.params = #[24, 25, 28]) (hr : fn.resultTypes = #[4])
    (walk : ∀ (W : World) (u pv lv : Value) (f : Fm) (ps : List Rw) (l : Rw), NodesAt W u f.nodes → FmOk f → RatsRaw W pv ps → RatRaw W lv l → Calls Tryz.prog F #[fmV u f, pv, lv] W fun e w' => e = .returned (.bool true) ∧ Kept W w')
    {H : Type} {enc : TypeId × Value → H} (W : World) (base : Nat) (args : Array Value) (ds gs : List (DataW H)) (before : List MemPlace)
    (hval : ∀ (j : Nat) t v, fn.params[j]? = some t → args[j]? = some v → Value.okWide Tryz.prog W .any base t v)
    (hW : DataW.Whole enc Tryz.prog fn.params.toList s.vars false W args.toList ds gs before)
    (hsz : (DataW.weightsEach Tryz.prog (fn.params.toList ++ s.plain.varTypes Tryz.prog) (ds ++ gs)).all (· ≤ reachBytes) = true) :
    Calls Tryz.prog F args W fun e W' => ∃ v, e = .returned v ∧ s.post enc Tryz.prog fn false true false false W args v W' := by
  have hW' := hW
  obtain ⟨p, q, hA, hV, rfl, hfz, _⟩ := hW
  rw [hs1] at hV
  obtain ⟨rfl, rfl⟩ := trodVars_none hV
  rw [hp] at hA hval hsz
  obtain ⟨v0, v1, v2, d0, d1, d2, p0, p1, p2, rfl, rfl, rfl, h0, h1, h2⟩ := trodAll_three hA
  have h0k := h0
  have h1k := h1
  have h2k := h2
  obtain ⟨u, f, rfl, hn, hok⟩ := fm_open (hval 0 _ _ rfl rfl) (fun n hn => by
    have := List.all_eq_true.1 hsz n (DataW.weights_mem_each (j := 0) rfl rfl n hn)
    simpa using this) h0
  obtain ⟨fuel, h1f⟩ := h1
  obtain ⟨u3, ps, e3, hps⟩ := rats_open (fun n hn => by
    have := List.all_eq_true.1 hsz n (DataW.weights_mem_each (j := 1) rfl rfl n hn)
    simpa using this) h1f
  have e4 : u3 = v1 := by
    obtain ⟨a, c, rfl, _⟩ := hps
    obtain ⟨a2, n2, c2, h5⟩ := okWide_slice Tryz.underlying25 (hval 1 _ _ rfl rfl)
    subst h5
    simpa [Value.cells] using e3.symm
  subst e4
  obtain ⟨l, hl⟩ := rat_open (hval 2 _ _ rfl rfl) (fun n hn => by
    have := List.all_eq_true.1 hsz n (DataW.weights_mem_each (j := 2) rfl rfl n hn)
    simpa using this) h2
  have hlt : ∀ x ∈ p0 ++ p1 ++ p2, x.block < W.heap.size := fun x hx => hW'.lt x (by simpa using hx)
  refine (walk W u u3 v2 f ps l hn hok hps hl).mono fun e W' ⟨he, hk⟩ => ?_
  subst he
  refine ⟨_, rfl, [d0, d1, d2], [], ((p0 ++ p1) ++ p2) ++ [], [], p0 ++ (p1 ++ p2), [], hW', ?_, ?_, ?_, Below.frame hk _, fun h => by cases h⟩
  · rw [hr]
    simp only [List.append_nil, hs2]
    exact trodAll_mk1 (shut_bool Tryz.underlying4 _)
  · rw [hp]
    simp only [List.append_nil, hs2]
    exact trodAll_mk3 (Below.trod laidOutK (by kernel_rfl) (of_decide_eq_true (by kernel_rfl)) h0k hk (fun x hx => hlt x (by simp [hx]))) (Below.trod laidOutK (by kernel_rfl) (of_decide_eq_true (by kernel_rfl)) h1k hk (fun x hx => hlt x (by simp [hx]))) (Below.trod laidOutK (by kernel_rfl) (of_decide_eq_true (by kernel_rfl)) h2k hk (fun x hx => hlt x (by simp [hx])))
  · rw [hs1]
    simp only [List.append_nil, hs2]
    rfl
set_option maxRecDepth 100000 in
theorem truncateProbs_lifted (os : Os) (started : os.Started) (H : Type) (enc : TypeId × Value → H) :
    ReturnsInHanded {} Tryz.checked os 3 .any (Rows.truncateProbsSpec.pre6 enc Tryz.prog Tryz.f3 Rows.truncateProbsRow.domain false) (Rows.truncateProbsSpec.post enc Tryz.prog Tryz.f3 false true false false) := by
  refine returnsInHanded_of_change_sized (C := Tryz.checked) ownK started (by kernel_rfl) Tryz.func3
    (ChangeSpec.witness6 (enc := enc) (C := Tryz.checked) false ⟨#[], #[.agg #[.int .i64 0, .slice none 0 0, .int .i64 0], .slice none 0 0, .agg #[.bool false, .slice none 0 0, .slice none 0 0]], []⟩ 8 (by kernel_rfl) (by kernel_rfl) (by kernel_rfl) (by kernel_rfl)) ?_
  intro W base args ds gs before hval hW _ hsz _
  exact liftP 3 Tryz.f3 rfl (fun _ _ _ _ => rfl) Tryz.params3 (by kernel_rfl) (fun W u pv lv f ps l h1 h2 h3 h4 => probs_true W u pv lv f ps l h1 h2 h3 h4) W base args ds gs before hval hW hsz
theorem truncateProbs_holds : Rows.TruncateProbsSaid :=
  OpenClaim.holds_of_wide 3 Tryz.f3 rfl rfl rfl rfl rfl rfl rfl ⟨rfl, rfl, rfl, rfl, rfl⟩ rfl rfl rfl rfl rfl (by kernel_rfl) Tryz.func3 (by kernel_rfl)
    (of_decide_eq_true (by kernel_rfl)) (by unfold Func.isWrapper; first | (rw [if_pos (by decide +kernel)]; kernel_rfl) | (rw [if_neg (by decide +kernel)]; exact ⟨rfl, rfl⟩))
    (fun os started H enc _ => truncateProbs_lifted os started H enc)
end Go.Proofs.YteodabnjkikogaaGreat
