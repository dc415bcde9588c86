import Derived.WalkKit
import Derived.WalkSpells
import Derived.WalkLawsBesides
import Derived.Deep.QuietTactic
import Derived.BigQuiet
import Derived.Lib.Hide
import Derived.Shelf.Abstract
import Derived.Deep.RegionWith
import Derived.Laws.AppendOwnNone
import Derived.Lib.AppendZerosOnto
import Derived.Lib.SliceRun
import Derived.Lib.SlicesCompact
import Derived.Shelf.SlSortCmp.NoneTotal
import Derived.Maps.OwnOps
import Derived.Maps.OwnSet
import Derived.Maps.Views
import Derived.Deep.MidRow
import Derived.Deep.RegionHeld3
import Derived.Deep.AppendLies
import Derived.Deep.RegionLaw
import Derived.IntWalk
import Derived.StillTailTactics
import Derived.RegionTactic
import Derived.BigRegion
import Derived.ChangeAlike
import Derived.Sort.LotD2
import Derived.Sort.LotA
import Derived.Shelf.SlSortCmp.PdqK
import Derived.Deep.DeepCutAuto
import Derived.Lib.ItoaNum
import Derived.Deep.LoopGhost
import Derived.ProofKit
import Derived.OpenShut
import Derived.SizedLaws
import Derived.Lib.SmallJoins
import Derived.Deep.Slices
import Derived.Deep.Fields
import Derived.Deep.Strs
import Derived.Carry
import Derived.Lib.BitFns
import Derived.Deep.CutBlock
import Derived.Test.YteodabnjkikogaaGreatM6
import Derived.Test.YteodabnjkikogaaGreatM2
import Derived.Test.YteodabnjkikogaaGreatM3
import Derived.Test.YteodabnjkikogaaGreatProg
import Derived.Test.YteodabnjkikogaaGreatM1
/-
  Walks: the cutter of truncate: what settle's second loop carries.
-/
namespace Go.Proofs.YteodabnjkikogaaGreat.Tr
open Go.RowKit
variable {y0 y1 y2 y3 y5 y6 : Value}

/-- The cutter, by its rows. -/
def CutR (y0 y1 y2 y3 y5 y6 : Value) (w : World) (gl B : Nat) (v : Value) (L : List Nat) : Prop := RowAt w gl 101 [y0, y1, y2, y3, v, y5, y6] ∧ OwnRws w B v L
theorem settle_step {W w5 : World} {gl B n cap gg c : Nat} {L : List Nat} {v : Value} {O : Obj} (hr : RowAt W gl 101 [y0, y1, y2, y3, v, y5, y6]) (hv : OwnRws W B v L) (hB : B ≤ W.heap.size) (hc : RowLt 152 c) (hl : L.length ≤ 4097) (hn : n = L.length)
    (hown : w5.ownsRow B 103 3 (.slice (some ⟨gg, 0, none⟩) (n + 1) cap) (n + 1) (L.flatMap rcells ++ rcells c)) (hg : ((W.alloc O).drew).grownBy w5 v.ownBlock) (hat : v.ownBlock = some gg ∨ gg = W.heap.size + 1) :
    CutR y0 y1 y2 y3 y5 y6 (w5.setCell ⟨gl, 4, none⟩ (.slice (some ⟨gg, 0, none⟩) (n + 1) cap)) gl B (.slice (some ⟨gg, 0, none⟩) (n + 1) cap) (L ++ [c]) ∧ Frm gl v (.slice (some ⟨gg, 0, none⟩) (n + 1) cap) W (w5.setCell ⟨gl, 4, none⟩ (.slice (some ⟨gg, 0, none⟩) (n + 1) cap)) := by
  have hgl := hr.lt
  have k1 : Kept W (W.alloc O).drew := ((Kept.refl W).alloc O).drew
  have hb : w5.heap[gl]? = W.heap[gl]? := (hg.block gl (by simp; omega) (list_apart hv hr)).trans (k1.block gl hgl)
  have hr5 := hr.same hb
  have hv5 : OwnRws w5 B (.slice (some ⟨gg, 0, none⟩) (n + 1) cap) (L ++ [c]) := by
    refine ⟨by rw [List.flatMap_append, List.flatMap_cons, List.flatMap_nil, List.append_nil, List.length_append, List.length_singleton, ← hn]; exact hown, by simp; omega, fun x hx => ?_⟩
    rcases List.mem_append.1 hx with hx | hx
    · exact hv.2.2 x hx
    · simp at hx; subst hx; exact hc
  have hne5 := list_apart hv5 hr5
  refine ⟨⟨?_, hv5.store_other hne5 4 _⟩, ?_⟩
  · have := hr5.store 4 (.slice (some ⟨gg, 0, none⟩) (n + 1) cap)
    simpa using this
  · have h2 : Below B (W.alloc O).drew w5 := grown_below hg (hv.kept k1).1 (by simp; omega)
    have h3 : Below 0 W (w5.setCell ⟨gl, 4, none⟩ (.slice (some ⟨gg, 0, none⟩) (n + 1) cap)) := Below.setCell ((k1.mono (Nat.zero_le _)).trans (h2.mono (Nat.zero_le _))) (Nat.zero_le _) _
    refine ⟨h3.os, h3.tape, h3.output, h3.size, fun k hk e1 e2 => ?_, ?_⟩
    · exact (Below.heap_setCell w5 ⟨gl, 4, none⟩ _ k e1).trans ((hg.block k (by simp; omega) e2).trans (k1.block k hk))
    · rcases hat with h | h
      · exact .inl h.symm
      · refine .inr fun g hg' => ?_
        have : gg = g := by simpa [Value.ownBlock] using hg'
        omega
theorem heap_new1d (w : World) (O : Obj) : ((w.alloc O).drew).heap[w.heap.size]? = some O :=
  (Below.block (Kept.refl (w.alloc O)).drew w.heap.size (by simp)).trans (heap_alloc_new w O)
theorem own_frm {w w' : World} {gl B size n : Nat} {e : TypeId} {v u' : Value} {xs : List Value} (h : w.ownsRow B e size v n xs) (hg : gl < B) (hf : Frm gl (.slice none 0 0) u' w w') : w'.ownsRow B e size v n xs := by
  obtain ⟨h1, h2⟩ := h
  refine ⟨h1, h2.imp id ?_⟩
  rintro ⟨b, cap, cur, rfl, h5, h6, h7⟩
  exact ⟨b, cap, cur, rfl, h5, (hf.block b (heap_lt h6) (by omega) (by simp [Value.ownBlock])).trans h6, h7⟩
theorem rws_frm {w w' : World} {gl B : Nat} {v u' : Value} {L : List Nat} (h : OwnRws w B v L) (hg : gl < B) (hf : Frm gl (.slice none 0 0) u' w w') : OwnRws w' B v L := ⟨own_frm h.1 hg hf, h.2⟩
theorem ints_frm {w w' : World} {gl B : Nat} {v u' : Value} {L : List Int} (h : OwnInts w B v L) (hg : gl < B) (hf : Frm gl (.slice none 0 0) u' w w') : OwnInts w' B v L := ⟨own_frm h.1 hg hf, h.2⟩
theorem frm_store {w w' : World} {gl : Nat} (h : Kept w w') (i : Nat) (u : Value) : Frm gl (.slice none 0 0) (.slice none 0 0) w (w'.setCell ⟨gl, i, none⟩ u) := by
  have h3 : Below 0 w (w'.setCell ⟨gl, i, none⟩ u) := Below.setCell (h.mono (Nat.zero_le _)) (Nat.zero_le _) _
  exact ⟨h3.os, h3.tape, h3.output, h3.size, fun k hk e1 _ => (Below.heap_setCell w' ⟨gl, i, none⟩ u k e1).trans (h.block k hk), .inl rfl⟩
theorem sort_ints {w w' : World} {B : Nat} {v u : Value} {L : List Int} (h : OwnInts w B v L) {L1 : List Nat} {B' : Nat} (h' : OwnRws w B' u L1) (hg : ∀ k, k < w.heap.size → some k ≠ u.ownBlock → w'.heap[k]? = w.heap[k]?) : OwnInts w' B v L :=
  ⟨own_tag h.1 h'.1 (by decide) hg, h.2⟩
end Go.Proofs.YteodabnjkikogaaGreat.Tr

/-
  Walks: topdown.least.
-/
namespace Go.Proofs.YteodabnjkikogaaGreat.Tr
open Go.RowKit

theorem addr_add (b o j : Nat) : (⟨b, o, none⟩ : Addr).add j = ⟨b, o + j, none⟩ := by unfold Addr.add; split <;> simp_all
def DecidesR (g : Nat) (lb : Array Value) (p : Nat → Bool) (w : World) : Prop :=
  ∀ (W : World) (x : Nat), Kept w W → RowLt 152 x → Calls Tryz.prog g (#[rowV x] ++ lb) W fun e W' => e = .returned (.bool (p x)) ∧ Kept W W'
set_option maxRecDepth 100000 in
theorem indexR_any (g : Nat) (lb : Array Value) (eg : ∀ args w, (callFunc g args).run Tryz.prog w = .ok (.enter g args) w) (p : Nat → Bool) (v : Value) (L : List Nat) (w : World)
    (hp : DecidesR g lb p w) (hv : RwsAt w v L) :
    Calls Tryz.prog 180 #[v, .func (.func g) #[] lb] w fun e w' => (∃ n : Int, e = .returned (.int .i64 n) ∧ (decide (0 ≤ n) = L.any p)) ∧ Kept w w' := by
  obtain ⟨a, c, rfl, ⟨hc, _⟩, hl, hlt, hx⟩ := hv
  obtain ⟨n, hn⟩ : ∃ n, n = L.length := ⟨_, rfl⟩
  have hbig : n ≤ 10000 := by omega
  rw [← hn]
  have HX := Lib.hid hx
  have HN := Lib.hid hn
  have HP := Lib.hid hp
  have HLT := Lib.hid hlt
  clear hx hn hp hl hc hlt
  go_enter Tryz.func180, Tryz.ntmps180
  go_wp2
  go_loopg [8] n (fun kx i wr => ∃ k : Nat, k ≤ n ∧ i = .int .i64 k ∧ n - k ≤ kx ∧ Hid (∀ x ∈ L.take k, p x = false) ∧ Hid (Kept w wr))
  case atStart => exact ⟨0, Nat.zero_le _, rfl, by omega, Lib.hid (by simp), Lib.hid (Kept.refl _)⟩
  case round =>
    obtain ⟨k, hk, rfl, hkx, HF, HK⟩ := hrel
    by_cases hlt : k < n
    · have hkl : k < L.length := by have := HN.out; omega
      obtain ⟨b, o, rfl, hrg⟩ := HX.out k hkl
      have hrg2 := range_kept hrg HK.out
      have hxl := HLT.out L[k] (List.getElem_mem _)
      obtain ⟨x, hxx⟩ : ∃ x, x = L[k] := ⟨_, rfl⟩
      rw [← hxx] at hrg2 hxl
      have HXX := Lib.hid hxx
      have HRG : Hid (wr.rangeAt b (o + k * 3) [.int .i64 (evW x), .int .u64 (loW x), .int .u64 (hiW x)]) := Lib.hid hrg2
      have HC : Hid (∀ W, Kept w W → Calls Tryz.prog g (#[.agg #[.int .i64 (evW x), .int .u64 (loW x), .int .u64 (hiW x)]] ++ lb) W fun e W' => e = .returned (.bool (p x)) ∧ Kept W W') := Lib.hid fun W hk => HP.out W x hk hxl
      have hkn : (k : Int) < (n : Int) := by omega
      obtain ⟨z0, hz0⟩ : ∃ z, z = evW x := ⟨_, rfl⟩
      obtain ⟨z1, hz1⟩ : ∃ z, z = loW x := ⟨_, rfl⟩
      obtain ⟨z2, hz2⟩ : ∃ z, z = hiW x := ⟨_, rfl⟩
      rw [← hz0, ← hz1, ← hz2] at HRG HC
      clear hrg hrg2 hxx hxl hz0 hz1 hz2
      cases hq : p x with
      | true =>
        rw [hq] at HC
        have HQ := Lib.hid hq
        clear hq
        go_wp2_with (first | (with_reducible refine wpList_load_mid rfl 103 _ rfl b (o + k * 3) rfl _ _ HRG.out Tryz.underlying103 rfl (by kernel_rfl) ?_) | (go_at_fn g; refine (HC.out _ HK.out).mono ?_; rintro e w' ⟨rfl, hK2⟩))
        go_ret
        refine ⟨⟨k, rfl, ?_⟩, HK.out.trans hK2⟩
        have : L.any p = true := List.any_eq_true.2 ⟨x, by rw [HXX.out]; exact List.getElem_mem _, HQ.out⟩
        rw [this]; simp
      | false =>
        rw [hq] at HC
        have HQ := Lib.hid hq
        clear hq
        go_wp2_with (first | (with_reducible refine wpList_load_mid rfl 103 _ rfl b (o + k * 3) rfl _ _ HRG.out Tryz.underlying103 rfl (by kernel_rfl) ?_) | (go_at_fn g; refine (HC.out _ HK.out).mono ?_; rintro e w' ⟨rfl, hK2⟩))
        go_roundg (n - (k + 1))
        case measure => omega
        case rel =>
          refine ⟨k + 1, by omega, by go_num, Nat.le_refl _, Lib.hid ?_, Lib.hid (HK.out.trans hK2)⟩
          intro y hy
          rw [List.take_succ_eq_append_getElem hkl] at hy
          rcases List.mem_append.1 hy with hy | hy
          · exact HF.out y hy
          · simp at hy; rw [hy, ← HXX.out]; exact HQ.out
    · go_wp2
      go_ret
      refine ⟨⟨-1, rfl, ?_⟩, HK.out⟩
      have hh := HF.out
      rw [List.take_of_length_le (by have := HN.out; omega)] at hh
      have : L.any p = false := by rw [List.any_eq_false]; intro y hy; simp [hh y hy]
      rw [this]; rfl
set_option maxRecDepth 100000 in
theorem hasR_any (g : Nat) (lb : Array Value) (eg : ∀ args w, (callFunc g args).run Tryz.prog w = .ok (.enter g args) w) (p : Nat → Bool) (v : Value) (L : List Nat) (w : World)
    (hp : DecidesR g lb p w) (hv : RwsAt w v L) :
    Calls Tryz.prog 129 #[v, .func (.func g) #[] lb] w fun e w' => e = .returned (.bool (L.any p)) ∧ Kept w w' := by
  have h := indexR_any g lb eg p v L w hp hv
  have H := Lib.hid h
  clear h hp hv eg
  obtain ⟨r, hr⟩ : ∃ r, r = L.any p := ⟨_, rfl⟩
  rw [← hr] at H ⊢
  clear hr
  go_enter Tryz.func129, Tryz.ntmps129
  go_wp2_with (go_at_call 180; refine H.out.mono ?_; rintro e w' ⟨⟨n, rfl, hn⟩, hK⟩; have HN := Lib.hid hn; clear hn)
  go_ret
  exact ⟨by rw [← HN.out]; rfl, hK⟩
set_option maxRecDepth 100000 in
theorem decides_part (c B : Nat) (w : World) (hc : RowLt 152 c) (h0 : w.cell? ⟨B, 0, none⟩ = some (.int .i64 (evW c))) (h1 : w.cell? ⟨B, 1, none⟩ = some (.int .u64 (loW c))) (h2 : w.cell? ⟨B, 2, none⟩ = some (.int .u64 (hiW c))) :
    DecidesR 130 #[.pointer (some ⟨B, 0, none⟩)] (fun t => subN t c) w := by
  intro W x hK hx
  show Calls Tryz.prog _ _ W fun e W' => e = .returned (.bool (subN x c)) ∧ Kept W W'
  have h0' := hK.cell h0
  have h1' := hK.cell h1
  have h2' := hK.cell h2
  have HP : Hid (∀ W', Calls Tryz.prog 131 #[rowV x, rowV c] W' fun e w' => e = .returned (.bool (subN x c)) ∧ ∃ C O, w' = (W'.alloc C).alloc O) := Lib.hid fun W' => twithin_any hx hc W'
  have hbl : B < W.heap.size := by
    by_cases h : B < W.heap.size
    · exact h
    · simp [World.cell?, Array.getElem?_eq_none (Nat.le_of_not_lt h)] at h0'
  unfold rowV at *
  generalize subN x c = q at *
  generalize evW c = y0 at *
  generalize loW c = y1 at *
  generalize hiW c = y2 at *
  generalize evW x = z0 at *
  generalize loW x = z1 at *
  generalize hiW x = z2 at *
  clear h0 h1 h2 hK hx hc
  show Calls Tryz.prog 130 #[.agg #[.int .i64 z0, .int .u64 z1, .int .u64 z2], .pointer (some ⟨B, 0, none⟩)] W _
  go_enter Tryz.func130, Tryz.ntmps130
  go_wp2_with (go_at_call 131; refine (HP.out _).mono ?_; rintro e w' ⟨rfl, C, O, rfl⟩)
  go_ret
  exact ⟨rfl, (((Kept.refl _).alloc _).alloc _).alloc _⟩
theorem minN_take (l : List Nat) (k : Nat) (h : k < l.length) : minN (l.take (k + 1)) = keepN (minN (l.take k)) l[k] := by
  unfold minN
  rw [List.take_succ_eq_append_getElem h, List.foldl_append]; rfl
theorem range_row (w : World) (x0 x1 x2 : Value) (e : TypeId) : (w.alloc (.cells #[x0, x1, x2] e)).rangeAt w.heap.size 0 [x0, x1, x2] := by
  intro j v hj
  match j, hj with
  | 0, hj => simp at hj; subst hj; simp
  | 1, hj => simp at hj; subst hj; simp
  | 2, hj => simp at hj; subst hj; simp
end Go.Proofs.YteodabnjkikogaaGreat.Tr

/-
  Walks: truncate.minimal.
-/
namespace Go.Proofs.YteodabnjkikogaaGreat.Tr
open Go.RowKit

theorem fold_sub (l : List Nat) : ∀ out, (l.foldl keepN out).Sublist (out ++ l) := by
  induction l with
  | nil => intro out; simp
  | cons s l ih =>
    intro out
    have h := ih (keepN out s)
    show (l.foldl keepN (keepN out s)).Sublist _
    unfold keepN at h ⊢
    split at h
    · rename_i hk
      rw [if_pos hk]
      exact h.trans ((List.Sublist.refl out).append (List.sublist_cons_self s l))
    · rename_i hk
      rw [if_neg hk]
      simpa using h
theorem minN_sorted {rs ns : List Nat} (hp : rs.Pairwise fun a b => ltK a b ∨ a = b) (hm : ∀ x, x ∈ rs ↔ x ∈ ns) : minN rs = minK ns := by
  have hpc : rs.Pairwise fun a b => pc a ≤ pc b := hp.imp fun {a b} h => by
    rcases h with h | h
    · unfold ltK at h; omega
    · subst h; exact Nat.le_refl _
  have hperm := least_perm (List.Perm.refl rs) hpc
  rw [minK_congr ns rs fun x => hm x] at hperm
  have hn : (minN rs).Nodup := hperm.symm.nodup (ltK_nodup (pair_minK ns))
  have hsub : (minN rs).Sublist rs := fold_sub rs []
  have hlt : (minN rs).Pairwise ltK := ((hp.sublist hsub).and hn).imp fun {a b} h => h.1.resolve_right h.2
  exact pair_unique ltK ltK_irr ltK_tr _ _ hlt (pair_minK ns) fun x => hperm.mem_iff
theorem decides_tsub (s : Int) (B : Nat) (w : World) (hc : w.cell? ⟨B, 0, none⟩ = some (.int .i64 s)) : Decides 136 #[.pointer (some ⟨B, 0, none⟩)] (fun t => subB t s) w := by
  intro W x hK
  have hc' := hK.cell hc
  clear hc
  go_enter Tryz.func136, Tryz.ntmps136
  go_wp2_with (go_at_call 137; refine (subset_any _ _ _).mono ?_; rintro e w' ⟨rfl, rfl⟩)
  go_ret
  exact ⟨rfl, Kept.refl _⟩
set_option maxRecDepth 100000 in
set_option maxHeartbeats 4000000 in
theorem tminimal_any (v : Value) (ns : List Nat) (w : World) (hm : ∀ n ∈ ns, Mk n) (hv : IntsAt w v (ofN ns)) (hl : ns.length ≤ 1000000) :
    Calls Tryz.prog 75 #[v] w fun e w' => ∃ v', e = .returned v' ∧ OwnSets w' w.heap.size v' (minK ns) ∧ Kept w w' := by
  have HC := Lib.hid (clone_any v (ofN ns) w hv (by simp [ofN]; omega))
  have HS : Hid (∀ (v1 : Value) (w1 : World), OwnInts w1 w.heap.size v1 (ofN ns) → w.heap.size ≤ w1.heap.size → Calls Tryz.prog 51 #[v1, .func (.func 52) #[] #[]] w1 fun e w' => e = .returned (.tuple #[]) ∧ ∃ rs : List Nat, (∀ n ∈ rs, Mk n) ∧ rs.length = ns.length ∧ (rs.Pairwise (fun a b => ltK a b ∨ a = b) ∧ (∀ x, x ∈ rs ↔ x ∈ ns)) ∧ OwnInts w' w.heap.size v1 (ofN rs) ∧ Below w.heap.size w1 w') := Lib.hid fun v1 w1 ho hs => (sort_any w.heap.size v1 ns w1 hm ho hs).mono fun _ _ ⟨h1, rs, a, b, c, d, e, f⟩ => ⟨h1, rs, a, b, ⟨c, d⟩, e, f⟩
  obtain ⟨sa, sn, sc, rfl⟩ := hv.shape
  have HL := Lib.hid hl
  clear hm hv hl
  go_enter Tryz.func75, Tryz.ntmps75
  go_wp2_with (first
    | (go_at_call 134; refine HC.out.mono ?_; rintro e w1 ⟨v1, rfl, ho1, hk1⟩; have O1 := Lib.hid ho1; have K1 := Lib.hid hk1; obtain ⟨a1, n1, c1, rfl⟩ := ho1.ints.shape; clear ho1 hk1)
    | (go_at_call 51; refine (HS.out _ _ O1.out K1.out.size).mono ?_; rintro e w2 ⟨rfl, rs, hrs1, hrs2, hrs3, ho2, hb2⟩; have R1 := Lib.hid hrs1; have R2 := Lib.hid hrs2; have R3 := Lib.hid hrs3; have O2 := Lib.hid ho2; have K2 := Lib.hid (K1.out.app hb2); clear hrs1 hrs2 hrs3 ho2 hb2))
  obtain ⟨xs, hxs⟩ : ∃ xs, xs = ofN rs := ⟨_, rfl⟩
  have HXS := Lib.hid hxs
  obtain ⟨n, hn⟩ : ∃ n, n = xs.length := ⟨_, rfl⟩
  have HN := Lib.hid hn
  have hn1 : n1 = n := by
    obtain ⟨a', c', h1, _⟩ := O2.out.ints
    injection h1 with _ h2 _
    rw [h2, hn, hxs]
  have hn9 : n ≤ 1000000 := by have := R2.out; have := HL.out; rw [hn, hxs]; simp [ofN]; omega
  subst hn1
  have HX : Hid (IntsAt w2 (.slice a1 n1 c1) xs) := Lib.hid (by rw [hxs]; exact O2.out.ints)
  clear hxs hn
  go_loopg [3, 12] n1 (fun kx s3 s12 wr => ∃ (k : Nat) (vo : Value), s3 = vo ∧ s12 = .int .i64 k ∧ k ≤ n1 ∧ n1 - k ≤ kx ∧ Hid (OwnInts wr w2.heap.size vo (minOf (xs.take k))) ∧ Hid (Kept w2 wr))
  case atStart => exact ⟨0, _, rfl, rfl, Nat.zero_le _, by omega, Lib.hid (OwnInts.nil _ _), Lib.hid (Kept.refl _)⟩
  case round =>
    obtain ⟨k, vo, rfl, rfl, hk, hkx, HO, HK⟩ := hrel
    obtain ⟨oa, on, oc, rfl⟩ := HO.out.ints.shape
    have hB := HK.out.size
    by_cases hlt : k < n1
    · have hkl : k < xs.length := by have := HN.out; omega
      obtain ⟨b, o, rfl, hcell⟩ : ∃ b o, a1 = some ⟨b, o, none⟩ ∧ wr.cell? ⟨b, o + k, none⟩ = some (.int .i64 xs[k]) := by
        obtain ⟨a', c', h1, _, _, h4⟩ := HX.out.kept HK.out
        injection h1 with h1 h2 h3
        subst h1
        exact h4 k hkl
      obtain ⟨s, hs⟩ : ∃ x, x = xs[k] := ⟨_, rfl⟩
      rw [← hs] at hcell
      have hstep := minOf_take xs k hkl
      rw [← hs] at hstep
      have hlen := keepMin_len (xs.take k) []
      obtain ⟨m, hm⟩ : ∃ m, m = minOf (xs.take k) := ⟨_, rfl⟩
      have hml : m.length ≤ k := by rw [hm]; refine Nat.le_trans hlen ?_; simp; omega
      rw [← hm] at HO hstep
      have HSt := Lib.hid hstep
      have hkn : (k : Int) < (n1 : Int) := by omega
      clear hstep hlen hs hm
      have HD := Lib.hid (fun (W : World) (h : Kept (wr.alloc (.cells #[.int .i64 s] 3)) W) => has_any 136 #[.pointer (some ⟨wr.heap.size, 0, none⟩)] (enters_of Tryz.func136 (by kernel_rfl) rfl) (fun t => subB t s) (.slice oa on oc) m W (decides_tsub s wr.heap.size W (h.cell (by simp))) ((HO.out.kept (((Kept.refl _).alloc _).trans h)).ints))
      cases hq : m.any (fun t => subB t s) with
      | true =>
        have HQ := Lib.hid hq
        clear hq
        go_wp2_with (go_at_call 135; refine (HD.out _ (Kept.refl _)).mono ?_; rintro e w3 ⟨rfl, hK2⟩; rw [HQ.out])
        go_roundg (n1 - (k + 1))
        case measure => omega
        case rel => exact ⟨k + 1, _, rfl, by go_num, by omega, Nat.le_refl _, Lib.hid (by rw [HSt.out, keepMin, HQ.out]; exact HO.out.kept (((Kept.refl _).alloc _).trans hK2)), Lib.hid (HK.out.trans (((Kept.refl _).alloc _).trans hK2))⟩
      | false =>
        have HQ := Lib.hid hq
        clear hq
        go_wp2_with (first
          | (go_at_call 135; refine (HD.out _ (Kept.refl _)).mono ?_; rintro e w3 ⟨rfl, hK2⟩; rw [HQ.out]; have hbox := hK2.cell (p := ⟨wr.heap.size, 0, none⟩) (v := .int .i64 s) (by simp); have hz := hK2.size; have HK3 := Lib.hid (((Kept.refl _).alloc _).trans hK2))
          | (at_builtin; refine app_int rfl _ _ rfl w2.heap.size _ m rfl (HO.out.kept (HK3.out.alloc _)) _ s rfl (by simp) (by omega) (by simp at hz ⊢; omega) ?_; intro v7 w7 hown7 _ hb7; have O7 := Lib.hid hown7; have HB7 := Lib.hid hb7; clear hown7 hb7))
        go_roundg (n1 - (k + 1))
        case measure => omega
        case rel => exact ⟨k + 1, _, rfl, by go_num, by omega, Nat.le_refl _, Lib.hid (by rw [HSt.out, keepMin, HQ.out]; exact O7.out), Lib.hid ((HK.out.trans (HK3.out.alloc _)).app HB7.out)⟩
    · have hkn : ¬ (k : Int) < (n1 : Int) := by omega
      have hF : minOf (xs.take k) = ofN (minK ns) := by
        rw [show k = n1 by omega, HN.out, List.take_length, HXS.out, minOf_ofN rs R1.out, minN_sorted R3.out.1 R3.out.2]
      have HF := Lib.hid (by have h := HO.out; rw [hF] at h; exact h)
      have HMM : Hid (∀ x ∈ minK ns, Mk x) := Lib.hid fun x hx => R1.out x ((R3.out.2 x).2 (mem_minK hx))
      clear hF
      go_wp2
      go_ret
      exact ⟨_, rfl, ⟨HF.out.mono K2.out.size, HMM.out⟩, K2.out.trans HK.out⟩
end Go.Proofs.YteodabnjkikogaaGreat.Tr

/-
  Walks: the cutter of truncate: settle, its first loop.
-/
namespace Go.Proofs.YteodabnjkikogaaGreat.Tr
open Go.RowKit
variable {y0 y1 y2 y3 y4 y6 : Value}

theorem RwsAt.get {w : World} {a : Option Addr} {n c : Nat} {L : List Nat} (h : RwsAt w (.slice a n c) L) (i : Nat) (hi : i < L.length) : ∃ b o, a = some ⟨b, o, none⟩ ∧ w.rangeAt b (o + i * 3) (rcells L[i]) := by
  obtain ⟨a', c', h1, _, _, _, h5⟩ := h
  injection h1 with h1
  obtain ⟨b, o, h6, h7⟩ := h5 i hi
  exact ⟨b, o, h1.trans h6, h7⟩
theorem RwsAt.lt {w : World} {v : Value} {L : List Nat} (h : RwsAt w v L) : ∀ c ∈ L, RowLt 152 c := by obtain ⟨_, _, _, _, _, h, _⟩ := h; exact h
theorem app_row1 {ops : Array Oper} {rest : List Oper} {o : Oper} {a : Act} {Q : Exit → Act → World → Prop} {w : World} (hgd : o.guard = none) (s x : Operand)
    (ho : o.op = .call { callee := .builtin .append, args := #[s, x], argTypes := #[99, 99] }) (B : Nat) (v : Value) (L : List Nat) (hs : a.eval s = v) (hown : OwnRws w B v L)
    (g c : Nat) (hx : a.eval x = .slice (some ⟨g, 0, none⟩) 1 1) (hu : w.rangeAt g 0 (rcells c)) (hc : RowLt 152 c) (hl : L.length < 10000) (hB : B ≤ w.heap.size)
    (h : ∀ v' w', OwnRws w' B v' (L ++ [c]) → w.grownBy w' v.ownBlock → Below B w w' → wpList Tryz.prog ops Q rest (a.put o.dst v') w') : wpList Tryz.prog ops Q (o :: rest) a w := by
  obtain ⟨i0, hi0, hz0, hz1, hz2⟩ := info_parts info_trow
  refine wpList_append_own _ hgd s x 99 ho B 103 i0 _ 3 24 Tryz.underlying99 hi0 hz0 hz1 hz2 rfl (by decide) v L.length _ hs hown.1 ⟨g, 0, none⟩ 1 1 (rcells c) hx rfl ?_ ?_ (by unfold maxLen; omega) (by omega) hB ?_
  · intro j u hj
    have := hu j u hj
    rw [addr_add]; exact this
  · intro u hu
    simp [rcells] at hu
    rcases hu with rfl | rfl | rfl <;> rfl
  · intro v' w' h6 h7 _
    refine h v' w' ⟨by rw [List.flatMap_append, List.flatMap_cons, List.flatMap_nil, List.append_nil, List.length_append]; exact h6, by simp; omega, fun x hx => ?_⟩ h7 (grown_below h7 hown.1 hB)
    rcases List.mem_append.1 hx with hx | hx
    · exact hown.2.2 x hx
    · simp at hx; subst hx; exact hc
/-- What the first loop has parted. -/
def inTo (P : Nat → Bool) (M : List Nat) (k : Nat) : List Nat := (M.take k).filter fun r => !P (evW r)
def goneTo (P : Nat → Bool) (M : List Nat) (k : Nat) : List Nat := ((M.take k).filter fun r => P (evW r)).map evW
theorem inTo_succ (P : Nat → Bool) (M : List Nat) (k : Nat) (h : k < M.length) : inTo P M (k + 1) = inTo P M k ++ (if P (evW M[k]) = true then [] else [M[k]]) := by
  unfold inTo
  rw [List.take_succ_eq_append_getElem h, List.filter_append]
  cases hp : P (evW M[k]) <;> simp [hp]
theorem goneTo_succ (P : Nat → Bool) (M : List Nat) (k : Nat) (h : k < M.length) : goneTo P M (k + 1) = goneTo P M k ++ (if P (evW M[k]) = true then [evW M[k]] else []) := by
  unfold goneTo
  rw [List.take_succ_eq_append_getElem h, List.filter_append, List.map_append]
  cases hp : P (evW M[k]) <;> simp [hp]
theorem inTo_len (P : Nat → Bool) (M : List Nat) (k : Nat) : (inTo P M k).length ≤ M.length := by
  unfold inTo
  exact Nat.le_trans (List.length_filter_le ..) (by rw [List.length_take]; omega)
theorem goneTo_len (P : Nat → Bool) (M : List Nat) (k : Nat) : (goneTo P M k).length ≤ M.length := by
  unfold goneTo
  rw [List.length_map]
  exact Nat.le_trans (List.length_filter_le ..) (by rw [List.length_take]; omega)
theorem OwnRws.tag {w w' : World} {B B' size' n' : Nat} {e' : TypeId} {v v' : Value} {L : List Nat} {xs' : List Value} (h : OwnRws w B v L) (h' : w.ownsRow B' e' size' v' n' xs') (hne : 103 ≠ e') (hg : w.grownBy w' v'.ownBlock) : OwnRws w' B v L :=
  ⟨own_tag h.1 h' hne (fun k hk hn => hg.block k hk hn), h.2⟩
theorem ints_tag {w w' : World} {B B' size' n' : Nat} {e' : TypeId} {v v' : Value} {L : List Int} {xs' : List Value} (h : OwnInts w B v L) (h' : w.ownsRow B' e' size' v' n' xs') (hne : 3 ≠ e') (hg : w.grownBy w' v'.ownBlock) : OwnInts w' B v L :=
  ⟨own_tag h.1 h' hne (fun k hk hn => hg.block k hk hn), h.2⟩
theorem frm_low {gl : Nat} {v v' : Value} {w w' : World} (h : Frm gl v v' w w') (hg : gl < w.heap.size) (hv : ∀ g, v.ownBlock = some g → gl < g) : Below gl w w' :=
  ⟨h.os, h.tape, h.output, h.size, fun k hk => h.block k (by omega) (by omega) fun e => by have := hv k e.symm; omega⟩
def SPost (y0 y1 y2 fn mv fv : Value) (gl : Nat) (P : Nat → Bool) (M F : List Nat) (W : World) (e : Ending) (w' : World) : Prop :=
  if 1024 < (settleR P M).length ∨ 1024 < (settleF P M F).length then e = .returned (errV 4) ∧ Below gl W w' else
    e = .returned (errV 0) ∧ ∃ (rv' fv' : Value) (R : List Nat), R.Perm (settleR P M) ∧ RowAt w' gl 101 [y0, y1, y2, fn, rv', mv, fv'] ∧ OwnRws w' W.heap.size rv' R ∧ OwnInts w' W.heap.size fv' (ofN (settleF P M F)) ∧ Frm gl fv fv' W w'
set_option maxRecDepth 100000 in
set_option maxHeartbeats 8000000 in
theorem settle_try (gl bk B : Nat) (kk : Int) (M F : List Nat) (mv fv : Value) (W : World) (hrow : RowAt W gl 101 [y0, y1, y2, .func (.func 62) #[] #[.pointer (some ⟨bk, 0, none⟩)], y4, mv, fv]) (hM : RwsAt W mv M) (hl : M.length ≤ 4096)
    (hF : OwnInts W B fv (ofN F)) (hF1 : F.length ≤ 1024) (hFm : ∀ t ∈ F, Mk t) (hbk : W.cell? ⟨bk, 0, none⟩ = some (.int .i64 kk)) (hgB : gl < B) (hB : B ≤ W.heap.size)
    (hsort : ∀ (B : Nat) (v : Value) (L : List Nat) (w : World), OwnRws w B v L → B ≤ w.heap.size → Calls Tryz.prog 126 #[v, .func (.func 127) #[] #[]] w fun e w' => e = .returned (.tuple #[]) ∧ ∃ M : List Nat, M.Perm L ∧ M.Pairwise (fun a b => pc a ≤ pc b) ∧ OwnRws w' B v M ∧ (Below B w w' ∧ ∀ k, k < w.heap.size → some k ≠ v.ownBlock → w'.heap[k]? = w.heap[k]?)) :
    Calls Tryz.prog 70 #[.pointer (some ⟨gl, 0, none⟩)] W fun e w' => SPost y0 y1 y2 (.func (.func 62) #[] #[.pointer (some ⟨bk, 0, none⟩)]) mv fv gl (overP kk) M F W e w' := by
  have HSORT := Lib.hid hsort
  have HF := Lib.hid hF
  have HFM := Lib.hid (And.intro hF1 hFm)
  have eg2 : ∀ args w, (callFunc 130 args).run Tryz.prog w = .ok (.enter 130 args) w := enters_of Tryz.func130 (by kernel_rfl) rfl
  have EG2 := Lib.hid eg2
  have hgl : gl < W.heap.size := hrow.lt
  clear hsort hF hF1 hFm eg2
  have HROW := Lib.hid hrow
  have HM := Lib.hid hM
  have c3 := hrow.cell (i := 3) (by simp)
  have c5 := hrow.cell (i := 5) (by simp)
  simp only [List.getElem_cons_succ, List.getElem_cons_zero] at c3 c5
  obtain ⟨ma, mc, hmv⟩ := hM.shape
  obtain ⟨n, hn⟩ : ∃ n, n = M.length := ⟨_, rfl⟩
  rw [← hn] at hmv hl
  subst hmv
  have HN := Lib.hid hn
  have HOV := Lib.hid (fun (e : Nat) (W' : World) (hk : Kept W W') (he : Mk e) => over_any kk e bk W' (hk.cell hbk) he)
  clear hrow hM hn hbk
  go_enter Tryz.func70, Tryz.ntmps70
  go_wp2
  go_loopg [3, 4, 14] n (fun kx s3 s4 s14 wr => ∃ (k : Nat) (vi vg : Value), s3 = vi ∧ s4 = vg ∧ s14 = .int .i64 k ∧ k ≤ n ∧ n - k ≤ kx ∧ Hid (OwnRws wr W.heap.size vi (inTo (overP kk) M k)) ∧ Hid (OwnInts wr W.heap.size vg (ofN (goneTo (overP kk) M k))) ∧ Hid (Kept W wr))
  case atStart => exact ⟨0, _, _, rfl, rfl, rfl, Nat.zero_le _, by omega, Lib.hid (by unfold inTo; simpa using OwnRws.nil _ _), Lib.hid (by unfold goneTo; simpa [ofN] using OwnInts.nil _ _), Lib.hid (Kept.refl _)⟩
  case round =>
    obtain ⟨k, vi, vg, rfl, rfl, rfl, hk, hkx, HI, HG, HK⟩ := hrel
    obtain ⟨ia, ic, hvi⟩ := HI.out.at.shape
    obtain ⟨iN, hiN⟩ : ∃ m, m = (inTo (overP kk) M k).length := ⟨_, rfl⟩
    rw [← hiN] at hvi
    subst hvi
    have HIN := Lib.hid hiN
    clear hiN
    obtain ⟨ga, gn, gc, rfl⟩ := HG.out.ints.shape
    have d3 := HK.out.cell c3
    have hszr := HK.out.size
    by_cases hlt : k < n
    · have hkl : k < M.length := by have := HN.out; omega
      obtain ⟨b, o, rfl, hrg⟩ := (HM.out.kept HK.out).get k hkl
      have hrl := HM.out.lt M[k] (List.getElem_mem _)
      have hi1 := inTo_succ (overP kk) M k hkl
      have hg1 := goneTo_succ (overP kk) M k hkl
      have hil := inTo_len (overP kk) M k
      have hgl := goneTo_len (overP kk) M k
      obtain ⟨r, hr⟩ : ∃ r, r = M[k] := ⟨_, rfl⟩
      rw [← hr] at hrg hrl hi1 hg1
      have HOV1 : Hid (∀ W', Kept wr W' → Calls Tryz.prog 62 #[.int .i64 (evW r), .pointer (some ⟨bk, 0, none⟩)] W' fun e w' => e = .returned (.bool (overP kk (evW r))) ∧ Kept W' w') := Lib.hid fun W' hk => HOV.out _ W' (HK.out.trans hk) (evW_lt r)
      have HRG : Hid (wr.rangeAt b (o + k * 3) [.int .i64 (evW r), .int .u64 (loW r), .int .u64 (hiW r)]) := Lib.hid hrg
      have HRC : Hid (rcells r = [.int .i64 (evW r), .int .u64 (loW r), .int .u64 (hiW r)]) := Lib.hid rfl
      have HRL := Lib.hid hrl
      have HI1 := Lib.hid hi1
      have HG1 := Lib.hid hg1
      have HIL : Hid ((inTo (overP kk) M k).length ≤ 4096 ∧ (goneTo (overP kk) M k).length ≤ 4096) := Lib.hid (by rw [← HN.out] at hil hgl; omega)
      have hkn : (k : Int) < (n : Int) := by omega
      generalize evW r = x0 at *
      generalize loW r = x1 at *
      generalize hiW r = x2 at *
      clear hrg hrl hi1 hg1 hil hgl hr
      obtain ⟨bp, hbp⟩ : ∃ bp, bp = overP kk x0 := ⟨_, rfl⟩
      rw [← hbp] at HOV1 HI1 HG1
      clear hbp
      go_wp2_with (with_reducible refine wpList_load_mid rfl 103 _ rfl b (o + k * 3) rfl _ _ HRG.out Tryz.underlying103 rfl (by kernel_rfl) ?_)
      go_cut [24] (fun p24 wx => p24 = .bool bp ∧ Hid (Kept wr wx) ∧ wx.cell? ⟨wr.heap.size, 0, none⟩ = some (.int .i64 x0) ∧ wx.cell? ⟨wr.heap.size, 1, none⟩ = some (.int .u64 x1) ∧ wx.cell? ⟨wr.heap.size, 2, none⟩ = some (.int .u64 x2))
      case first =>
        have e3 := (((Kept.refl wr).alloc (.cells #[.int .i64 x0, .int .u64 x1, .int .u64 x2] 103)).drew).cell d3
        go_region_with (go_at_call 62; (with_reducible refine (HOV1.out _ (((Kept.refl wr).alloc _).drew)).mono ?_); rintro e w3 ⟨rfl, hk3⟩)
        all_goals (go_wp2_with fail; go_meet)
        all_goals exact ⟨rfl, Lib.hid ((((Kept.refl wr).alloc _).drew).trans hk3), hk3.cell ((Kept.refl _).drew.cell (by simp)), hk3.cell ((Kept.refl _).drew.cell (by simp)), hk3.cell ((Kept.refl _).drew.cell (by simp))⟩
      case rest =>
        obtain ⟨rfl, HKX, q0, q1, q2⟩ := hcut
        have hszx := HKX.out.size
        clear d3 HOV1
        cases bp with
        | true =>
          go_wp2_with (at_builtin; refine app_int rfl _ _ rfl W.heap.size _ (ofN (goneTo (overP kk) M k)) rfl (HG.out.kept (HKX.out.alloc _)) _ (x0 : Int) rfl (by simp) (by have := HIL.out; simp [ofN]; omega) (by simp; omega) ?_; intro v7 w7 hown7 hg7 hb7; have O7 := Lib.hid hown7; have HB7 := Lib.hid hb7; have HG7 := Lib.hid hg7; clear hown7 hb7 hg7)
          go_roundg (n - (k + 1))
          case measure => omega
          case rel =>
            refine ⟨k + 1, _, _, rfl, rfl, by go_num, by omega, Nat.le_refl _, Lib.hid ?_, Lib.hid ?_, Lib.hid (Below.trans ((HK.out.trans HKX.out).alloc _) HB7.out)⟩
            · have e := HI1.out; simp at e; rw [e]
              exact (HI.out.kept (HKX.out.alloc _)).tag (HG.out.kept (HKX.out.alloc _)).1 (by decide) HG7.out
            · have e := HG1.out; simp at e; rw [e]
              have := O7.out
              simpa [ofN] using this
        | false =>
          go_wp2_with ((at_builtin; refine app_row1 rfl _ _ rfl W.heap.size _ (inTo (overP kk) M k) rfl (HI.out.kept (HKX.out.alloc _)) wc.heap.size r rfl (by rw [HRC.out]; exact range_row _ _ _ _ _) HRL.out (by have := HIL.out; omega) (by simp; omega) ?_; intro v7 w7 hown7 hg7 hb7; have O7 := Lib.hid hown7; have HB7 := Lib.hid hb7; have HG7 := Lib.hid hg7; clear hown7 hb7 hg7))
          go_roundg (n - (k + 1))
          case measure => omega
          case rel =>
            refine ⟨k + 1, _, _, rfl, rfl, by go_num, by omega, Nat.le_refl _, Lib.hid ?_, Lib.hid ?_, Lib.hid (Below.trans ((HK.out.trans HKX.out).alloc _) HB7.out)⟩
            · have e := HI1.out; simp at e; rw [e]
              exact O7.out
            · have e := HG1.out; simp at e; rw [e]
              exact ints_tag (HG.out.kept (HKX.out.alloc _)) (HI.out.kept (HKX.out.alloc _)).1 (by decide) HG7.out
    · have hke : k = n := by omega
      have HI1 : Hid (OwnRws wr W.heap.size (.slice ia iN ic) (M.filter fun r => !overP kk (evW r))) := Lib.hid (by have h := HI.out; unfold inTo at h; rw [hke, HN.out, List.take_length] at h; exact h)
      have HG1 : Hid (OwnInts wr W.heap.size (.slice ga gn gc) (ofN ((M.filter fun r => overP kk (evW r)).map evW))) := Lib.hid (by have h := HG.out; unfold goneTo at h; rw [hke, HN.out, List.take_length] at h; exact h)
      clear HI HG hke
      obtain ⟨L1, hL1⟩ : ∃ L1, L1 = M.filter fun r => !overP kk (evW r) := ⟨_, rfl⟩
      rw [← hL1] at HI1
      obtain ⟨G1, hG1⟩ : ∃ G1, G1 = (M.filter fun r => overP kk (evW r)).map evW := ⟨_, rfl⟩
      rw [← hG1] at HG1
      have HL1 := Lib.hid hL1
      have HGG := Lib.hid hG1
      have HS := Lib.hid (HSORT.out W.heap.size _ L1 wr HI1.out hszr)
      clear hL1 hG1 d3
      go_wp2_with fail
      refine HS.out.mono ?_
      rintro e w2 ⟨rfl, L2, hperm, hpair, ho2, hb2, hne2⟩
      have hg2 := sort_ints HG1.out HI1.out hne2
      have HG2 := Lib.hid hg2
      clear hne2 hg2
      have hk2 : Kept W w2 := HK.out.app hb2
      have HK2 := Lib.hid hk2
      have HPM : Hid (L2.Perm L1 ∧ L2.Pairwise (fun a b => pc a ≤ pc b)) := ⟨hperm, hpair⟩
      have HO2 := Lib.hid ho2
      have HB2 := Lib.hid hb2
      have hr2 := HROW.out.kept hk2
      have HR2 := Lib.hid hr2
      have f4 := hr2.free 4
      have d4 := hr2.cell (i := 4) (by simp)
      simp only [List.getElem_cons_succ, List.getElem_cons_zero] at d4
      clear hperm hpair ho2 hb2 hk2 hr2
      go_wp2
      obtain ⟨w3, hw3⟩ : ∃ w3, w3 = w2.setCell ⟨gl, 4, none⟩ (.slice none 0 0) := ⟨_, rfl⟩
      rw [← hw3]
      have HF3 : Hid (Frm gl (.slice none 0 0) (.slice none 0 0) W w3) := Lib.hid (by rw [hw3]; exact frm_store HK2.out 4 _)
      have HR3 : Hid (RowAt w3 gl 101 [y0, y1, y2, .func (.func 62) #[] #[.pointer (some ⟨bk, 0, none⟩)], .slice none 0 0, .slice ma n mc, fv]) := Lib.hid (by rw [hw3]; have := HR2.out.store 4 (.slice none 0 0); simpa using this)
      have HO3 : Hid (OwnRws w3 W.heap.size (.slice ia iN ic) L2) := Lib.hid (by rw [hw3]; exact rws_frm HO2.out hgl (frm_store (Kept.refl _) 4 _))
      have HG3 : Hid (OwnInts w3 W.heap.size (.slice ga gn gc) (ofN G1)) := Lib.hid (by rw [hw3]; exact ints_frm HG2.out hgl (frm_store (Kept.refl _) 4 _))
      have HV3 : Hid (OwnInts w3 B fv (ofN F)) := Lib.hid (ints_frm HF.out hgB HF3.out)
      have hsz3 := HF3.out.size
      clear hw3 HI1 HG1 HR2 HO2 HB2 HG2 HK2 HK f4 d4
      have hL2 : L2.length = iN := by have := HO3.out.at; obtain ⟨_, _, h, _⟩ := this; injection h with _ h _; exact h.symm
      have HL2 := Lib.hid hL2
      clear hL2
      go_loopg [42] iN (fun kx s42 wq => ∃ (j : Nat) (vo : Value), s42 = .int .i64 j ∧ j ≤ iN ∧ iN - j ≤ kx ∧ Hid (CutR y0 y1 y2 (.func (.func 62) #[] #[.pointer (some ⟨bk, 0, none⟩)]) (.slice ma n mc) fv wq gl w3.heap.size vo (minN (L2.take j))) ∧ Hid (Frm gl (.slice none 0 0) vo w3 wq))
      case atStart => exact ⟨0, _, rfl, Nat.zero_le _, by omega, Lib.hid ⟨HR3.out, OwnRws.nil _ _⟩, Lib.hid (Frm.of_kept (Kept.refl _))⟩
      case round =>
        obtain ⟨j, vo, rfl, hj, hjx, HC2, HFQ⟩ := hrel
        have hszq := HFQ.out.size
        obtain ⟨ao, co, hvo⟩ := HC2.out.2.at.shape
        obtain ⟨mo, hmo⟩ : ∃ mo, mo = (minN (L2.take j)).length := ⟨_, rfl⟩
        rw [← hmo] at hvo
        subst hvo
        by_cases hlt2 : j < iN
        · have hjl : j < L2.length := by have := HL2.out; omega
          have hmo9 : mo ≤ j := by rw [hmo]; refine Nat.le_trans (len_minN _ []) ?_; simp; omega
          obtain ⟨b, o, rfl, hrg⟩ := (rws_frm HO3.out hgl HFQ.out).at.get j hjl
          have hxl := HO3.out.2.2 L2[j] (List.getElem_mem _)
          have hstep := minN_take L2 j hjl
          have hin : iN ≤ 4096 := by rw [← HL2.out, HPM.out.1.length_eq, HL1.out]; exact Nat.le_trans (List.length_filter_le ..) (by rw [← HN.out]; exact hl)
          obtain ⟨x, hxx⟩ : ∃ x, x = L2[j] := ⟨_, rfl⟩
          rw [← hxx] at hrg hxl hstep
          obtain ⟨out, hout⟩ : ∃ out, out = minN (L2.take j) := ⟨_, rfl⟩
          rw [← hout] at hstep HC2 hmo
          have HST := Lib.hid hstep
          have HXL := Lib.hid hxl
          have d4 := HC2.out.1.cell (i := 4) (by simp)
          simp only [List.getElem_cons_succ, List.getElem_cons_zero] at d4
          have hglq := HC2.out.1.lt
          have HNE := Lib.hid (list_apart HC2.out.2 HC2.out.1)
          have HHAS : Hid (∀ W, Kept wr W → W.cell? ⟨wr.heap.size, 0, none⟩ = some (.int .i64 (evW x)) → W.cell? ⟨wr.heap.size, 1, none⟩ = some (.int .u64 (loW x)) → W.cell? ⟨wr.heap.size, 2, none⟩ = some (.int .u64 (hiW x)) →
            Calls Tryz.prog 129 #[.slice ao mo co, .func (.func 130) #[] #[.pointer (some ⟨wr.heap.size, 0, none⟩)]] W fun e w' => e = .returned (.bool (out.any fun t => subN t x)) ∧ Kept W w') := Lib.hid fun W hk h0 h1 h2 =>
              hasR_any 130 #[.pointer (some ⟨wr.heap.size, 0, none⟩)] EG2.out (fun t => subN t x) _ out W (decides_part x wr.heap.size W hxl h0 h1 h2) ((HC2.out.2.kept hk).at)
          have HRC : Hid (rcells x = [.int .i64 (evW x), .int .u64 (loW x), .int .u64 (hiW x)]) := rfl
          unfold rcells at hrg
          generalize evW x = z0 at *
          generalize loW x = z1 at *
          generalize hiW x = z2 at *
          have HRG := Lib.hid hrg
          have HMO := Lib.hid hmo
          have HXX := Lib.hid hxx
          have hkn : (j : Int) < (iN : Int) := by omega
          clear hrg hxl hstep hxx hout hmo
          cases hq : out.any (fun t => subN t x) with
          | true =>
            have HQ := Lib.hid hq
            rw [hq] at HHAS
            clear hq
            go_wp2_with (first | (with_reducible refine wpList_load_mid rfl 103 _ rfl b (o + j * 3) rfl _ _ HRG.out Tryz.underlying103 rfl (by kernel_rfl) ?_) | (go_at_call 129; refine (HHAS.out _ ((Kept.refl _).alloc _) (by simp) (by simp) (by simp)).mono ?_; rintro e w4 ⟨rfl, hk4⟩))
            go_roundg (iN - (j + 1))
            case measure => omega
            case rel =>
              have hk5 : Kept wr w4 := ((Kept.refl _).alloc _).trans hk4
              exact ⟨j + 1, _, by go_num, by omega, Nat.le_refl _, Lib.hid (by rw [HST.out, keepN, HQ.out]; exact ⟨HC2.out.1.kept hk5, HC2.out.2.kept hk5⟩), Lib.hid (HFQ.out.trans (Frm.of_kept hk5))⟩
          | false =>
            have HQ := Lib.hid hq
            rw [hq] at HHAS
            clear hq
            obtain ⟨i0, hi0, hz0, hz1, hz2⟩ := info_parts info_trow
            have I0 := Lib.hid hi0
            have I1 := Lib.hid hz0
            have I2 := Lib.hid hz1
            have I3 := Lib.hid hz2
            clear hi0 hz0 hz1 hz2
            go_wp2_with (first | (with_reducible refine wpList_load_mid rfl 103 _ rfl b (o + j * 3) rfl _ _ HRG.out Tryz.underlying103 rfl (by kernel_rfl) ?_) | (go_at_call 129; refine (HHAS.out _ ((Kept.refl _).alloc _) (by simp) (by simp) (by simp)).mono ?_; rintro e w4 ⟨rfl, hk4⟩; have b0 := hk4.cell (p := ⟨wr.heap.size, 0, none⟩) (v := .int .i64 z0) (by simp); have b1 := hk4.cell (p := ⟨wr.heap.size, 1, none⟩) (v := .int .u64 z1) (by simp); have b2 := hk4.cell (p := ⟨wr.heap.size, 2, none⟩) (v := .int .u64 z2) (by simp); have hk5 : Kept wr w4 := ((Kept.refl _).alloc _).trans hk4; have HK5 := Lib.hid hk5; have hs5 := hk5.size; have hsz4 := hk4.size; have HR4 := Lib.hid (HC2.out.1.kept hk5); have HV4 := Lib.hid (HC2.out.2.kept hk5); have d4' := hk5.cell d4; clear hk4 hk5))
            have cA0 := ((Kept.refl w4).drew).cell b0
            have cA1 := ((Kept.refl w4).drew).cell b1
            have cA2 := ((Kept.refl w4).drew).cell b2
            have cA4 := ((Kept.refl w4).drew).cell d4'
            have cB : ∀ O, ((w4.alloc O).drew).cell? ⟨gl, 4, none⟩ = some (.slice ao mo co) := fun O => (((Kept.refl w4).alloc O).drew).cell d4'
            have HO2 : Hid (∀ O, ((w4.alloc O).drew).ownsRow w3.heap.size 103 3 (.slice ao mo co) mo (out.flatMap rcells)) := Lib.hid fun O => by
              have h := (HV4.out.kept (((Kept.refl w4).alloc O).drew)).1
              rw [← HMO.out] at h; exact h
            have f0 := HR4.out.free 4
            have hgl4 : gl < w4.heap.size := HR4.out.lt
            go_region_law ((refine step_append_lies _ (by rfl) _ _ _ (by rfl) w3.heap.size 103 i0 _ 3 24 Tryz.underlying99 I0.out I1.out I2.out I3.out rfl (by omega) (.slice ao mo co) mo _ (by rfl) (HO2.out _) ⟨w4.heap.size, 0, none⟩ 1 1 [.int .i64 z0, .int .u64 z1, .int .u64 z2] (by rfl) (by rfl) (World.news_of_block (cs := #[.int .i64 z0, .int .u64 z1, .int .u64 z2]) (t := 103) (fr := (0, 0)) (heap_new1d w4 _)) (by simp [Value.oneCell']) (by omega) (by unfold maxLen; omega) (by omega) (by simp at hsz4 ⊢; omega) (w4.heap.size + 1) (by simp) ?_; intro gg cap w5 hown5 hgrow hat hlt5; have st5 := hgrow.cell (a := ⟨gl, 4, none⟩) (v := .slice ao mo co) (cB _) HNE.out; have sf5 := (World.frozen?_of_block (a := ⟨gl, 4, none⟩) (hgrow.block gl (by simp; omega) HNE.out)).trans ((Below.frozen (((Kept.refl w4).alloc _).drew) (p := ⟨gl, 4, none⟩) (by simp; omega)).trans f0)))
            all_goals go_wp2
            all_goals
              have hs := settle_step HR4.out HV4.out (by simp at hsz4; omega) HXL.out (by have := HMO.out; omega) HMO.out (c := x) (by rw [HRC.out]; exact hown5) hgrow hat
              have HS5 := Lib.hid hs
              clear hs
              go_roundg (iN - (j + 1))
              case measure => omega
              case rel => exact ⟨j + 1, _, by go_num, by omega, Nat.le_refl _, Lib.hid (by rw [HST.out, keepN, HQ.out]; exact HS5.out.1), Lib.hid ((HFQ.out.trans (Frm.of_kept HK5.out)).trans HS5.out.2)⟩
        · have hje : j = iN := by omega
          have HC3 : Hid (CutR y0 y1 y2 (.func (.func 62) #[] #[.pointer (some ⟨bk, 0, none⟩)]) (.slice ma n mc) fv wr gl w3.heap.size (.slice ao mo co) (minN L2)) := Lib.hid (by have h := HC2.out; rw [hje, ← HL2.out, List.take_length] at h; exact h)
          have hmo2 : mo = (minN L2).length := by rw [hmo, hje, ← HL2.out, List.take_length]
          have HMR : Hid ((minN L2).Perm (settleR (overP kk) M)) := Lib.hid (by unfold settleR; rw [← HL1.out]; exact least_perm HPM.out.1 HPM.out.2)
          have hmo3 : mo = (settleR (overP kk) M).length := hmo2.trans HMR.out.length_eq
          have d4 := HC3.out.1.cell (i := 4) (by simp)
          have d6 := HC3.out.1.cell (i := 6) (by simp)
          simp only [List.getElem_cons_succ, List.getElem_cons_zero] at d4 d6
          have HMO := Lib.hid hmo3
          clear hmo hmo2 hmo3 hje HC2
          by_cases hbig : 1024 < mo
          · have hb' : (mo : Int) > 1024 := by omega
            go_wp2
            go_ret
            unfold SPost
            rw [if_pos (.inl (by rw [← HMO.out]; exact hbig))]
            exact ⟨rfl, frm_low (HF3.out.trans HFQ.out) hgl (by simp [Value.ownBlock])⟩
          · have hb' : ¬ (mo : Int) > 1024 := by omega
            have HSF : Hid (settleF (overP kk) M F = minK (F ++ G1)) := Lib.hid (by unfold settleF; rw [HGG.out])
            have hgn : G1.length ≤ 4096 := by rw [HGG.out, List.length_map]; exact Nat.le_trans (List.length_filter_le ..) (by rw [← HN.out]; exact hl)
            have HGN := Lib.hid hgn
            have HMK : Hid (∀ t ∈ F ++ G1, Mk t) := Lib.hid fun t ht => by
              rcases List.mem_append.1 ht with h | h
              · exact HFM.out.2 t h
              · rw [HGG.out] at h
                obtain ⟨r, _, rfl⟩ := List.mem_map.1 h
                exact evW_lt r
            have HVQ := Lib.hid (ints_frm HV3.out hgB HFQ.out)
            have HGQ := Lib.hid (ints_frm HG3.out hgl HFQ.out)
            have hBq : B ≤ wr.heap.size := by omega
            obtain ⟨SF, hSF⟩ : ∃ SF, SF = minK (F ++ G1) := ⟨_, rfl⟩
            have HSF2 := Lib.hid hSF
            clear hgn hSF
            have hHR : ∀ w8, (∀ k, k < wr.heap.size → some k ≠ fv.ownBlock → w8.heap[k]? = wr.heap[k]?) → RowAt w8 gl 101 [y0, y1, y2, .func (.func 62) #[] #[.pointer (some ⟨bk, 0, none⟩)], .slice ao mo co, .slice ma n mc, fv] := fun w8 h8 =>
              HC3.out.1.same (h8 gl HC3.out.1.lt fun e => by have := (HVQ.out.1.lt gl e.symm).1; omega)
            have HHR := Lib.hid hHR
            clear hHR
            go_wp2_with (first | (at_builtin; refine app_ints rfl _ _ rfl B _ (ofN F) rfl HVQ.out _ (ofN G1) rfl HGQ.out.ints (by have := HFM.out.1; have := HGN.out; simp [ofN]; omega) hBq ?_; intro v8 w8 hown8 hne8 hb8; have HR8 := Lib.hid (HHR.out w8 hne8); have HO8 := Lib.hid hown8; have HNE8 := Lib.hid hne8; have HB8 := Lib.hid hb8; clear hown8 hne8 hb8) | (go_at_call 75; refine (tminimal_any v8 (F ++ G1) w8 HMK.out (by have h := HO8.out.ints; simpa [ofN] using h) (by have := HFM.out.1; have := HGN.out; simp; omega)).mono ?_; rintro e w9 ⟨v9, rfl, hs9, hk9⟩; have HS9 := Lib.hid hs9; have HK9 := Lib.hid hk9; have hr9 := HR8.out.kept hk9; have f9 := hr9.free 6; have e9 := hr9.cell (i := 6) (by simp); have g9 := hr9.lt; have HR9 := Lib.hid hr9; obtain ⟨a9, c9, hv9, _⟩ := hs9.1.ints; obtain ⟨n9, hn9⟩ : ∃ n9, n9 = (ofN (minK (F ++ G1))).length := ⟨_, rfl⟩; rw [← hn9] at hv9; subst hv9; have HN9 := Lib.hid hn9; simp only [List.getElem_cons_succ, List.getElem_cons_zero] at e9; clear hs9 hk9 hr9 hn9))
            all_goals
              have HFR9 : Hid (Frm gl fv (.slice a9 n9 c9) W (w9.setCell ⟨gl, 6, none⟩ (.slice a9 n9 c9))) := Lib.hid (by
                have h3 : Below 0 w9 (w9.setCell ⟨gl, 6, none⟩ (.slice a9 n9 c9)) := Below.setCell (Below.refl _ _) (Nat.zero_le _) _
                have hb8 := HB8.out
                have hk9 := HK9.out
                have hs8 := hb8.size
                have hf := HF3.out.trans HFQ.out
                refine ⟨h3.os.trans (hk9.os.trans (hb8.os.trans hf.os)), h3.tape.trans (hk9.tape.trans (hb8.tape.trans hf.tape)), h3.output.trans (hk9.output.trans (hb8.output.trans hf.output)), Nat.le_trans hf.size (Nat.le_trans hs8 (Nat.le_trans hk9.size h3.size)), fun k hk e1 e2 => ?_, .inr fun g hg => ?_⟩
                · have hkr : k < wr.heap.size := Nat.lt_of_lt_of_le hk hf.size
                  exact (Below.heap_setCell w9 ⟨gl, 6, none⟩ _ k e1).trans ((hk9.block k (by omega)).trans ((HNE8.out k hkr e2).trans (hf.block k hk e1 (by simp [Value.ownBlock]))))
                · have := (HS9.out.1.1.lt g hg).1
                  have := hf.size
                  omega)
              have hnl : n9 = (settleF (overP kk) M F).length := by rw [HSF.out, HN9.out]; simp [ofN]
              have hs8 := HB8.out.size
              have HRW : Hid (OwnRws (w9.setCell ⟨gl, 6, none⟩ (.slice a9 n9 c9)) W.heap.size (.slice ao mo co) (minN L2)) := Lib.hid (by
                have h1 : OwnRws w8 w3.heap.size (.slice ao mo co) (minN L2) := ⟨own_tag HC3.out.2.1 HVQ.out.1 (by decide) HNE8.out, HC3.out.2.2⟩
                exact (rws_frm (h1.kept HK9.out) (by omega) (frm_store (Kept.refl _) 6 _)).mono hsz3)
              have HFW : Hid (OwnInts (w9.setCell ⟨gl, 6, none⟩ (.slice a9 n9 c9)) W.heap.size (.slice a9 n9 c9) (ofN (settleF (overP kk) M F))) := Lib.hid (by
                rw [HSF.out]
                exact (ints_frm HS9.out.1 (by omega) (frm_store (Kept.refl _) 6 _)).mono (by omega))
              have HRF : Hid (RowAt (w9.setCell ⟨gl, 6, none⟩ (.slice a9 n9 c9)) gl 101 [y0, y1, y2, .func (.func 62) #[] #[.pointer (some ⟨bk, 0, none⟩)], .slice ao mo co, .slice ma n mc, .slice a9 n9 c9]) := Lib.hid (by
                have := HR9.out.store 6 (.slice a9 n9 c9)
                simpa using this)
              go_ret
              unfold SPost
              by_cases hbF : 1024 < n9
              · rw [if_pos (.inr (by rw [← hnl]; exact hbF))]
                first
                  | exact ⟨rfl, frm_low HFR9.out hgl (fun g hg => by have := (HVQ.out.1.lt g hg).1; omega)⟩
                  | (exfalso; omega)
              · rw [if_neg (by rw [← hnl, ← HMO.out]; omega)]
                first
                  | exact ⟨rfl, _, _, minN L2, HMR.out, HRF.out, HRW.out, HFW.out, HFR9.out⟩
                  | (exfalso; omega)
end Go.Proofs.YteodabnjkikogaaGreat.Tr

/-
  Walks over a program that is a variable: swapRange and rotate of slices.SortStableFunc at the rows of truncate.
-/
namespace Go.Proofs.YteodabnjkikogaaGreat.Tr
open Go.Shelf Go.RowKit Go.Lib Go.Sort

/-- What the walks want of the program. -/
structure StL (P : Program) (k : Nat) : Prop where
  mixed : P.follows .mixedOrders = true
  g148 : P.funcs[206]? = some Tryz.f206
  g147 : P.funcs[204]? = some Tryz.f204
  g145 : P.funcs[200]? = some Tryz.f200
  t0 : P.underlying 0 = some (TypeDesc.tuple #[])
  a0 : ∀ (w : World), Sem.run P (isAgg 0) w = Result.ok false w
  z0 : ∀ (w : World), Sem.run P (Go.sizeOf 0) w = Result.ok 1 w
  v0 : ∀ (w : World), Sem.run P (zeroValue 0) w = Result.ok (Value.tuple #[]) w
  t3 : P.underlying 3 = some (TypeDesc.int IntKind.i64)
  a3 : ∀ (w : World), Sem.run P (isAgg 3) w = Result.ok false w
  z3 : ∀ (w : World), Sem.run P (Go.sizeOf 3) w = Result.ok 1 w
  v3 : ∀ (w : World), Sem.run P (zeroValue 3) w = Result.ok (Value.int IntKind.i64 0) w
  t4 : P.underlying 4 = some TypeDesc.bool
  a4 : ∀ (w : World), Sem.run P (isAgg 4) w = Result.ok false w
  z4 : ∀ (w : World), Sem.run P (Go.sizeOf 4) w = Result.ok 1 w
  v4 : ∀ (w : World), Sem.run P (zeroValue 4) w = Result.ok (Value.bool false) w
  tu : P.underlying 122 = some (TypeDesc.int IntKind.u64)
  au : ∀ (w : World), Sem.run P (isAgg 122) w = Result.ok false w
  zu : ∀ (w : World), Sem.run P (Go.sizeOf 122) w = Result.ok 1 w
  vu : ∀ (w : World), Sem.run P (zeroValue 122) w = Result.ok (Value.int IntKind.u64 0) w
  t22 : P.underlying 99 = some (TypeDesc.slice 103)
  a22 : ∀ (w : World), Sem.run P (isAgg 99) w = Result.ok false w
  z22 : ∀ (w : World), Sem.run P (Go.sizeOf 99) w = Result.ok 1 w
  v22 : ∀ (w : World), Sem.run P (zeroValue 99) w = Result.ok (Value.slice none 0 0) w
  t25 : P.underlying 152 = some (TypeDesc.func #[103, 103] #[3] false)
  a25 : ∀ (w : World), Sem.run P (isAgg 152) w = Result.ok false w
  z25 : ∀ (w : World), Sem.run P (Go.sizeOf 152) w = Result.ok 1 w
  v25 : ∀ (w : World), Sem.run P (zeroValue 152) w = Result.ok Value.nilFunc w
  aE : ∀ (w : World), Sem.run P (isAgg 103) w = Result.ok true w
  zE : ∀ (w : World), Sem.run P (Go.sizeOf 103) w = Result.ok k w
theorem stL : StL Tryz.prog 3 where
  mixed := by kernel_rfl
  g148 := Tryz.func206
  g147 := Tryz.func204
  g145 := Tryz.func200
  t0 := Tryz.underlying0
  a0 := Tryz.isAgg0
  z0 := Tryz.sizeOf0
  v0 := Tryz.zeroValue0
  t3 := Tryz.underlying3
  a3 := Tryz.isAgg3
  z3 := Tryz.sizeOf3
  v3 := Tryz.zeroValue3
  t4 := Tryz.underlying4
  a4 := Tryz.isAgg4
  z4 := Tryz.sizeOf4
  v4 := Tryz.zeroValue4
  tu := Tryz.underlying122
  au := Tryz.isAgg122
  zu := Tryz.sizeOf122
  vu := Tryz.zeroValue122
  t22 := Tryz.underlying99
  a22 := Tryz.isAgg99
  z22 := Tryz.sizeOf99
  v22 := Tryz.zeroValue99
  t25 := Tryz.underlying152
  a25 := Tryz.isAgg152
  z25 := Tryz.sizeOf152
  v25 := Tryz.zeroValue152
  aE := Tryz.isAgg103
  zE := Tryz.sizeOf103
section
variable {P : Program} {α : Type} [Inhabited α]
set_option maxHeartbeats 4000000 in
set_option maxRecDepth 1000000 in
theorem swapRange_o (k : Nat) (L : StL P k) (enc : α → List Value) (g : Nat) (cb : Array Value) (blk off cap a b n : Nat) (d0 d : Array α) (w0 w : World)
    (R : RowK enc k w0 blk off d0) (hs : d0.size = d.size) (S : SWK enc k w0 blk off d w) (hab : a + n ≤ b) (hb : b + n ≤ d.size) (hsz : d.size < 4611686018427387904) :
    Calls P 206 #[.slice (some ⟨blk, off, none⟩) d.size cap, .int .i64 a, .int .i64 b, .int .i64 n, .func (.func g) #[] cb] w fun e w' => e = .returned (.tuple #[]) ∧ ∃ dn, Swd a b n d dn ∧ SWK enc k w0 blk off dn w' := by
  have mixed := L.mixed; have t0 := L.t0; have a0 := L.a0; have z0 := L.z0; have v0 := L.v0; have t3 := L.t3; have a3 := L.a3; have z3 := L.z3; have v3 := L.v3; have t4 := L.t4; have a4 := L.a4; have z4 := L.z4; have v4 := L.v4; have t22 := L.t22; have a22 := L.a22; have z22 := L.z22; have v22 := L.v22; have t25 := L.t25; have a25 := L.a25; have z25 := L.z25; have v25 := L.v25; have aE := L.aE; have zE := L.zE
  have FG := L.g148
  have S0 : Aside (SWK enc k w0 blk off d w) := S
  clear S L
  go_enter FG, Tryz.ntmps206
  go_wp2
  go_loopg [10] n (fun kx s10 wr => ∃ (q : Nat) (dk : Array α), s10 = .int .i64 q ∧ q ≤ n ∧ n - q ≤ kx ∧ dk.size = d.size ∧ Aside (SWK enc k w0 blk off dk wr) ∧ Hid (Swd a b q d dk))
  case atStart => exact ⟨0, d, rfl, Nat.zero_le _, by omega, rfl, S0, Lib.hid (Swd.start a b d)⟩
  case round =>
    clear S0
    obtain ⟨q, dk, rfl, hq, hkx, hds, S1, HW⟩ := hrel
    by_cases hlt : q < n
    · have hltz : (q : Int) < (n : Int) := by omega
      go_wp2_with fail
      have wa : IntKind.i64.wrap ((a : Int) + (q : Int)) = ((a + q : Nat) : Int) := by rw [IntKind.wrap_i64]; omega
      have wa' : (a : Int) + (q : Int) = ((a + q : Nat) : Int) := by omega
      have wb : IntKind.i64.wrap ((b : Int) + (q : Int)) = ((b + q : Nat) : Int) := by rw [IntKind.wrap_i64]; omega
      have wb' : (b : Int) + (q : Int) = ((b + q : Nat) : Int) := by omega
      obtain ⟨x, hx⟩ : ∃ x, x = a + q := ⟨_, rfl⟩
      obtain ⟨y, hy⟩ : ∃ y, y = b + q := ⟨_, rfl⟩
      have HXY : Hid (x = a + q ∧ y = b + q) := ⟨hx, hy⟩
      rw [← hx] at wa wa'
      rw [← hy] at wb wb'
      have hxs : x < d.size := by omega
      have hys : y < d.size := by omega
      clear hx hy
      have ea44 : ((x : Int)).toNat = x := by omega
      have pa44 : (0 : Int) ≤ (x : Int) := by omega
      have ba44 : (x : Int) < (d.size : Int) := by omega
      have ec44 : ((y : Int)).toNat = y := by omega
      have pc44 : (0 : Int) ≤ (y : Int) := by omega
      have bc44 : (y : Int) < (d.size : Int) := by omega
      have S2 : Aside (SWK enc k w0 blk off (swp dk x y) ((wr.drew.setCells blk (off + x * k) (enc dk[y]!)).setCells blk (off + y * k) (enc dk[x]!))) := S1.out.swapped R x y (by omega) (by omega)
      have l44a := S1.out.ld1 R (by omega) P x (by omega)
      have l44b := S1.out.ld1 R (by omega) P y (by omega)
      have s44a := S1.out.st1 R (by omega) P x (by omega) dk[y]!
      have s44b := S1.out.st2 R (by omega) P x y (by omega) (by omega) dk[y]! dk[x]!
      have n44a : (enc dk[x]!).length = k := R.hk _
      have n44b : (enc dk[y]!).length = k := R.hk _
      generalize enc dk[x]! = cI44 at S2 l44a s44b n44a
      generalize enc dk[y]! = cJ44 at S2 l44b s44a s44b n44b
      clear S1
      go_big_region_o
      clear l44a l44b s44a s44b
      generalize (wr.drew.setCells blk (off + x * k) cJ44).setCells blk (off + y * k) cI44 = w2 at S2 ⊢
      go_wp2
      go_roundg (n - (q + 1))
      case measure => omega
      case rel => exact ⟨q + 1, swp dk x y, by go_num, by omega, Nat.le_refl _, by rw [Go.Sort.size_swp]; exact hds, S2, by rw [HXY.out.1, HXY.out.2]; exact Lib.hid (HW.out.step (by omega) (by omega))⟩
    · have hltz : ¬ (q : Int) < (n : Int) := by omega
      have hke : q = n := by omega
      subst hke
      go_wp2
      go_end0
      exact ⟨rfl, dk, HW.out, S1.out⟩
set_option maxHeartbeats 4000000 in
set_option maxRecDepth 1000000 in
theorem rotate_o (k : Nat) (L : StL P k) (enc : α → List Value) (g : Nat) (cb : Array Value) (blk off cap a m b : Nat) (d0 d : Array α) (w0 w : World)
    (R : RowK enc k w0 blk off d0) (hs : d0.size = d.size) (S : SWK enc k w0 blk off d w) (ham : a < m) (hmb : m < b) (hb : b ≤ d.size) (hsz : d.size < 4611686018427387904) :
    Calls P 204 #[.slice (some ⟨blk, off, none⟩) d.size cap, .int .i64 a, .int .i64 m, .int .i64 b, .func (.func g) #[] cb] w fun e w' => e = .returned (.tuple #[]) ∧ ∃ dn, Rot a m b d dn ∧ SWK enc k w0 blk off dn w' := by
  have t0 := L.t0; have a0 := L.a0; have z0 := L.z0; have v0 := L.v0; have t3 := L.t3; have a3 := L.a3; have z3 := L.z3; have v3 := L.v3; have t4 := L.t4; have a4 := L.a4; have z4 := L.z4; have v4 := L.v4; have t22 := L.t22; have a22 := L.a22; have z22 := L.z22; have v22 := L.v22; have t25 := L.t25; have a25 := L.a25; have z25 := L.z25; have v25 := L.v25
  have FG := L.g147
  have e148 : ∀ args w, (callFunc 206 args).run P w = .ok (.enter 206 args) w := enters_of L.g148 (by kernel_rfl) rfl
  have HSW : Hid (∀ (a b n : Nat) (dk : Array α) (wr : World), d0.size = dk.size → SWK enc k w0 blk off dk wr → a + n ≤ b → b + n ≤ dk.size → dk.size < 4611686018427387904 →
    Calls P 206 #[.slice (some ⟨blk, off, none⟩) dk.size cap, .int .i64 a, .int .i64 b, .int .i64 n, .func (.func g) #[] cb] wr fun e w' => e = .returned (.tuple #[]) ∧ ∃ dn, Swd a b n dk dn ∧ SWK enc k w0 blk off dn w') :=
    Lib.hid fun a b n dk wr h1 h2 h3 h4 h5 => swapRange_o k L enc g cb blk off cap a b n d0 dk w0 wr R h1 h2 h3 h4 h5
  have S0 : Aside (SWK enc k w0 blk off d w) := S
  clear S L
  have wi : IntKind.i64.wrap ((m : Int) - (a : Int)) = ((m - a : Nat) : Int) := by rw [IntKind.wrap_i64]; omega
  have wi' : (m : Int) - (a : Int) = ((m - a : Nat) : Int) := by omega
  have wj : IntKind.i64.wrap ((b : Int) - (m : Int)) = ((b - m : Nat) : Int) := by rw [IntKind.wrap_i64]; omega
  have wj' : (b : Int) - (m : Int) = ((b - m : Nat) : Int) := by omega
  go_enter FG, Tryz.ntmps204
  go_wp2
  clear wi wi' wj wj'
  go_loopg [10, 11] (b - a) (fun kx s10 s11 wr => ∃ (i j : Nat) (dk : Array α), s10 = .int .i64 i ∧ s11 = .int .i64 j ∧ 0 < i ∧ 0 < j ∧ i + j ≤ kx ∧ dk.size = d.size ∧ Aside (SWK enc k w0 blk off dk wr) ∧ Hid (RotTo a m b d i j dk))
  case atStart => exact ⟨m - a, b - m, d, rfl, rfl, by omega, by omega, by omega, rfl, S0, Lib.hid (RotTo.start d (by omega) (by omega))⟩
  case round =>
    clear S0
    obtain ⟨i, j, dk, rfl, rfl, hi, hj, hkx, hds, S1, HW⟩ := hrel
    have hb3 := HW.out.2.2.1
    have hb4 := HW.out.2.2.2.1
    have hb5 := HW.out.2.2.2.2
    rcases Nat.lt_trichotomy i j with hlt | heq | hgt
    · have q1 : ((i : Int) == (j : Int)) = false := by simp; omega
      have q2 : ¬ (j : Int) < (i : Int) := by omega
      have q3 : ((i : Int) != (j : Int)) = true := by simp; omega
      obtain ⟨p1, hp1⟩ : ∃ x, x = m - i := ⟨_, rfl⟩
      obtain ⟨p2, hp2⟩ : ∃ x, x = m + j := ⟨_, rfl⟩
      obtain ⟨p3, hp3⟩ : ∃ x, x = m + j - i := ⟨_, rfl⟩
      obtain ⟨p4, hp4⟩ : ∃ x, x = j - i := ⟨_, rfl⟩
      have u1 : IntKind.i64.wrap ((m : Int) - (i : Int)) = (p1 : Int) := by rw [IntKind.wrap_i64]; omega
      have u1' : (m : Int) - (i : Int) = (p1 : Int) := by omega
      have u2' : (m : Int) + (j : Int) = (p2 : Int) := by omega
      have u3' : (p2 : Int) - (i : Int) = (p3 : Int) := by omega
      have u4 : IntKind.i64.wrap ((j : Int) - (i : Int)) = (p4 : Int) := by rw [IntKind.wrap_i64]; omega
      have u4' : (j : Int) - (i : Int) = (p4 : Int) := by omega
      have hc := HSW.out (m - i) (m + j - i) i dk wr (by omega) S1.out (by omega) (by omega) (by omega)
      have HN := Lib.hid (fun dn h => HW.out.left hb hlt (dn := dn) h)
      rw [hds, ← hp1, ← hp3] at hc
      rw [← hp1, ← hp3, ← hp4] at HN
      have HC := Lib.hid hc
      have hp4' : 0 < p4 := by omega
      have hpm : p4 < j := by omega
      have b2 : (p2 : Int) < 4611686018427387904 := by omega
      have b3 : (p3 : Int) < 4611686018427387904 := by omega
      clear hb3 hb4 hb5 hc hp1 hp2 hp3 hp4 S1 hds HW
      go_wp2_with (go_at_fn 206; refine HC.out.mono ?_; rintro e w2 ⟨rfl, dn, hsw, hsk⟩)
      have HR := Lib.hid (HN.out dn hsw)
      have hdn := HR.out.1.1
      have S2 : Aside (SWK enc k w0 blk off dn w2) := hsk
      clear hsw hsk HC HN u1 u1' u2' u3'
      go_wp2
      clear u4 u4'
      go_roundg (i + p4)
      case measure => omega
      case rel => exact ⟨i, p4, dn, rfl, rfl, hi, hp4', Nat.le_refl _, hdn, S2, HR⟩
    · subst heq
      have q1 : ((i : Int) == (i : Int)) = true := by simp
      have q3 : ((i : Int) != (i : Int)) = false := by simp
      obtain ⟨p1, hp1⟩ : ∃ x, x = m - i := ⟨_, rfl⟩
      have u1 : IntKind.i64.wrap ((m : Int) - (i : Int)) = (p1 : Int) := by rw [IntKind.wrap_i64]; omega
      have u1' : (m : Int) - (i : Int) = (p1 : Int) := by omega
      have hc := HSW.out (m - i) m i dk wr (by omega) S1.out (by omega) (by omega) (by omega)
      have HN := Lib.hid (fun dn h => HW.out.done hb (dn := dn) h)
      rw [hds, ← hp1] at hc
      rw [← hp1] at HN
      have HC := Lib.hid hc
      clear hb3 hb4 hb5 hc hp1 S1 hds HW
      go_wp2_with (go_at_fn 206; refine HC.out.mono ?_; rintro e w2 ⟨rfl, dn, hsw, hsk⟩)
      go_end0
      exact ⟨rfl, dn, HN.out dn hsw, hsk⟩
    · have q1 : ((i : Int) == (j : Int)) = false := by simp; omega
      have q2 : (j : Int) < (i : Int) := by omega
      have q3 : ((i : Int) != (j : Int)) = true := by simp; omega
      obtain ⟨p1, hp1⟩ : ∃ x, x = m - i := ⟨_, rfl⟩
      obtain ⟨p4, hp4⟩ : ∃ x, x = i - j := ⟨_, rfl⟩
      have u1 : IntKind.i64.wrap ((m : Int) - (i : Int)) = (p1 : Int) := by rw [IntKind.wrap_i64]; omega
      have u1' : (m : Int) - (i : Int) = (p1 : Int) := by omega
      have u4 : IntKind.i64.wrap ((i : Int) - (j : Int)) = (p4 : Int) := by rw [IntKind.wrap_i64]; omega
      have u4' : (i : Int) - (j : Int) = (p4 : Int) := by omega
      have hc := HSW.out (m - i) m j dk wr (by omega) S1.out (by omega) (by omega) (by omega)
      have HN := Lib.hid (fun dn h => HW.out.right hb hgt (dn := dn) h)
      rw [hds, ← hp1] at hc
      rw [← hp1, ← hp4] at HN
      have HC := Lib.hid hc
      have hp4' : 0 < p4 := by omega
      have hpm : p4 < i := by omega
      clear hb3 hb4 hb5 hc hp1 hp4 S1 hds HW
      go_wp2_with (go_at_fn 206; refine HC.out.mono ?_; rintro e w2 ⟨rfl, dn, hsw, hsk⟩)
      have HR := Lib.hid (HN.out dn hsw)
      have hdn := HR.out.1.1
      have S2 : Aside (SWK enc k w0 blk off dn w2) := hsk
      clear hsw hsk HC HN u1 u1' u4 u4'
      go_wp2
      go_roundg (p4 + j)
      case measure => omega
      case rel => exact ⟨p4, j, dn, rfl, rfl, hp4', hj, Nat.le_refl _, hdn, S2, HR⟩
end
end Go.Proofs.YteodabnjkikogaaGreat.Tr

/-
  Walks over a program that is a variable: symMerge of slices.SortStableFunc at the rows of truncate.
-/
namespace Go.Proofs.YteodabnjkikogaaGreat.Tr
open Go.Shelf Go.RowKit Go.Lib Go.Sort
section
variable {P : Program} {α : Type} [Inhabited α]
set_option maxHeartbeats 8000000 in
set_option maxRecDepth 1000000 in
theorem symLeft_o (k : Nat) (L : StL P k) (enc : α → List Value) (cf : α → α → Int) (hO : SWO (ltOf cf)) (g : Nat) (cb : Array Value) (eg : ∀ args w, (callFunc g args).run P w = .ok (.enter g args) w) (blk off cap a m b : Nat) (d0 d : Array α) (w0 w : World)
    (hcmp : CmpLays P g cb enc k cf blk off d0.size w0) (R : RowK enc k w0 blk off d0) (hs : d0.size = d.size) (S : SWK enc k w0 blk off d w) (ham : a + 1 = m) (hmb : m < b) (hb : b ≤ d.size) (hsz : d.size < 1152921504606846976) (hr : SortedIn (ltOf cf) m b d) :
    Calls P 200 #[.slice (some ⟨blk, off, none⟩) d.size cap, .int .i64 a, .int .i64 m, .int .i64 b, .func (.func g) #[] cb] w fun e w' => e = .returned (.tuple #[]) ∧ ∃ dn, Mrg (ltOf cf) a b d dn ∧ SWK enc k w0 blk off dn w' := by
  have mixed := L.mixed; have t0 := L.t0; have a0 := L.a0; have z0 := L.z0; have v0 := L.v0; have t3 := L.t3; have a3 := L.a3; have z3 := L.z3; have v3 := L.v3; have t4 := L.t4; have a4 := L.a4; have z4 := L.z4; have v4 := L.v4; have tu := L.tu; have au := L.au; have zu := L.zu; have vu := L.vu; have t22 := L.t22; have a22 := L.a22; have z22 := L.z22; have v22 := L.v22; have t25 := L.t25; have a25 := L.a25; have z25 := L.z25; have v25 := L.v25; have aE := L.aE; have zE := L.zE
  have FG := L.g145
  have HC : Aside _ := hcmp
  have S0 : Aside (SWK enc k w0 blk off d w) := S
  have HR : Hid (SortedIn (ltOf cf) m b d) := hr
  have HO : Hid (SWO (ltOf cf)) := Lib.hid hO
  have q1 : (m : Int) - (a : Int) = 1 := by omega
  clear S L hcmp hr hO
  go_enter FG, Tryz.ntmps200
  go_wp2
  clear q1
  go_loopg [10, 11] (b - m) (fun kx s10 s11 wr => ∃ (i j : Nat), s10 = .int .i64 i ∧ s11 = .int .i64 j ∧ m ≤ i ∧ i ≤ j ∧ j ≤ b ∧ j - i ≤ kx ∧ Aside (SWK enc k w0 blk off d wr) ∧ Hid ((∀ x, m ≤ x → x < i → ltOf cf d[x]! d[a]! = true) ∧ (∀ x, j ≤ x → x < b → ltOf cf d[x]! d[a]! = false)))
  case atStart => exact ⟨m, b, rfl, rfl, by omega, by omega, by omega, by omega, S0, Lib.hid ⟨fun x _ _ => by omega, fun x _ _ => by omega⟩⟩
  case round =>
    clear S0
    obtain ⟨i, j, rfl, rfl, hmi, hij, hjb, hkx, S1, HX⟩ := hrel
    by_cases hlt : i < j
    · have hltz : (i : Int) < (j : Int) := by omega
      obtain ⟨h, hh⟩ : ∃ h, h = (i + j) / 2 := ⟨_, rfl⟩
      have hb1 : (i : Int) + (j : Int) < 4611686018427387904 := by omega
      have hb0 : 0 ≤ (i : Int) + (j : Int) := by omega
      have hhe : ((i : Int) + (j : Int)) / 2 = (h : Int) := by omega
      have hih : i ≤ h := by omega
      have hhj : h < j := by omega
      clear hh
      have hxs : h < d.size := by omega
      have hys : a < d.size := by omega
      cases hlv : ltOf cf d[h]! d[a]! with
      | true =>
        have HN : Hid (∀ x, m ≤ x → x < h + 1 → ltOf cf d[x]! d[a]! = true) := Lib.hid fun x h1 h2 => by
          by_cases e : x = h
          · subst e; exact hlv
          · have h3 : ltOf cf d[h]! d[x]! = false := HR.out x h h1 (by omega) (by omega)
            cases h4 : ltOf cf d[x]! d[a]! with
            | true => rfl
            | false => exact absurd (HO.out.ntrans _ _ _ h3 h4) (by rw [hlv]; simp)
        have ea : ((h : Nat) : Int).toNat = h := by omega
        have pa : (0 : Int) ≤ (h : Int) := by omega
        have ba : (h : Int) < (d.size : Int) := by omega
        have ec : ((a : Nat) : Int).toNat = a := by omega
        have pc : (0 : Int) ≤ (a : Int) := by omega
        have bc : (a : Int) < (d.size : Int) := by omega
        obtain ⟨vx, hvx⟩ : ∃ z, z = d[h]! := ⟨_, rfl⟩
        obtain ⟨vy, hvy⟩ : ∃ z, z = d[a]! := ⟨_, rfl⟩
        have la := S1.out.ld R (by omega) P h (by omega)
        have lb := S1.out.ld R (by omega) P a (by omega)
        rw [← hvx] at la
        rw [← hvy] at lb
        have hcm := S1.out.cmp HC.out (by omega) vx vy
        have hv : cf vx vy < 0 := by rw [hvx, hvy]; exact of_decide_eq_true hlv
        have hd : decide (cf vx vy < 0) = true := decide_eq_true hv
        clear hvx hvy
        go_wp2_with fail
        go_quiet_grown (first | (go_at_fn g; refine Calls.grown_of (hcm _ _)))
        have S2 : Aside (SWK enc k w0 blk off d (grow (wr.drewN nq) osq)) := S1.out.grown nq osq
        clear la lb hcm S1
        generalize grow (wr.drewN nq) osq = w2 at S2 ⊢
        clear nq osq
        go_wp2
        go_roundg (j - (h + 1))
        case measure => omega
        case rel => exact ⟨h + 1, j, by go_num, rfl, by omega, by omega, hjb, Nat.le_refl _, S2, Lib.hid ⟨HN.out, HX.out.2⟩⟩
      | false =>
        have HN : Hid (∀ x, h ≤ x → x < b → ltOf cf d[x]! d[a]! = false) := Lib.hid fun x h1 h2 => by
          by_cases e : x = h
          · subst e; exact hlv
          · have h3 : ltOf cf d[x]! d[h]! = false := HR.out h x (by omega) (by omega) h2
            exact HO.out.ntrans _ _ _ h3 hlv
        have ea : ((h : Nat) : Int).toNat = h := by omega
        have pa : (0 : Int) ≤ (h : Int) := by omega
        have ba : (h : Int) < (d.size : Int) := by omega
        have ec : ((a : Nat) : Int).toNat = a := by omega
        have pc : (0 : Int) ≤ (a : Int) := by omega
        have bc : (a : Int) < (d.size : Int) := by omega
        obtain ⟨vx, hvx⟩ : ∃ z, z = d[h]! := ⟨_, rfl⟩
        obtain ⟨vy, hvy⟩ : ∃ z, z = d[a]! := ⟨_, rfl⟩
        have la := S1.out.ld R (by omega) P h (by omega)
        have lb := S1.out.ld R (by omega) P a (by omega)
        rw [← hvx] at la
        rw [← hvy] at lb
        have hcm := S1.out.cmp HC.out (by omega) vx vy
        have hv : ¬ cf vx vy < 0 := by rw [hvx, hvy]; exact of_decide_eq_false hlv
        have hd : decide (cf vx vy < 0) = false := decide_eq_false hv
        clear hvx hvy
        go_wp2_with fail
        go_quiet_grown (first | (go_at_fn g; refine Calls.grown_of (hcm _ _)))
        have S2 : Aside (SWK enc k w0 blk off d (grow (wr.drewN nq) osq)) := S1.out.grown nq osq
        clear la lb hcm S1
        generalize grow (wr.drewN nq) osq = w2 at S2 ⊢
        clear nq osq
        go_wp2
        go_roundg (h - i)
        case measure => omega
        case rel => exact ⟨i, h, rfl, rfl, hmi, by omega, by omega, Nat.le_refl _, S2, Lib.hid ⟨HX.out.1, HN.out⟩⟩
    · have hltz : ¬ (i : Int) < (j : Int) := by omega
      have hje : j = i := by omega
      subst hje
      go_wp2
      go_loopg [13] (j - a) (fun kx s13 wr => ∃ (q : Nat) (dk : Array α), s13 = .int .i64 q ∧ a ≤ q ∧ q < j ∧ j - q ≤ kx ∧ dk.size = d.size ∧ Aside (SWK enc k w0 blk off dk wr) ∧ Hid (Rot a (a + 1) (q + 1) d dk))
      case atStart => exact ⟨a, d, rfl, by omega, by omega, by omega, rfl, S1, Lib.hid (Rot.one a d)⟩
      case round =>
        clear S1
        obtain ⟨q, dk, rfl, haq, hqj, hkq, hds, S1, HW⟩ := hrel
        have hj1 : 1 ≤ (j : Int) := by omega
        by_cases hqs : q + 1 < j
        · have hqz : (q : Int) < (j : Int) - 1 := by omega
          have hqz' : (q : Int) + 1 < (j : Int) := by omega
          go_wp2_with fail
          obtain ⟨y, hy⟩ : ∃ y, y = q + 1 := ⟨_, rfl⟩
          have HY := Lib.hid hy
          have wy : (q : Int) + 1 = (y : Int) := by omega
          have hxs : q < d.size := by omega
          have hys : y < d.size := by omega
          have ea : ((q : Int)).toNat = q := by omega
          have pa : (0 : Int) ≤ (q : Int) := by omega
          have ba : (q : Int) < (d.size : Int) := by omega
          have ec : ((y : Int)).toNat = y := by omega
          have pc : (0 : Int) ≤ (y : Int) := by omega
          have bc : (y : Int) < (d.size : Int) := by omega
          have wy2 : IntKind.i64.wrap ((q : Int) + 1) = (y : Int) := by rw [IntKind.wrap_i64]; omega
          have S2 : Aside (SWK enc k w0 blk off (swp dk q y) ((wr.drew.setCells blk (off + q * k) (enc dk[y]!)).setCells blk (off + y * k) (enc dk[q]!))) := S1.out.swapped R q y (by omega) (by omega)
          have l44a := S1.out.ld1 R (by omega) P q (by omega)
          have l44b := S1.out.ld1 R (by omega) P y (by omega)
          have s44a := S1.out.st1 R (by omega) P q (by omega) dk[y]!
          have s44b := S1.out.st2 R (by omega) P q y (by omega) (by omega) dk[y]! dk[q]!
          have n44a : (enc dk[q]!).length = k := R.hk _
          have n44b : (enc dk[y]!).length = k := R.hk _
          generalize enc dk[q]! = cI44 at S2 l44a s44b n44a
          generalize enc dk[y]! = cJ44 at S2 l44b s44a s44b n44b
          clear S1 hy
          go_big_region_o
          clear l44a l44b s44a s44b
          generalize (wr.drew.setCells blk (off + q * k) cJ44).setCells blk (off + y * k) cI44 = w2 at S2 ⊢
          clear wy wy2
          go_wp2
          go_roundg (j - (q + 1))
          case measure => omega
          case rel => exact ⟨q + 1, swp dk q y, by go_num, by omega, by omega, Nat.le_refl _, by rw [Go.Sort.size_swp]; exact hds, S2, by rw [HY.out]; exact Lib.hid (HW.out.up haq (by omega))⟩
        · have hqz : ¬ (q : Int) < (j : Int) - 1 := by omega
          have hqz' : ¬ (q : Int) + 1 < (j : Int) := by omega
          have hqe : q + 1 = j := by omega
          have hm : Mrg (ltOf cf) a b d dk := mrg_left HO.out (i := q + 1) HW.out (by omega) (by omega) hb (by rw [ham]; exact HR.out) (fun x h1 h2 => HX.out.1 x (by omega) (by omega)) (fun x h1 h2 => HX.out.2 x (by omega) h2)
          have HM := Lib.hid hm
          clear hm
          go_wp2
          (try simp only [Exit.inBlock, Exit.then]); refine bodyPost_ret (results_none rfl _ _ _) rfl ?_
          exact ⟨rfl, dk, HM.out, S1.out⟩
end
end Go.Proofs.YteodabnjkikogaaGreat.Tr

/-
  Walks over a program that is a variable: symMerge of slices.SortStableFunc at the rows of truncate.
-/
namespace Go.Proofs.YteodabnjkikogaaGreat.Tr
open Go.Shelf Go.RowKit Go.Lib Go.Sort
section
variable {P : Program} {α : Type} [Inhabited α]
set_option maxHeartbeats 8000000 in
set_option maxRecDepth 1000000 in
theorem symRight_o (k : Nat) (L : StL P k) (enc : α → List Value) (cf : α → α → Int) (hO : SWO (ltOf cf)) (g : Nat) (cb : Array Value) (eg : ∀ args w, (callFunc g args).run P w = .ok (.enter g args) w) (blk off cap a m b : Nat) (d0 d : Array α) (w0 w : World)
    (hcmp : CmpLays P g cb enc k cf blk off d0.size w0) (R : RowK enc k w0 blk off d0) (hs : d0.size = d.size) (S : SWK enc k w0 blk off d w) (ham : a < m) (hne : a + 1 ≠ m) (hmb : m + 1 = b) (hb : b ≤ d.size) (hsz : d.size < 1152921504606846976) (hl : SortedIn (ltOf cf) a m d) :
    Calls P 200 #[.slice (some ⟨blk, off, none⟩) d.size cap, .int .i64 a, .int .i64 m, .int .i64 b, .func (.func g) #[] cb] w fun e w' => e = .returned (.tuple #[]) ∧ ∃ dn, Mrg (ltOf cf) a b d dn ∧ SWK enc k w0 blk off dn w' := by
  have mixed := L.mixed; have t0 := L.t0; have a0 := L.a0; have z0 := L.z0; have v0 := L.v0; have t3 := L.t3; have a3 := L.a3; have z3 := L.z3; have v3 := L.v3; have t4 := L.t4; have a4 := L.a4; have z4 := L.z4; have v4 := L.v4; have tu := L.tu; have au := L.au; have zu := L.zu; have vu := L.vu; have t22 := L.t22; have a22 := L.a22; have z22 := L.z22; have v22 := L.v22; have t25 := L.t25; have a25 := L.a25; have z25 := L.z25; have v25 := L.v25; have aE := L.aE; have zE := L.zE
  have FG := L.g145
  have HC : Aside _ := hcmp
  have S0 : Aside (SWK enc k w0 blk off d w) := S
  have HL : Hid (SortedIn (ltOf cf) a m d) := hl
  have HO : Hid (SWO (ltOf cf)) := Lib.hid hO
  obtain ⟨ma, hma⟩ : ∃ x, x = m - a := ⟨_, rfl⟩
  have q1 : (m : Int) - (a : Int) = (ma : Int) := by omega
  have q1' : ((ma : Int) == 1) = false := by simp; omega
  have q2 : (b : Int) - (m : Int) = 1 := by omega
  have hmas : (ma : Int) < 1152921504606846976 := by omega
  clear S L hcmp hl hO hma
  go_enter FG, Tryz.ntmps200
  go_wp2
  clear q1 q1' q2
  go_loopg [14, 15] (m - a) (fun kx s10 s11 wr => ∃ (i j : Nat), s10 = .int .i64 i ∧ s11 = .int .i64 j ∧ a ≤ i ∧ i ≤ j ∧ j ≤ m ∧ j - i ≤ kx ∧ Aside (SWK enc k w0 blk off d wr) ∧ Hid ((∀ x, a ≤ x → x < i → ltOf cf d[m]! d[x]! = false) ∧ (∀ x, j ≤ x → x < m → ltOf cf d[m]! d[x]! = true)))
  case atStart => exact ⟨a, m, rfl, rfl, by omega, by omega, by omega, by omega, S0, Lib.hid ⟨fun x _ _ => by omega, fun x _ _ => by omega⟩⟩
  case round =>
    clear S0
    obtain ⟨i, j, rfl, rfl, hmi, hij, hjb, hkx, S1, HX⟩ := hrel
    by_cases hlt : i < j
    · have hltz : (i : Int) < (j : Int) := by omega
      obtain ⟨h, hh⟩ : ∃ h, h = (i + j) / 2 := ⟨_, rfl⟩
      have hb1 : (i : Int) + (j : Int) < 4611686018427387904 := by omega
      have hb0 : 0 ≤ (i : Int) + (j : Int) := by omega
      have hhe : ((i : Int) + (j : Int)) / 2 = (h : Int) := by omega
      have hih : i ≤ h := by omega
      have hhj : h < j := by omega
      clear hh
      have hxs : m < d.size := by omega
      have hys : h < d.size := by omega
      cases hlv : ltOf cf d[m]! d[h]! with
      | true =>
        have HN : Hid (∀ x, h ≤ x → x < m → ltOf cf d[m]! d[x]! = true) := Lib.hid fun x h1 h2 => by
          by_cases e : x = h
          · subst e; exact hlv
          · have h3 : ltOf cf d[x]! d[h]! = false := HL.out h x (by omega) (by omega) h2
            cases h4 : ltOf cf d[m]! d[x]! with
            | true => rfl
            | false => exact absurd (HO.out.ntrans _ _ _ h4 h3) (by rw [hlv]; simp)
        have ea : ((m : Nat) : Int).toNat = m := by omega
        have pa : (0 : Int) ≤ (m : Int) := by omega
        have ba : (m : Int) < (d.size : Int) := by omega
        have ec : ((h : Nat) : Int).toNat = h := by omega
        have pc : (0 : Int) ≤ (h : Int) := by omega
        have bc : (h : Int) < (d.size : Int) := by omega
        obtain ⟨vx, hvx⟩ : ∃ z, z = d[m]! := ⟨_, rfl⟩
        obtain ⟨vy, hvy⟩ : ∃ z, z = d[h]! := ⟨_, rfl⟩
        have la := S1.out.ld R (by omega) P m (by omega)
        have lb := S1.out.ld R (by omega) P h (by omega)
        rw [← hvx] at la
        rw [← hvy] at lb
        have hcm := S1.out.cmp HC.out (by omega) vx vy
        have hv : cf vx vy < 0 := by rw [hvx, hvy]; exact of_decide_eq_true hlv
        have hd : decide (cf vx vy < 0) = true := decide_eq_true hv
        clear hvx hvy
        go_wp2_with fail
        go_quiet_grown (first | (go_at_fn g; refine Calls.grown_of (hcm _ _)))
        have S2 : Aside (SWK enc k w0 blk off d (grow (wr.drewN nq) osq)) := S1.out.grown nq osq
        clear la lb hcm S1
        generalize grow (wr.drewN nq) osq = w2 at S2 ⊢
        clear nq osq
        go_wp2
        go_roundg (h - i)
        case measure => omega
        case rel => exact ⟨i, h, rfl, rfl, hmi, by omega, by omega, Nat.le_refl _, S2, Lib.hid ⟨HX.out.1, HN.out⟩⟩
      | false =>
        have HN : Hid (∀ x, a ≤ x → x < h + 1 → ltOf cf d[m]! d[x]! = false) := Lib.hid fun x h1 h2 => by
          by_cases e : x = h
          · subst e; exact hlv
          · have h3 : ltOf cf d[h]! d[x]! = false := HL.out x h h1 (by omega) (by omega)
            exact HO.out.ntrans _ _ _ hlv h3
        have ea : ((m : Nat) : Int).toNat = m := by omega
        have pa : (0 : Int) ≤ (m : Int) := by omega
        have ba : (m : Int) < (d.size : Int) := by omega
        have ec : ((h : Nat) : Int).toNat = h := by omega
        have pc : (0 : Int) ≤ (h : Int) := by omega
        have bc : (h : Int) < (d.size : Int) := by omega
        obtain ⟨vx, hvx⟩ : ∃ z, z = d[m]! := ⟨_, rfl⟩
        obtain ⟨vy, hvy⟩ : ∃ z, z = d[h]! := ⟨_, rfl⟩
        have la := S1.out.ld R (by omega) P m (by omega)
        have lb := S1.out.ld R (by omega) P h (by omega)
        rw [← hvx] at la
        rw [← hvy] at lb
        have hcm := S1.out.cmp HC.out (by omega) vx vy
        have hv : ¬ cf vx vy < 0 := by rw [hvx, hvy]; exact of_decide_eq_false hlv
        have hd : decide (cf vx vy < 0) = false := decide_eq_false hv
        clear hvx hvy
        go_wp2_with fail
        go_quiet_grown (first | (go_at_fn g; refine Calls.grown_of (hcm _ _)))
        have S2 : Aside (SWK enc k w0 blk off d (grow (wr.drewN nq) osq)) := S1.out.grown nq osq
        clear la lb hcm S1
        generalize grow (wr.drewN nq) osq = w2 at S2 ⊢
        clear nq osq
        go_wp2
        go_roundg (j - (h + 1))
        case measure => omega
        case rel => exact ⟨h + 1, j, by go_num, rfl, by omega, by omega, hjb, Nat.le_refl _, S2, Lib.hid ⟨HN.out, HX.out.2⟩⟩
    · have hltz : ¬ (i : Int) < (j : Int) := by omega
      have hje : j = i := by omega
      subst hje
      go_wp2
      go_loopg [17] (m - j) (fun kx s13 wr => ∃ (q : Nat) (dk : Array α), s13 = .int .i64 q ∧ j ≤ q ∧ q ≤ m ∧ q - j ≤ kx ∧ dk.size = d.size ∧ Aside (SWK enc k w0 blk off dk wr) ∧ Hid (Rot q m (m + 1) d dk))
      case atStart => exact ⟨m, d, rfl, by omega, by omega, by omega, rfl, S1, Lib.hid (Rot.none m (m + 1) d)⟩
      case round =>
        clear S1
        obtain ⟨q, dk, rfl, haq, hqj, hkq, hds, S1, HW⟩ := hrel
        by_cases hqs : j < q
        · have hqz : (j : Int) < (q : Int) := by omega
          obtain ⟨y, hy⟩ : ∃ y, y = q - 1 := ⟨_, rfl⟩
          go_wp2_with fail
          have HY : Hid (q = y + 1) := Lib.hid (by omega)
          have wy : (q : Int) - 1 = (y : Int) := by omega
          have hxs : q < d.size := by omega
          have hys : y < d.size := by omega
          have hyj : j ≤ y := by omega
          have hyq : y < q := by omega
          have ea : ((q : Int)).toNat = q := by omega
          have pa : (0 : Int) ≤ (q : Int) := by omega
          have ba : (q : Int) < (d.size : Int) := by omega
          have ec : ((y : Int)).toNat = y := by omega
          have pc : (0 : Int) ≤ (y : Int) := by omega
          have bc : (y : Int) < (d.size : Int) := by omega
          have wy2 : IntKind.i64.wrap ((q : Int) - 1) = (y : Int) := by rw [IntKind.wrap_i64]; omega
          have S2 : Aside (SWK enc k w0 blk off (swp dk q y) ((wr.drew.setCells blk (off + q * k) (enc dk[y]!)).setCells blk (off + y * k) (enc dk[q]!))) := S1.out.swapped R q y (by omega) (by omega)
          have l44a := S1.out.ld1 R (by omega) P q (by omega)
          have l44b := S1.out.ld1 R (by omega) P y (by omega)
          have s44a := S1.out.st1 R (by omega) P q (by omega) dk[y]!
          have s44b := S1.out.st2 R (by omega) P q y (by omega) (by omega) dk[y]! dk[q]!
          have n44a : (enc dk[q]!).length = k := R.hk _
          have n44b : (enc dk[y]!).length = k := R.hk _
          generalize enc dk[q]! = cI44 at S2 l44a s44b n44a
          generalize enc dk[y]! = cJ44 at S2 l44b s44a s44b n44b
          clear S1 hy
          go_big_region_o
          clear l44a l44b s44a s44b
          generalize (wr.drew.setCells blk (off + q * k) cJ44).setCells blk (off + y * k) cI44 = w2 at S2 ⊢
          clear wy2
          go_wp2
          go_roundg (y - j)
          case measure => omega
          case rel => exact ⟨y, swp dk q y, rfl, by omega, by omega, Nat.le_refl _, by rw [Go.Sort.size_swp]; exact hds, S2, by have h := HW.out; rw [HY.out] at h ⊢; exact Lib.hid (h.down (by omega) (by omega))⟩
        · have hqz : ¬ (j : Int) < (q : Int) := by omega
          have hqe : q = j := by omega
          have hm : Mrg (ltOf cf) a (m + 1) d dk := mrg_right HO.out (i := q) HW.out (by omega) (by omega) (by omega) HL.out (fun x h1 h2 => HX.out.1 x (by omega) (by omega)) (fun x h1 h2 => HX.out.2 x (by omega) h2)
          rw [hmb] at hm
          have HM := Lib.hid hm
          clear hm
          go_wp2
          (try simp only [Exit.inBlock, Exit.then]); refine bodyPost_ret (results_none rfl _ _ _) rfl ?_
          exact ⟨rfl, dk, HM.out, S1.out⟩
end
end Go.Proofs.YteodabnjkikogaaGreat.Tr

/-
  Walks over a program that is a variable: symMerge of slices.SortStableFunc at the rows of truncate, whole.
-/
namespace Go.Proofs.YteodabnjkikogaaGreat.Tr
open Go.Shelf Go.RowKit Go.Lib Go.Sort
section
variable {P : Program} {α : Type} [Inhabited α]
theorem Rot.right (a b : Nat) (d : Array α) : Rot a b b d d := ⟨permIn_refl _ _ _, fun x => (rot_right a b (atA d) x).symm⟩
theorem Mrg.triv {lt : α → α → Bool} {a b : Nat} {d : Array α} (h : SortedIn lt a b d) : Mrg lt a b d d := ⟨permIn_refl _ _ _, h⟩
/-- The search of symMerge: what is known in the range that is still open. -/
structure Srch (lt : α → α → Bool) (p s0 r0 s r : Nat) (d : Array α) : Prop where
  a : s0 ≤ s
  b : s ≤ r
  c : r ≤ r0
  lo : ∀ x, s0 ≤ x → x < s → lt d[p - x]! d[x]! = false
  hi : ∀ x, r ≤ x → x < r0 → lt d[p - x]! d[x]! = true
/-- The bounds of the range. -/
def Ends (a m b mid s0 r0 : Nat) : Prop := (mid < m ∧ s0 = mid + m - b ∧ r0 = mid) ∨ (m ≤ mid ∧ s0 = a ∧ r0 = m)
theorem Srch.up {lt : α → α → Bool} (hO : SWO lt) {a m b mid s0 r0 s r c : Nat} {d : Array α} (h : Srch lt (mid + m - 1) s0 r0 s r d) (he : Ends a m b mid s0 r0) (_ham : a < m) (hmb : m < b) (hmid : mid = (a + b) / 2) (hl : SortedIn lt a m d) (hr : SortedIn lt m b d) (h1 : s ≤ c) (h2 : c < r) (hv : lt d[mid + m - 1 - c]! d[c]! = false) : Srch lt (mid + m - 1) s0 r0 (c + 1) r d := by
  have ha := h.a; have hb := h.b; have hc := h.c
  refine ⟨by omega, by omega, hc, fun x hx1 hx2 => ?_, h.hi⟩
  have e1 : a ≤ x := by rcases he with he | he <;> omega
  have e2 : c < m := by rcases he with he | he <;> omega
  have e3 : m ≤ mid + m - 1 - c := by rcases he with he | he <;> omega
  have e4 : mid + m - 1 - x < b := by rcases he with he | he <;> omega
  exact le_trans' hO (le_trans' hO (sorted_le hO hl e1 (show x ≤ c by omega) e2) hv) (sorted_le hO hr e3 (show mid + m - 1 - c ≤ mid + m - 1 - x by omega) e4)
theorem Srch.down {lt : α → α → Bool} (hO : SWO lt) {a m b mid s0 r0 s r c : Nat} {d : Array α} (h : Srch lt (mid + m - 1) s0 r0 s r d) (he : Ends a m b mid s0 r0) (_ham : a < m) (hmb : m < b) (hmid : mid = (a + b) / 2) (hl : SortedIn lt a m d) (hr : SortedIn lt m b d) (h1 : s ≤ c) (h2 : c < r) (hv : lt d[mid + m - 1 - c]! d[c]! = true) : Srch lt (mid + m - 1) s0 r0 s c d := by
  have ha := h.a; have hb := h.b; have hc := h.c
  refine ⟨ha, h1, by omega, h.lo, fun x hx1 hx2 => ?_⟩
  have e1 : a ≤ c := by rcases he with he | he <;> omega
  have e2 : x < m := by rcases he with he | he <;> omega
  have e3 : m ≤ mid + m - 1 - x := by rcases he with he | he <;> omega
  have e4 : mid + m - 1 - c < b := by rcases he with he | he <;> omega
  cases hx : lt d[mid + m - 1 - x]! d[x]! with
  | true => rfl
  | false =>
    have := le_trans' hO (le_trans' hO (sorted_le hO hl e1 hx1 e2) hx) (sorted_le hO hr e3 (show mid + m - 1 - x ≤ mid + m - 1 - c by omega) e4)
    rw [this] at hv; cases hv
theorem Srch.cut {lt : α → α → Bool} {a m b mid s0 r0 s : Nat} {d : Array α} (h : Srch lt (mid + m - 1) s0 r0 s s d) (he : Ends a m b mid s0 r0) (ham : a < m) (hmb : m < b) (hmid : mid = (a + b) / 2) : Cutd lt a m b mid s d := by
  have ha := h.a; have hc := h.c
  refine ⟨by rcases he with he | he <;> omega, by rcases he with he | he <;> omega, by rcases he with he | he <;> omega, by rcases he with he | he <;> omega, by rcases he with he | he <;> omega, ?_, ?_⟩
  · by_cases e : s = s0
    · rcases he with he | he
      · exact .inl ⟨he.1, by omega⟩
      · exact .inr (.inl ⟨he.1, by omega⟩)
    · have := h.lo (s - 1) (by omega) (by omega)
      rw [show mid + m - 1 - (s - 1) = mid + m - s by rcases he with he | he <;> omega] at this
      exact .inr (.inr ⟨by rcases he with he | he <;> omega, by rcases he with he | he <;> omega, this⟩)
  · by_cases e : s = r0
    · rcases he with he | he
      · exact .inl ⟨he.1, by omega⟩
      · exact .inr (.inl ⟨he.1, by omega⟩)
    · have := h.hi s (Nat.le_refl _) (by omega)
      rw [show mid + m - 1 - s = mid + m - s - 1 by omega] at this
      exact .inr (.inr ⟨by rcases he with he | he <;> omega, by rcases he with he | he <;> omega, this⟩)
/-- The parts behind the turn are sorted. -/
theorem Rot.sorted {lt : α → α → Bool} {a m b mid s : Nat} {d d1 : Array α} (hR : Rot s m (mid + m - s) d d1) (hc : Cutd lt a m b mid s d) (hl : SortedIn lt a m d) (hr : SortedIn lt m b d) :
    SortedIn lt a s d1 ∧ SortedIn lt s mid d1 ∧ SortedIn lt mid (mid + m - s) d1 ∧ SortedIn lt (mid + m - s) b d1 := by
  obtain ⟨c1, c2, c3, c4, c5, _, _⟩ := hc
  refine ⟨fun i j hi hij hj => ?_, fun i j hi hij hj => ?_, fun i j hi hij hj => ?_, fun i j hi hij hj => ?_⟩ <;> rw [hR.2, hR.2] <;> unfold rotF atA
  · rw [if_neg (by omega), if_neg (by omega), if_neg (by omega), if_neg (by omega)]
    exact hl i j hi hij (by omega)
  · rw [if_pos (by omega), if_pos (by omega)]
    exact hr _ _ (by omega) (by omega) (by omega)
  · rw [if_neg (by omega), if_pos (by omega), if_neg (by omega), if_pos (by omega)]
    exact hl _ _ (by omega) (by omega) (by omega)
  · rw [if_neg (by omega), if_neg (by omega), if_neg (by omega), if_neg (by omega)]
    exact hr i j (by omega) hij hj
set_option maxHeartbeats 16000000 in
set_option maxRecDepth 1000000 in
theorem symMerge_o (k : Nat) (L : StL P k) (enc : α → List Value) (cf : α → α → Int) (hO : SWO (ltOf cf)) (g : Nat) (cb : Array Value) (eg : ∀ args w, (callFunc g args).run P w = .ok (.enter g args) w) (blk off cap : Nat) (d0 : Array α) (w0 : World)
    (hcmp : CmpLays P g cb enc k cf blk off d0.size w0) (R : RowK enc k w0 blk off d0) (hsz : d0.size < 1152921504606846976) : ∀ (N a m b : Nat) (d : Array α) (w : World), b - a ≤ N → d0.size = d.size → SWK enc k w0 blk off d w → a < m → m < b → b ≤ d.size → SortedIn (ltOf cf) a m d → SortedIn (ltOf cf) m b d →
    Calls P 200 #[.slice (some ⟨blk, off, none⟩) d0.size cap, .int .i64 a, .int .i64 m, .int .i64 b, .func (.func g) #[] cb] w fun e w' => e = .returned (.tuple #[]) ∧ ∃ dn, Mrg (ltOf cf) a b d dn ∧ SWK enc k w0 blk off dn w' := by
  intro N
  induction N with
  | zero => intro a m b d w h _ _ h1 h2; omega
  | succ N ih =>
    intro a m b d w hN hs S ham hmb hb hl hr
    by_cases c1 : a + 1 = m
    · have := symLeft_o k L enc cf hO g cb eg blk off cap a m b d0 d w0 w hcmp R hs S c1 hmb hb (by omega) hr
      rw [← hs] at this; exact this
    by_cases c2 : m + 1 = b
    · have := symRight_o k L enc cf hO g cb eg blk off cap a m b d0 d w0 w hcmp R hs S ham c1 c2 hb (by omega) hl
      rw [← hs] at this; exact this
    have mixed := L.mixed; have t0 := L.t0; have a0 := L.a0; have z0 := L.z0; have v0 := L.v0; have t3 := L.t3; have a3 := L.a3; have z3 := L.z3; have v3 := L.v3; have t4 := L.t4; have a4 := L.a4; have z4 := L.z4; have v4 := L.v4; have tu := L.tu; have au := L.au; have zu := L.zu; have vu := L.vu; have t22 := L.t22; have a22 := L.a22; have z22 := L.z22; have v22 := L.v22; have t25 := L.t25; have a25 := L.a25; have z25 := L.z25; have v25 := L.v25; have aE := L.aE; have zE := L.zE
    have FG := L.g145
    have e147 : ∀ args w, (callFunc 204 args).run P w = .ok (.enter 204 args) w := enters_of L.g147 (by kernel_rfl) rfl
    have e145 : ∀ args w, (callFunc 200 args).run P w = .ok (.enter 200 args) w := enters_of L.g145 (by kernel_rfl) rfl
    have HROT : Hid (∀ (a m b : Nat) (d : Array α) (w : World), d0.size = d.size → SWK enc k w0 blk off d w → a < m → m < b → b ≤ d.size →
      Calls P 204 #[.slice (some ⟨blk, off, none⟩) d0.size cap, .int .i64 a, .int .i64 m, .int .i64 b, .func (.func g) #[] cb] w fun e w' => e = .returned (.tuple #[]) ∧ ∃ dn, Rot a m b d dn ∧ SWK enc k w0 blk off dn w') :=
      Lib.hid fun a m b d w h1 h2 h3 h4 h5 => by
        have := rotate_o k L enc g cb blk off cap a m b d0 d w0 w R h1 h2 h3 h4 h5 (by omega)
        rw [← h1] at this; exact this
    have IH := Lib.hid ih
    have HC : Aside _ := hcmp
    have S0 : Aside (SWK enc k w0 blk off d w) := S
    have HL : Hid (SortedIn (ltOf cf) a m d) := hl
    have HR : Hid (SortedIn (ltOf cf) m b d) := hr
    have HO : Hid (SWO (ltOf cf)) := Lib.hid hO
    have hs1 : d.size ≤ d0.size := by omega
    have hs2 : d0.size ≤ d.size := by omega
    obtain ⟨mid, hmid⟩ : ∃ x, x = (a + b) / 2 := ⟨_, rfl⟩
    obtain ⟨nn, hnn⟩ : ∃ x, x = mid + m := ⟨_, rfl⟩
    obtain ⟨ma, hma⟩ : ∃ x, x = m - a := ⟨_, rfl⟩
    obtain ⟨bm, hbm⟩ : ∃ x, x = b - m := ⟨_, rfl⟩
    obtain ⟨s0, r0, hends⟩ : ∃ s0 r0, Ends a m b mid s0 r0 := by
      by_cases c : mid < m
      · exact ⟨_, _, .inl ⟨c, rfl, rfl⟩⟩
      · exact ⟨_, _, .inr ⟨by omega, rfl, rfl⟩⟩
    have HE : Hid (Ends a m b mid s0 r0) := hends
    have HMID : Hid (mid = (a + b) / 2) := hmid
    have HNN : Hid (nn = mid + m) := hnn
    have q1 : (m : Int) - (a : Int) = (ma : Int) := by omega
    have q1' : ((ma : Int) == 1) = false := by simp; omega
    have q2 : (b : Int) - (m : Int) = (bm : Int) := by omega
    have q2' : ((bm : Int) == 1) = false := by simp; omega
    have hmas : (ma : Int) < 1152921504606846976 := by omega
    have hbms : (bm : Int) < 1152921504606846976 := by omega
    have q3 : ((a : Int) + (b : Int)) / 2 = (mid : Int) := by omega
    have hab0 : 0 ≤ (a : Int) + (b : Int) := by omega
    have hab9 : (a : Int) + (b : Int) < 4611686018427387904 := by omega
    have q4 : (mid : Int) + (m : Int) = (nn : Int) := by omega
    have hnn9 : (nn : Int) < 4611686018427387904 := by omega
    obtain ⟨nb, hnb⟩ : ∃ x, x = nn - b := ⟨_, rfl⟩
    obtain ⟨p, hp⟩ : ∃ x, x = nn - 1 := ⟨_, rfl⟩
    have q6 : (nn : Int) - 1 = (p : Int) := by omega
    have hp9 : (p : Int) < 4611686018427387904 := by omega
    have HP : Hid (p = mid + m - 1) := by show _ = _; omega
    clear hends
    clear S hcmp hl hr hO hmid hnn hma hbm ih c1 c2 hp HE hs s0 r0
    obtain ⟨b0, hb0⟩ : ∃ x, decide (mid < m) = x := ⟨_, rfl⟩
    go_enter FG, Tryz.ntmps200
    go_upto_if 140 with fail
    have HB0 := Lib.hid hb0
    clear hb0
    go_cut [20, 21] from 141 to 146 (fun v20 v21 wx => ∃ s0 r0 : Nat, v20 = .int .i64 s0 ∧ v21 = .int .i64 r0 ∧ Hid (Ends a m b mid s0 r0) ∧ Aside (SWK enc k w0 blk off d wx))
    case first =>
      cases b0 with
      | true =>
        have c : mid < m := by have := of_decide_eq_true HB0.out; omega
        have q5 : (nn : Int) - (b : Int) = (nb : Int) := by have h1 := HNN.out; have h2 := HMID.out; omega
        have HE : Hid (Ends a m b mid nb mid) := Lib.hid (.inl ⟨c, by have h1 := HNN.out; omega, rfl⟩)
        clear hnb c
        go_wp2_with fail
        go_meet
        exact ⟨nb, mid, rfl, rfl, HE, S0⟩
      | false =>
        have c : ¬ mid < m := by have := of_decide_eq_false HB0.out; omega
        have HE : Hid (Ends a m b mid a m) := Lib.hid (.inr ⟨by omega, rfl, rfl⟩)
        clear hnb c
        go_wp2_with fail
        go_meet
        exact ⟨a, m, rfl, rfl, HE, S0⟩
    case rest => as_aux_lemma =>
      clear S0
      obtain ⟨s0, r0, rfl, rfl, HE, S0⟩ := hcut
      have hr0 : r0 ≤ m ∧ r0 ≤ mid ∧ a ≤ s0 ∧ s0 ≤ r0 ∧ nn - s0 ≤ b ∧ m ≤ nn - r0 := by have h1 := HNN.out; have h2 := HMID.out; rcases HE.out with h | h <;> omega
      obtain ⟨g1, g2, g3, g4, g5, g6⟩ := hr0
      have hS0 : Hid (∃ s0' r0', Ends a m b mid s0' r0' ∧ Srch (ltOf cf) (mid + m - 1) s0' r0' s0 r0 d) := Lib.hid ⟨s0, r0, HE.out, ⟨Nat.le_refl _, g4, Nat.le_refl _, fun x _ _ => by omega, fun x _ _ => by omega⟩⟩
      clear hnb HE
      go_wp2
      go_loopg [20, 21] (r0 - s0) (fun kx s20 s21 wr => ∃ (s r : Nat), s20 = .int .i64 s ∧ s21 = .int .i64 r ∧ a ≤ s ∧ s ≤ r ∧ r ≤ m ∧ r ≤ mid ∧ nn - s ≤ b ∧ m ≤ nn - r ∧ r - s ≤ kx ∧ Aside (SWK enc k w0 blk off d wr) ∧ Hid (∃ s0' r0', Ends a m b mid s0' r0' ∧ Srch (ltOf cf) (mid + m - 1) s0' r0' s r d))
      case atStart => exact ⟨s0, r0, rfl, rfl, g3, g4, g1, g2, g5, g6, Nat.le_refl _, S0, hS0⟩
      case round => as_aux_lemma =>
        clear S0 hS0
        obtain ⟨s, r, rfl, rfl, has, hsr, hrm, hrmid, hsb, hrn, hkx, S1, HX⟩ := hrel
        by_cases hlt : s < r
        · have hltz : (s : Int) < (r : Int) := by omega
          obtain ⟨c, hc⟩ : ∃ c, c = (s + r) / 2 := ⟨_, rfl⟩
          have hb1 : (s : Int) + (r : Int) < 4611686018427387904 := by omega
          have hb0 : 0 ≤ (s : Int) + (r : Int) := by omega
          have hce : ((s : Int) + (r : Int)) / 2 = (c : Int) := by omega
          have hsc : s ≤ c := by omega
          have hcr : c < r := by omega
          obtain ⟨y, hy⟩ : ∃ y, y = mid + m - 1 - c := ⟨_, rfl⟩
          have hyp : (p : Int) - (c : Int) = (y : Int) := by have := HP.out; omega
          have hy9 : (y : Int) < 4611686018427387904 := by omega
          have hyb : y < b := by have := HNN.out; omega
          have hcb : c < d.size := by omega
          have hyd : y < d.size := by omega
          have HYM := Lib.hid hy
          clear hc
          cases hlv : ltOf cf d[y]! d[c]! with
          | true => as_aux_lemma =>
            have HN : Hid (∃ s0' r0', Ends a m b mid s0' r0' ∧ Srch (ltOf cf) (mid + m - 1) s0' r0' s c d) := by
              obtain ⟨x0, x1, h1, h2⟩ := HX.out
              exact Lib.hid ⟨x0, x1, h1, h2.down HO.out h1 ham hmb HMID.out HL.out HR.out hsc hcr (by rw [← hy]; exact hlv)⟩
            have hcn : m ≤ nn - c := by have := HNN.out; omega
            clear hy
            have ea : ((y : Nat) : Int).toNat = y := by omega
            have pa : (0 : Int) ≤ (y : Int) := by omega
            have ba : (y : Int) < (d0.size : Int) := by omega
            have ec : ((c : Nat) : Int).toNat = c := by omega
            have pc : (0 : Int) ≤ (c : Int) := by omega
            have bc : (c : Int) < (d0.size : Int) := by omega
            obtain ⟨vx, hvx⟩ : ∃ z, z = d[y]! := ⟨_, rfl⟩
            obtain ⟨vy, hvy⟩ : ∃ z, z = d[c]! := ⟨_, rfl⟩
            have la := S1.out.ld R (by omega) P y (by omega)
            have lb := S1.out.ld R (by omega) P c (by omega)
            rw [← hvx] at la
            rw [← hvy] at lb
            have hcm := S1.out.cmp HC.out (by omega) vx vy
            have hv : cf vx vy < 0 := by rw [hvx, hvy]; exact of_decide_eq_true hlv
            have hd : decide (cf vx vy < 0) = true := decide_eq_true hv
            clear hvx hvy
            have hyw : IntKind.i64.wrap (y : Int) = (y : Int) := by rw [IntKind.wrap_i64]; omega
            go_wp2_with fail
            go_quiet_grown (first | (go_at_fn g; refine Calls.grown_of (hcm _ _)))
            have S2 : Aside (SWK enc k w0 blk off d (grow (wr.drewN nq) osq)) := S1.out.grown nq osq
            clear la lb hcm S1 hyw
            generalize grow (wr.drewN nq) osq = w2 at S2 ⊢
            clear nq osq
            go_wp2
            go_roundg (c - s)
            case measure => omega
            case rel => exact ⟨s, c, rfl, rfl, has, hsc, by omega, by omega, hsb, hcn, Nat.le_refl _, S2, HN⟩
          | false => as_aux_lemma =>
            have HN : Hid (∃ s0' r0', Ends a m b mid s0' r0' ∧ Srch (ltOf cf) (mid + m - 1) s0' r0' (c + 1) r d) := by
              obtain ⟨x0, x1, h1, h2⟩ := HX.out
              exact Lib.hid ⟨x0, x1, h1, h2.up HO.out h1 ham hmb HMID.out HL.out HR.out hsc hcr (by rw [← hy]; exact hlv)⟩
            clear hy
            have ea : ((y : Nat) : Int).toNat = y := by omega
            have pa : (0 : Int) ≤ (y : Int) := by omega
            have ba : (y : Int) < (d0.size : Int) := by omega
            have ec : ((c : Nat) : Int).toNat = c := by omega
            have pc : (0 : Int) ≤ (c : Int) := by omega
            have bc : (c : Int) < (d0.size : Int) := by omega
            obtain ⟨vx, hvx⟩ : ∃ z, z = d[y]! := ⟨_, rfl⟩
            obtain ⟨vy, hvy⟩ : ∃ z, z = d[c]! := ⟨_, rfl⟩
            have la := S1.out.ld R (by omega) P y (by omega)
            have lb := S1.out.ld R (by omega) P c (by omega)
            rw [← hvx] at la
            rw [← hvy] at lb
            have hcm := S1.out.cmp HC.out (by omega) vx vy
            have hv : ¬ cf vx vy < 0 := by rw [hvx, hvy]; exact of_decide_eq_false hlv
            have hd : decide (cf vx vy < 0) = false := decide_eq_false hv
            clear hvx hvy
            have hyw : IntKind.i64.wrap (y : Int) = (y : Int) := by rw [IntKind.wrap_i64]; omega
            go_wp2_with fail
            go_quiet_grown (first | (go_at_fn g; refine Calls.grown_of (hcm _ _)))
            have S2 : Aside (SWK enc k w0 blk off d (grow (wr.drewN nq) osq)) := S1.out.grown nq osq
            clear la lb hcm S1 hyw
            generalize grow (wr.drewN nq) osq = w2 at S2 ⊢
            clear nq osq
            go_wp2
            go_roundg (r - (c + 1))
            case measure => omega
            case rel => exact ⟨c + 1, r, by go_num, rfl, by omega, by omega, hrm, hrmid, by omega, hrn, Nat.le_refl _, S2, HN⟩
        · have hltz : ¬ (s : Int) < (r : Int) := by omega
          have hre : r = s := by omega
          subst hre
          have hcut : Cutd (ltOf cf) a m b mid r d := by
            obtain ⟨x0, x1, h1, h2⟩ := HX.out
            exact h2.cut h1 ham hmb HMID.out
          have HCUT : Hid (Cutd (ltOf cf) a m b mid r d) := hcut
          obtain ⟨e, he⟩ : ∃ e, e = nn - r := ⟨_, rfl⟩
          have q8 : (nn : Int) - (r : Int) = (e : Int) := by omega
          have he9 : (e : Int) < 4611686018427387904 := by omega
          have HEE : Hid (e = mid + m - r) := by show _ = _; have := HNN.out; omega
          have heb : e ≤ b := by omega
          have hme : m ≤ e := by omega
          have hmide : mid ≤ e := by have := HNN.out; omega
          have hamid : a < mid := by have := HMID.out; omega
          have hmidb : mid < b := by have := HMID.out; omega
          clear hcut he HX hltz
          go_upto_region 39 with fail
          obtain ⟨b1, hb1⟩ : ∃ x : Bool, x = decide (r < m ∧ m < e) := ⟨_, rfl⟩
          have HB1 := Lib.hid hb1
          clear hb1
          go_cut [185] (fun v wx => v = .bool b1 ∧ Aside (SWK enc k w0 blk off d wx))
          case first => as_aux_lemma =>
            by_cases h1 : r < m
            · have h1' : (r : Int) < (m : Int) := by omega
              by_cases h2 : m < e
              · have h2' : (m : Int) < (e : Int) := by omega
                have hb : b1 = true := by rw [HB1.out]; simp [h1, h2]
                subst hb
                go_wp2_with fail
                go_meet
                exact ⟨rfl, S1⟩
              · have h2' : ¬ (m : Int) < (e : Int) := by omega
                have hb : b1 = false := by rw [HB1.out]; simp [h2]
                subst hb
                go_wp2_with fail
                go_meet
                exact ⟨rfl, S1⟩
            · have h1' : ¬ (r : Int) < (m : Int) := by omega
              have hb : b1 = false := by rw [HB1.out]; simp [h1]
              subst hb
              go_wp2_with fail
              go_meet
              exact ⟨rfl, S1⟩
          case rest => as_aux_lemma =>
            clear S1
            obtain ⟨rfl, S1⟩ := hcut
            have hrot : Hid (Rot r m e d d ∨ b1 = true) := by
              rcases Nat.lt_or_ge r m with h1 | h1
              · rcases Nat.lt_or_ge m e with h2 | h2
                · exact Lib.hid (.inr (by rw [HB1.out]; simp [h1, h2]))
                · have : e = m := by omega
                  rw [this]; exact Lib.hid (.inl (Rot.right r m d))
              · have : r = m := by omega
                rw [this]; exact Lib.hid (.inl (Rot.none m e d))
            go_upto_if 185 with fail
            go_cut [] (fun wx => ∃ d1 : Array α, Aside (SWK enc k w0 blk off d1 wx) ∧ Hid (Rot r m e d d1))
            case first => as_aux_lemma =>
              cases b1 with
              | true =>
                have hc1 : r < m ∧ m < e := by have := HB1.out; simpa using this.symm
                have HCR := Lib.hid (HROT.out r m e d wc (by omega) S1.out hc1.1 hc1.2 (by omega))
                clear hc1
                go_wp2_with (go_at_fn 204; refine HCR.out.mono ?_; rintro e' w2 ⟨rfl, d1, hr1, hs1'⟩)
                go_meet
                exact ⟨d1, hs1', Lib.hid hr1⟩
              | false =>
                go_wp2_with fail
                go_meet
                exact ⟨d, S1, Lib.hid (by rcases hrot.out with h | h; exact h; cases h)⟩
            case rest => as_aux_lemma =>
              clear S1 HB1 hrot
              obtain ⟨d1, S1, HRT⟩ := hcut
              have hd1 : d1.size = d.size := HRT.out.1.1
              have hd1a : d1.size ≤ d.size := by omega
              have hd1b : d.size ≤ d1.size := by omega
              have hsorted := HRT.out
              rw [HEE.out] at hsorted
              have hsrt := Rot.sorted hsorted HCUT.out HL.out HR.out
              rw [← HEE.out] at hsrt
              have HSRT := Lib.hid hsrt
              clear hsorted hsrt hd1
              clear b1
              go_upto_region 41 with fail
              obtain ⟨b2, hb2⟩ : ∃ q : Bool, q = decide (a < r ∧ r < mid) := ⟨_, rfl⟩
              have HB := Lib.hid hb2
              clear hb2
              go_cut [199] (fun v wx => v = .bool b2 ∧ Aside (SWK enc k w0 blk off d1 wx))
              case first => as_aux_lemma =>
                by_cases h1 : a < r
                · have h1' : (a : Int) < (r : Int) := by omega
                  by_cases h2 : r < mid
                  · have h2' : (r : Int) < (mid : Int) := by omega
                    have hb : b2 = true := by rw [HB.out]; simp [h1, h2]
                    subst hb
                    go_wp2_with fail
                    go_meet
                    exact ⟨rfl, S1⟩
                  · have h2' : ¬ (r : Int) < (mid : Int) := by omega
                    have hb : b2 = false := by rw [HB.out]; simp [h2]
                    subst hb
                    go_wp2_with fail
                    go_meet
                    exact ⟨rfl, S1⟩
                · have h1' : ¬ (a : Int) < (r : Int) := by omega
                  have hb : b2 = false := by rw [HB.out]; simp [h1]
                  subst hb
                  go_wp2_with fail
                  go_meet
                  exact ⟨rfl, S1⟩
              case rest => as_aux_lemma =>
                clear S1
                obtain ⟨rfl, S1⟩ := hcut
                go_upto_if 199 with fail
                go_cut [] (fun wx => ∃ d2 : Array α, Aside (SWK enc k w0 blk off d2 wx) ∧ Hid (Mrg (ltOf cf) a mid d1 d2))
                case first => as_aux_lemma =>
                  cases b2 with
                  | true =>
                    have hc1 : a < r ∧ r < mid := by have := HB.out; simpa using this.symm
                    have HCR := Lib.hid (IH.out a r mid d1 wc (by omega) (by omega) S1.out hc1.1 hc1.2 (by omega) HSRT.out.1 HSRT.out.2.1)
                    clear hc1
                    go_wp2_with (go_at_fn 200; refine HCR.out.mono ?_; rintro e' w2 ⟨rfl, d2, hr1, hs1'⟩)
                    go_meet
                    exact ⟨d2, hs1', Lib.hid hr1⟩
                  | false =>
                    have HT : Hid (Mrg (ltOf cf) a mid d1 d1) := Lib.hid (Mrg.triv (by
                      have h0 := HB.out
                      have h1 : ¬ (a < r ∧ r < mid) := by simpa using h0.symm
                      rcases Nat.lt_or_ge a r with h2 | h2
                      · have h3 : r = mid := by omega
                        rw [← h3]; exact HSRT.out.1
                      · have h3 : r = a := by omega
                        have h4 := HSRT.out.2.1
                        rw [h3] at h4; exact h4))
                    go_wp2_with fail
                    go_meet
                    exact ⟨_, S1, HT⟩
                case rest => as_aux_lemma =>
                  clear S1 HB
                  obtain ⟨d2, S1, HM_d2⟩ := hcut
                  have hd2 : d2.size = d1.size := HM_d2.out.1.1
                  have hd2a : d2.size ≤ d1.size := by omega
                  have hd2b : d1.size ≤ d2.size := by omega
                  have HS2 : Hid (SortedIn (ltOf cf) mid e d2 ∧ SortedIn (ltOf cf) e b d2) := by
                    have hc := fun i (h1 : mid ≤ i) => HM_d2.out.1.2.1 i (.inr h1)
                    exact Lib.hid ⟨HSRT.out.2.2.1.congr fun i h1 _ => hc i h1, HSRT.out.2.2.2.congr fun i h1 _ => hc i (by omega)⟩
                  clear hd2 b2
                  go_upto_region 43 with fail
                  obtain ⟨b3, hb3⟩ : ∃ q : Bool, q = decide (mid < e ∧ e < b) := ⟨_, rfl⟩
                  have HB := Lib.hid hb3
                  clear hb3
                  go_cut [213] (fun v wx => v = .bool b3 ∧ Aside (SWK enc k w0 blk off d2 wx))
                  case first => as_aux_lemma =>
                    by_cases h1 : mid < e
                    · have h1' : (mid : Int) < (e : Int) := by omega
                      by_cases h2 : e < b
                      · have h2' : (e : Int) < (b : Int) := by omega
                        have hb : b3 = true := by rw [HB.out]; simp [h1, h2]
                        subst hb
                        go_wp2_with fail
                        go_meet
                        exact ⟨rfl, S1⟩
                      · have h2' : ¬ (e : Int) < (b : Int) := by omega
                        have hb : b3 = false := by rw [HB.out]; simp [h2]
                        subst hb
                        go_wp2_with fail
                        go_meet
                        exact ⟨rfl, S1⟩
                    · have h1' : ¬ (mid : Int) < (e : Int) := by omega
                      have hb : b3 = false := by rw [HB.out]; simp [h1]
                      subst hb
                      go_wp2_with fail
                      go_meet
                      exact ⟨rfl, S1⟩
                  case rest => as_aux_lemma =>
                    clear S1
                    obtain ⟨rfl, S1⟩ := hcut
                    have hf : Hid (∀ d3 : Array α, Mrg (ltOf cf) mid b d2 d3 → Mrg (ltOf cf) a b d d3) := Lib.hid fun d3 h3 => mrg_parts HO.out ham hmb HMID.out hb HL.out HR.out HCUT.out (by have h := HRT.out; rw [HEE.out] at h; exact h) HM_d2.out h3
                    cases b3 with
                    | true =>
                      have hc1 : mid < e ∧ e < b := by have := HB.out; simpa using this.symm
                      have HCR := Lib.hid (IH.out mid e b d2 wc (by omega) (by omega) S1.out hc1.1 hc1.2 (by omega) HS2.out.1 HS2.out.2)
                      clear hc1
                      go_wp2_with (go_at_fn 200; refine HCR.out.mono ?_; rintro e' w2 ⟨rfl, d3, hr1, hs1'⟩)
                      go_end0
                      exact ⟨rfl, d3, hf.out d3 hr1, hs1'⟩
                    | false =>
                      have HT : Hid (Mrg (ltOf cf) mid b d2 d2) := Lib.hid (Mrg.triv (by
                        have h0 := HB.out
                        have h1 : ¬ (mid < e ∧ e < b) := by simpa using h0.symm
                        rcases Nat.lt_or_ge mid e with h2 | h2
                        · have h3 : e = b := by omega
                          rw [← h3]; exact HS2.out.1
                        · have h3 : e = mid := by omega
                          have h4 := HS2.out.2
                          rw [h3] at h4; exact h4))
                      go_wp2_with fail
                      go_end0
                      exact ⟨rfl, d2, hf.out d2 HT.out, S1.out⟩

end
end Go.Proofs.YteodabnjkikogaaGreat.Tr

/-
  Walks: slices.SortStableFunc at the rows of truncate: the row behind it is a permutation, sorted.
-/
namespace Go.Proofs.YteodabnjkikogaaGreat.Tr
open Go.Shelf Go.RowKit Go.Lib Go.Sort

section
variable {α : Type} [Inhabited α] {lt : α → α → Bool}
theorem dvd_step {k x a : Nat} (h1 : k ∣ x) (h2 : k ∣ a) (h : x < a) : x + k ≤ a := by
  obtain ⟨u, rfl⟩ := h1
  obtain ⟨v, rfl⟩ := h2
  have : u < v := Nat.lt_of_mul_lt_mul_left h
  have := Nat.mul_le_mul_left k (show u + 1 ≤ v from this)
  rw [Nat.mul_add, Nat.mul_one] at this
  exact this
/-- Sorted in each block of k below a. -/
def Blks (lt : α → α → Bool) (k a : Nat) (d : Array α) : Prop := ∀ x, k ∣ x → x < a → SortedIn lt x (x + k) d
/-- Sorted in each block of k from a on. -/
def BlkF (lt : α → α → Bool) (k a n : Nat) (d : Array α) : Prop := ∀ x, k ∣ x → a ≤ x → SortedIn lt x (min (x + k) n) d
theorem Blks.step {k a : Nat} {d d' : Array α} (h : Blks lt k a d) (ha : k ∣ a) (hm : Mrg lt a (a + k) d d') : Blks lt k (a + k) d' := by
  intro x hx hxa
  by_cases e : x < a
  · have := dvd_step hx ha e
    exact (h x hx e).congr fun i _ h2 => hm.1.2.1 i (.inl (by omega))
  · have : x = a := by
      by_cases e2 : a < x
      · have := dvd_step ha hx e2; omega
      · omega
    subst this; exact hm.2
theorem Blks.last {k a n : Nat} {d d' : Array α} (h : Blks lt k a d) (ha : k ∣ a) (han : a ≤ n) (hn : n < a + k) (hm : Mrg lt a n d d') : BlkF lt k 0 n d' := by
  intro x hx _
  by_cases e : x < a
  · have := dvd_step hx ha e
    rw [Nat.min_eq_left (by omega)]
    exact (h x hx e).congr fun i _ h2 => hm.1.2.1 i (.inl (by omega))
  · by_cases e2 : a < x
    · have := dvd_step ha hx e2
      rw [Nat.min_eq_right (by omega)]
      exact fun i j h1 h2 h3 => by omega
    · have : x = a := by omega
      subst this
      rw [Nat.min_eq_right (by omega)]
      exact hm.2
theorem BlkF.step {k a n b : Nat} {d d' : Array α} (h : BlkF lt k a n d) (hab : a ≤ b) (hp : PermIn a b d d') : BlkF lt k b n d' := fun x hx hxb =>
  (h x hx (by omega)).congr fun i h1 _ => hp.2.1 i (.inr (by omega))
theorem insMrg (hO : SWO lt) (d : Array α) (a b : Nat) (hab : a ≤ b) (hb : b ≤ d.size) : Mrg lt a b d (Sort.insertionSort lt d a b) := by
  have h := insertionSort_holds hO d a b hab hb
  exact ⟨h.1, h.2⟩
end
def rowLays_ren : Go.Shelf.Ren := ⟨fun | 20 => 199 | n => n, fun | 24 => 103 | 22 => 99 | 3 => 3 | 25 => 152 | 4 => 4 | 0 => 0 | n => n, fun | n => n⟩
theorem rowLays : Go.Proofs.SlLaysF0.n20 Tryz.prog rowLays_ren := {
  mixed := by kernel_rfl
  f20 := ⟨Tryz.f199.name, by decide, Tryz.func199.trans (congrArg some (by kernel_rfl))⟩
  t0 := Tryz.underlying0
  a0 := Tryz.isAgg0
  z0 := Tryz.sizeOf0
  v0 := Tryz.zeroValue0
  t3 := Tryz.underlying3
  a3 := Tryz.isAgg3
  z3 := Tryz.sizeOf3
  v3 := Tryz.zeroValue3
  t4 := Tryz.underlying4
  a4 := Tryz.isAgg4
  z4 := Tryz.sizeOf4
  v4 := Tryz.zeroValue4
  t22 := Tryz.underlying99
  a22 := Tryz.isAgg99
  z22 := Tryz.sizeOf99
  v22 := Tryz.zeroValue99
  t25 := Tryz.underlying152
  a25 := Tryz.isAgg152
  z25 := Tryz.sizeOf152
  v25 := Tryz.zeroValue152 }
theorem cmpLaysR (blk off size : Nat) (w : World) : CmpLays Tryz.prog 127 #[] encR 3 cfR blk off size w := fun _ _ _ _ x y => leastCmp x y _
theorem rowK_of {blk off : Nat} {d : Array Nat} {w : World} (hH : HoldsK encR 3 w blk off d) (hb : blk < w.heap.size) : RowK encR 3 w blk off d where
  hk _ := rfl
  h1 x v hv := by simp [encR, rcells] at hv; rcases hv with rfl | rfl | rfl <;> rfl
  hH := hH
  hblk := hb
set_option maxHeartbeats 8000000 in
set_option maxRecDepth 1000000 in
theorem stable_any (blk off cap : Nat) (d : Array Nat) (w0 : World) (hH : HoldsK encR 3 w0 blk off d) (hblk : blk < w0.heap.size) (hsz : d.size ≤ 1000000000) :
    Calls Tryz.prog 179 #[.slice (some ⟨blk, off, none⟩) d.size cap, .int .i64 d.size, .func (.func 127) #[] #[]] w0 fun e w' => e = .returned (.tuple #[]) ∧ ∃ dn, Mrg (ltOf cfR) 0 d.size d dn ∧ SWK encR 3 w0 blk off dn w' := by
  have R := rowK_of hH hblk
  have eg : ∀ args w, (callFunc 127 args).run Tryz.prog w = .ok (.enter 127 args) w := enters_of Tryz.func127 (by kernel_rfl) rfl
  have HINS : Hid (∀ (a b : Nat) (dk : Array Nat) (w : World), dk.size = d.size → SWK encR 3 w0 blk off dk w → a ≤ b → b ≤ d.size →
      Calls Tryz.prog 199 #[.slice (some ⟨blk, off, none⟩) d.size cap, .int .i64 a, .int .i64 b, .func (.func 127) #[] #[]] w fun e w' => e = .returned (.tuple #[]) ∧ ∃ dn, Mrg (ltOf cfR) a b dk dn ∧ SWK encR 3 w0 blk off dn w') :=
    Lib.hid fun a b dk w h1 h2 h3 h4 => by
      have := AnyQ.insertionSortCmpFunc_w (P := Tryz.prog) rowLays 3 Tryz.isAgg103 Tryz.sizeOf103 encR cfR 127 #[] blk off cap a b d dk w0 w eg (cmpLaysR blk off d.size w0) R h1.symm h2 swoR h3 (by omega) (by omega)
      rw [h1] at this
      exact this.mono fun e w' ⟨he, hw⟩ => ⟨he, _, insMrg swoR dk a b h3 (by omega), hw⟩
  have HSYM : Hid (∀ (a m b : Nat) (dk : Array Nat) (w : World), dk.size = d.size → SWK encR 3 w0 blk off dk w → a < m → m < b → b ≤ d.size → SortedIn (ltOf cfR) a m dk → SortedIn (ltOf cfR) m b dk →
      Calls Tryz.prog 200 #[.slice (some ⟨blk, off, none⟩) d.size cap, .int .i64 a, .int .i64 m, .int .i64 b, .func (.func 127) #[] #[]] w fun e w' => e = .returned (.tuple #[]) ∧ ∃ dn, Mrg (ltOf cfR) a b dk dn ∧ SWK encR 3 w0 blk off dn w') :=
    Lib.hid fun a m b dk w h1 h2 h3 h4 h5 h6 h7 => symMerge_o 3 stL encR cfR swoR 127 #[] eg blk off cap d w0 (cmpLaysR blk off d.size w0) R (by omega) (b - a) a m b dk w (Nat.le_refl _) h1.symm h2 h3 h4 (by omega) h6 h7
  have S0 : Aside (SWK encR 3 w0 blk off d w0) := SWK.start hH
  have HH : Hid _ := R
  clear R hH eg
  obtain ⟨n, hn⟩ : ∃ n, n = d.size := ⟨_, rfl⟩
  have HN := Lib.hid hn
  rw [← hn] at HINS HSYM hsz ⊢
  clear hn
  go_enter Tryz.func179, Tryz.ntmps179
  go_wp2
  go_loopg [7, 8] (n + 20) (fun kx s7 s8 wr => ∃ (a : Nat) (dk : Array Nat), s7 = .int .i64 a ∧ s8 = .int .i64 (a + 20 : Nat) ∧ a ≤ n ∧ n + 20 - a ≤ kx ∧ Aside (SWK encR 3 w0 blk off dk wr) ∧ Hid (20 ∣ a ∧ PermIn 0 n d dk ∧ Blks (ltOf cfR) 20 a dk))
  case atStart => exact ⟨0, d, rfl, rfl, Nat.zero_le _, by omega, S0, Lib.hid ⟨⟨0, rfl⟩, permIn_refl _ _ _, fun x _ h => by omega⟩⟩
  case round =>
    clear S0
    obtain ⟨a, dk, rfl, rfl, han, hkx, S1, HW⟩ := hrel
    obtain ⟨b, hb⟩ : ∃ b, b = a + 20 := ⟨_, rfl⟩
    rw [← hb]
    have hds : dk.size = n := by rw [HW.out.2.1.1, HN.out]
    by_cases hlt : b ≤ n
    · have hltz : (b : Int) ≤ (n : Int) := by omega
      have HCI := Lib.hid (HINS.out a b dk wr (by have := HN.out; omega) S1.out (by omega) (by omega))
      have HB := Lib.hid hb
      have hb20 : (b : Int) + 20 < 4611686018427387904 := by omega
      have hba : a < b := by omega
      have hbk : n + 20 - b < n + 20 - a := by omega
      clear hb S1 hds
      go_wp2_with (go_at_call 199; refine HCI.out.mono ?_; rintro e w2 ⟨rfl, dn, hm, hs⟩)
      have hrel2 : Hid (20 ∣ b ∧ PermIn 0 n d dn ∧ Blks (ltOf cfR) 20 b dn) := by
        obtain ⟨h1, h2, h3⟩ := HW.out
        have hm' := hm
        rw [HB.out] at hm' ⊢
        exact Lib.hid ⟨Nat.dvd_add h1 (Nat.dvd_refl 20), permIn_trans _ _ _ _ _ h2 (permIn_mono _ _ _ _ _ _ (Nat.zero_le _) (by have := HB.out; omega) (by rw [h2.1, HN.out]; omega) hm'.1), h3.step h1 hm'⟩
      have S2 : Aside (SWK encR 3 w0 blk off dn w2) := hs
      clear hm hs HCI HW HB
      go_wp2
      go_roundg (n + 20 - b)
      case measure => omega
      case rel => exact ⟨b, dn, rfl, by go_num, hlt, Nat.le_refl _, S2, hrel2⟩
    · have hltz : ¬ (b : Int) ≤ (n : Int) := by omega
      have HCI := Lib.hid (HINS.out a n dk wr (by have := HN.out; omega) S1.out han (Nat.le_refl _))
      have HB := Lib.hid hb
      have hnb : n < a + 20 := by omega
      clear hb S1 hds
      go_wp2_with (go_at_call 199; refine HCI.out.mono ?_; rintro e w2 ⟨rfl, dn, hm, hs⟩)
      have hrel2 : Hid (PermIn 0 n d dn ∧ BlkF (ltOf cfR) 20 0 n dn) := by
        obtain ⟨h1, h2, h3⟩ := HW.out
        exact Lib.hid ⟨permIn_trans _ _ _ _ _ h2 (permIn_mono _ _ _ _ _ _ (Nat.zero_le _) (Nat.le_refl _) (by rw [h2.1, HN.out]; exact Nat.le_refl _) hm.1), h3.last h1 han hnb hm⟩
      have S2 : Aside (SWK encR 3 w0 blk off dn w2) := hs
      clear hm hs HCI HW HB
      go_wp2
      clear HINS
      go_loopg [6] n (fun kx s6 wr => ∃ (bs : Nat) (dk : Array Nat), s6 = .int .i64 bs ∧ 0 < bs ∧ bs ≤ 2000000000 ∧ n - bs ≤ kx ∧ Aside (SWK encR 3 w0 blk off dk wr) ∧ Hid (PermIn 0 n d dk ∧ BlkF (ltOf cfR) bs 0 n dk))
      case atStart => exact ⟨20, dn, rfl, by omega, by omega, by omega, S2, hrel2⟩
      case round =>
        clear S2 hrel2 hltz hnb hkx han
        obtain ⟨bs, dk2, rfl, hbs0, hbs9, hkx2, S3, HW⟩ := hrel
        by_cases hlt2 : bs < n
        · have hltz2 : (bs : Int) < (n : Int) := by omega
          obtain ⟨t, ht⟩ : ∃ t, t = 2 * bs := ⟨_, rfl⟩
          have q1 : 2 * (bs : Int) = (t : Int) := by omega
          have q2 : (bs : Int) * 2 = (t : Int) := by omega
          have ht9 : (t : Int) ≤ 2000000000 := by omega
          have HT := Lib.hid ht
          have hbst : bs < t := by omega
          clear ht
          go_wp2
          go_loopg [7, 8] (n + t) (fun kx s7 s8 wr => ∃ (a c : Nat) (dk : Array Nat), s7 = .int .i64 a ∧ s8 = .int .i64 c ∧ Hid (c = a + t) ∧ a ≤ n ∧ n + t - a ≤ kx ∧ Aside (SWK encR 3 w0 blk off dk wr) ∧ Hid (t ∣ a ∧ PermIn 0 n d dk ∧ Blks (ltOf cfR) t a dk ∧ BlkF (ltOf cfR) bs a n dk))
          case atStart => exact ⟨0, t, dk2, rfl, rfl, Lib.hid (by omega), Nat.zero_le _, by omega, S3, Lib.hid ⟨⟨0, rfl⟩, HW.out.1, fun x _ h => by omega, HW.out.2⟩⟩
          case round =>
            clear S3 HW
            obtain ⟨a2, c, dk3, rfl, rfl, HCA, han2, hkx3, S4, HW⟩ := hrel
            have hca := HCA.out
            obtain ⟨m, hm⟩ : ∃ m, m = a2 + bs := ⟨_, rfl⟩
            have q3 : (a2 : Int) + (bs : Int) = (m : Int) := by omega
            have hm9 : (m : Int) ≤ 4000000000 := by omega
            have hdsz : dk3.size = d.size := HW.out.2.1.1
            have hdsa : d.size = n := HN.out.symm
            have HDV : Hid (bs ∣ a2 ∧ bs ∣ m) := Lib.hid (by
              have h1 : bs ∣ a2 := Nat.dvd_trans ⟨2, by have := HT.out; omega⟩ HW.out.1
              exact ⟨h1, by rw [hm]; exact Nat.dvd_add h1 (Nat.dvd_refl bs)⟩)
            have HL : Hid (SortedIn (ltOf cfR) a2 (min m n) dk3) := Lib.hid (by rw [hm]; exact HW.out.2.2.2 a2 HDV.out.1 (Nat.le_refl _))
            have HR : Hid (SortedIn (ltOf cfR) m (min c n) dk3) := Lib.hid (by
              have h := HW.out.2.2.2 m HDV.out.2 (by omega)
              rw [show m + bs = c by have := HT.out; omega] at h; exact h)
            by_cases hlt3 : c ≤ n
            · have hltz3 : (c : Int) ≤ (n : Int) := by omega
              have hl2 : SortedIn (ltOf cfR) a2 m dk3 := by have h := HL.out; rw [Nat.min_eq_left (by omega)] at h; exact h
              have hr2 : SortedIn (ltOf cfR) m c dk3 := by have h := HR.out; rw [Nat.min_eq_left (by omega)] at h; exact h
              have HCS := Lib.hid (HSYM.out a2 m c dk3 wr (by omega) S4.out (by omega) (by have := HT.out; omega) hlt3 hl2 hr2)
              obtain ⟨c', hc'⟩ : ∃ c', c' = c + t := ⟨_, rfl⟩
              have q4 : (c : Int) + (t : Int) = (c' : Int) := by omega
              have hc9 : (c' : Int) ≤ 8000000000 := by omega
              have HCC : Hid (c' = c + t) := Lib.hid hc'
              have hac : a2 < c := by omega
              clear hm hl2 hr2 hc' hca S4 hdsz hdsa
              go_wp2_with (go_at_call 200; refine HCS.out.mono ?_; rintro e w3 ⟨rfl, d4, hmg, hs4⟩)
              have hrel4 : Hid (t ∣ c ∧ PermIn 0 n d d4 ∧ Blks (ltOf cfR) t c d4 ∧ BlkF (ltOf cfR) bs c n d4) := by
                obtain ⟨h1, h2, h3, h4⟩ := HW.out
                have hc := HCA.out
                refine Lib.hid ⟨by rw [hc]; exact Nat.dvd_add h1 (Nat.dvd_refl t), permIn_trans _ _ _ _ _ h2 (permIn_mono _ _ _ _ _ _ (Nat.zero_le _) hlt3 (by rw [h2.1, HN.out]; exact Nat.le_refl _) hmg.1), ?_, h4.step (by omega) hmg.1⟩
                rw [hc] at hmg ⊢
                exact h3.step h1 hmg
              have S5 : Aside (SWK encR 3 w0 blk off d4 w3) := hs4
              have hgo : n + t - c < n + t - a2 := by omega
              clear hmg hs4 HCS HW HCA HL HR HDV q3
              go_wp2
              go_roundg (n + t - c)
              case measure => omega
              case rel => exact ⟨c, c', d4, rfl, rfl, HCC, hlt3, Nat.le_refl _, S5, hrel4⟩
            · have hltz3 : ¬ (c : Int) ≤ (n : Int) := by omega
              by_cases hlt4 : m < n
              · have hltz4 : (m : Int) < (n : Int) := by omega
                have hl2 : SortedIn (ltOf cfR) a2 m dk3 := by have h := HL.out; rw [Nat.min_eq_left (by omega)] at h; exact h
                have hr2 : SortedIn (ltOf cfR) m n dk3 := by have h := HR.out; rw [Nat.min_eq_right (by omega)] at h; exact h
                have HCS := Lib.hid (HSYM.out a2 m n dk3 wr (by omega) S4.out (by omega) hlt4 (by omega) hl2 hr2)
                have hcn : n < a2 + t := by omega
                clear hm hl2 hr2 hca S4 hdsz hdsa
                go_wp2_with (go_at_call 200; refine HCS.out.mono ?_; rintro e w3 ⟨rfl, d4, hmg, hs4⟩)
                have hrel4 : Hid (PermIn 0 n d d4 ∧ BlkF (ltOf cfR) t 0 n d4) := by
                  obtain ⟨h1, h2, h3, h4⟩ := HW.out
                  exact Lib.hid ⟨permIn_trans _ _ _ _ _ h2 (permIn_mono _ _ _ _ _ _ (Nat.zero_le _) (Nat.le_refl _) (by rw [h2.1, HN.out]; exact Nat.le_refl _) hmg.1), h3.last h1 han2 hcn hmg⟩
                have S5 : Aside (SWK encR 3 w0 blk off d4 w3) := hs4
                have hgo : n - t < n - bs := by omega
                clear hmg hs4 HCS HW HCA HL HR HDV q3
                go_wp2
                go_roundg (n - t)
                case measure => omega
                case rel => exact ⟨t, d4, rfl, by omega, by omega, Nat.le_refl _, S5, hrel4⟩
              · have hltz4 : ¬ (m : Int) < (n : Int) := by omega
                have hcn : n < a2 + t := by omega
                have hrel4 : Hid (PermIn 0 n d dk3 ∧ BlkF (ltOf cfR) t 0 n dk3) := by
                  obtain ⟨h1, h2, h3, h4⟩ := HW.out
                  have hl2 : SortedIn (ltOf cfR) a2 n dk3 := by have h := HL.out; rw [Nat.min_eq_right (by omega)] at h; exact h
                  exact Lib.hid ⟨h2, h3.last h1 han2 hcn ⟨permIn_refl _ _ _, hl2⟩⟩
                have hgo : n - t < n - bs := by omega
                clear hm hca hdsz hdsa HW HCA HL HR HDV
                go_wp2
                go_roundg (n - t)
                case measure => omega
                case rel => exact ⟨t, dk3, rfl, by omega, by omega, Nat.le_refl _, S4, hrel4⟩
        · have hltz2 : ¬ (bs : Int) < (n : Int) := by omega
          have HF : Hid (Mrg (ltOf cfR) 0 n d dk2) := Lib.hid ⟨HW.out.1, by have h := HW.out.2 0 ⟨0, rfl⟩ (Nat.le_refl _); rw [Nat.min_eq_right (by omega)] at h; exact h⟩
          go_wp2
          go_end0
          exact ⟨rfl, dk2, HF.out, S3.out⟩
end Go.Proofs.YteodabnjkikogaaGreat.Tr

/-
  slices.SortStableFunc at the rows of truncate, in the words of V3.
-/
namespace Go.Proofs.YteodabnjkikogaaGreat.Tr
open Go.Shelf Go.RowKit Go.Lib Go.Sort

set_option maxRecDepth 100000 in
theorem stable_none (p : Option Addr) (cap : Nat) (fv : Value) (w : World) : Calls Tryz.prog 179 #[.slice p 0 cap, .int .i64 0, fv] w fun e w' => e = .returned (.tuple #[]) ∧ w = w' := by
  have HI : Hid (∀ W, Calls Tryz.prog 199 #[.slice p 0 cap, .int .i64 0, .int .i64 0, fv] W fun e w' => e = .returned (.tuple #[]) ∧ W = w') := Lib.hid fun W => (AnyF.insertionSortCmpFunc_none rowLays p cap fv W).mono fun _ _ h => ⟨h.1, h.2.symm⟩
  go_enter Tryz.func179, Tryz.ntmps179
  go_wp2
  refine wp_loop_rounds 1 ?_
  rw [rounds_succ]
  go_wp2_with (go_at_call 199; refine (HI.out _).mono ?_; rintro e w2 ⟨rfl, rfl⟩)
  refine wp_loop_rounds 1 ?_
  rw [rounds_succ]
  go_wp2
  go_end0
  exact ⟨rfl, rfl⟩
theorem flat_getE (L : List Nat) : ∀ i (h : i < L.length) j, j < 3 → (L.flatMap encR)[i * 3 + j]? = (encR L[i])[j]? := by
  induction L with
  | nil => intro i h; simp at h
  | cons c L ih =>
    intro i h j hj
    rw [List.flatMap_cons]
    cases i with
    | zero => rw [List.getElem?_append_left (by simp [encR, rcells]; omega)]; simp
    | succ i =>
      rw [List.getElem?_append_right (by simp [encR, rcells]; omega), show (encR c).length = 3 from rfl, show (i + 1) * 3 + j - 3 = i * 3 + j by omega]
      exact ih i (by simpa using h) j hj
theorem len_flatE (L : List Nat) : (L.flatMap encR).length = L.length * 3 := by
  induction L with
  | nil => rfl
  | cons c L ih => simp [encR, rcells, ih]; omega
theorem flatK_list (L : List Nat) : (flatK encR 3 L.toArray).toList = L.flatMap encR := by
  apply List.ext_getElem?
  intro t
  by_cases h : t < L.length * 3
  · have hi : t / 3 < L.length := by omega
    have e := flat_getE L (t / 3) hi (t % 3) (by omega)
    rw [show t / 3 * 3 + t % 3 = t by omega] at e
    rw [e]
    have e2 : (flatK encR 3 L.toArray)[t]! = (encR L.toArray[t / 3]!)[t % 3]! := get_flatK encR 3 L.toArray t (by simpa using h)
    have e3 : (flatK encR 3 L.toArray).toList[t]? = some (flatK encR 3 L.toArray)[t]! := by
      have hs : t < (flatK encR 3 L.toArray).size := by rw [size_flatK]; simpa using h
      rw [Array.getElem?_toList, Array.getElem?_eq_getElem hs, getElem!_pos _ t hs]
    rw [e3, e2]
    have e4 : L.toArray[t / 3]! = L[t / 3] := by rw [getElem!_pos _ _ (by simpa using hi)]; simp
    rw [e4]
    have h3 : t % 3 < (encR L[t / 3]).length := by show t % 3 < 3; omega
    rw [List.getElem?_eq_getElem h3, getElem!_pos (encR L[t / 3]) (t % 3) h3]
  · rw [List.getElem?_eq_none (by rw [Array.length_toList, size_flatK]; simp; omega), List.getElem?_eq_none (by rw [len_flatE]; omega)]
theorem flat_same {L : List Nat} (h : ∀ c ∈ L, RowLt 152 c) : L.flatMap encR = L.flatMap rcells := by
  induction L with
  | nil => rfl
  | cons c L ih =>
    rw [List.flatMap_cons, List.flatMap_cons, ih fun x hx => h x (List.mem_cons_of_mem _ hx)]
    unfold encR
    rw [lowR_of (h c (List.mem_cons_self ..))]
theorem sortRows_any (B : Nat) (v : Value) (L : List Nat) (w : World) (hv : OwnRws w B v L) (hB : B ≤ w.heap.size) :
    Calls Tryz.prog 179 #[v, .int .i64 L.length, .func (.func 127) #[] #[]] w fun e w' => e = .returned (.tuple #[]) ∧ ∃ M : List Nat, M.Perm L ∧ M.Pairwise (fun a b => pc a ≤ pc b) ∧ OwnRws w' B v M ∧ (Below B w w' ∧ ∀ k, k < w.heap.size → some k ≠ v.ownBlock → w'.heap[k]? = w.heap[k]?) := by
  obtain ⟨hv1, hv2, hv3⟩ := hv
  by_cases h0 : L = []
  · subst h0
    have hv4 := hv1
    obtain ⟨_, h2⟩ := hv1
    have : ∃ p c, v = .slice p 0 c := by
      rcases h2 with ⟨h2, _⟩ | ⟨g, cap, cur, h2, _⟩
      · exact ⟨_, _, h2⟩
      · exact ⟨_, cap, by simpa using h2⟩
    obtain ⟨p, c, rfl⟩ := this
    exact (stable_none p c _ w).mono fun e w' ⟨h3, h4⟩ => ⟨h3, [], .refl _, by simp, by subst h4; exact ⟨hv4, by simp, by simp⟩, by subst h4; exact ⟨Below.refl _ _, fun _ _ _ => rfl⟩⟩
  · obtain ⟨h1, h2⟩ := hv1
    rcases h2 with ⟨_, h2⟩ | ⟨g, cap, cur, rfl, hg, hh, hn, hcap, hsz, htk⟩
    · exact absurd (List.eq_nil_of_length_eq_zero h2) h0
    · have hH : HoldsK encR 3 w g 0 L.toArray := by
        intro j hj
        have hj' : j < L.length * 3 := by rw [size_flatK] at hj; simpa using hj
        refine ⟨?_, by simp [World.frozen?, hh]⟩
        have e1 : (cur.toList.take (L.length * 3))[j]? = (L.flatMap rcells)[j]? := by rw [htk]
        rw [List.getElem?_take_of_lt (by omega), ← flat_same hv3, ← flatK_list] at e1
        simp only [World.cell?, hh, Nat.zero_add]
        rw [show cur[j]? = cur.toList[j]? from by simp]
        simp only [Option.isSome_none, Bool.false_eq_true, if_false]
        rw [e1, Array.getElem?_toList, Array.getElem?_eq_getElem hj, getElem!_pos _ j hj]
        rfl
      have hS := stable_any g 0 cap L.toArray w hH (heap_lt hh) (by simp; omega)
      simp only [List.size_toArray] at hS
      refine hS.mono fun e w' ⟨h3, dn, hm, n, os, h4⟩ => ⟨h3, dn.toList, ?_⟩
      clear hS h3
      obtain ⟨⟨hp1, hp2, hp3⟩, hs⟩ := hm
      have hdn : dn.size = L.length := by simpa using hp1
      have hperm : dn.toList.Perm L := by
        have e1 : dn.extract 0 L.length = dn := by rw [← hdn]; simp
        have e2 : L.toArray.extract 0 L.length = L.toArray := by simp
        rw [e1, e2] at hp3
        simpa using hp3
      have hlt : ∀ c ∈ dn.toList, RowLt 152 c := fun c hc => hv3 c (hperm.mem_iff.1 hc)
      refine ⟨hperm, ?_, ?_, ?_⟩
      · rw [List.pairwise_iff_getElem]
        intro i j hi hj hij
        have hi' : i < dn.size := by simpa using hi
        have hj' : j < dn.size := by simpa using hj
        have h := hs i j (Nat.zero_le _) hij (by omega)
        rw [ltR] at h
        simp at h
        rw [getElem!_pos dn i hi', getElem!_pos dn j hj', lowR_of (hlt _ (by simp)), lowR_of (hlt _ (by simp))] at h
        simpa using h
      · subst h4
        have hg1 := heap_putRow (id : Value → Value) w n g 0 (flatK encR 3 dn) hh
        have hps := putCells_take (id : Value → Value) (flatK encR 3 dn) cur (L.length * 3) (by rw [size_flatK, hdn]) (by rw [hsz]; exact Nat.mul_le_mul_right 3 hn)
        refine ⟨⟨by rw [len_flat], .inr ⟨g, cap, putCells id 0 (flatK encR 3 dn) cur, by simp [hdn], hg, ?_, by simp [hdn]; exact hn, hcap, by rw [hps.1]; exact hsz, ?_⟩⟩, by simp; omega, hlt⟩
        · show (grow (putRow id (Sort.ahead w n) g 0 (flatK encR 3 dn)) os).heap[g]? = _
          rw [heap_grow_old _ _ (heap_lt hg1)]; exact hg1
        · have := hps.2
          rw [show dn.toList.length * 3 = L.length * 3 by simp [hdn], this, ← flat_same hlt]
          have e := flatK_list dn.toList
          simp only [Array.toArray_toList] at e
          rw [e]; simp
      · subst h4
        have hne : ∀ k, k < w.heap.size → k ≠ g → (grow (putRow id (Sort.ahead w n) g 0 (flatK encR 3 dn)) os).heap[k]? = w.heap[k]? := fun k hk hkg => by
          rw [heap_grow_old _ _ (by show k < (w.heap.modify g _).size; simp; omega)]
          exact heap_putRow_ne (id : Value → Value) w n g 0 k _ hkg
        refine ⟨⟨rfl, rfl, rfl, ?_, fun k hk => hne k (by omega) (by omega)⟩, fun k hk hkn => hne k hk fun e => hkn (by rw [e]; rfl)⟩
        show w.heap.size ≤ ((w.heap.modify g _) ++ os).size
        simp
set_option maxRecDepth 100000 in
theorem sortStable_any (B : Nat) (v : Value) (L : List Nat) (w : World) (hv : OwnRws w B v L) (hB : B ≤ w.heap.size) :
    Calls Tryz.prog 126 #[v, .func (.func 127) #[] #[]] w fun e w' => e = .returned (.tuple #[]) ∧ ∃ M : List Nat, M.Perm L ∧ M.Pairwise (fun a b => pc a ≤ pc b) ∧ OwnRws w' B v M ∧ (Below B w w' ∧ ∀ k, k < w.heap.size → some k ≠ v.ownBlock → w'.heap[k]? = w.heap[k]?) := by
  have HC := Lib.hid (sortRows_any B v L w hv hB)
  obtain ⟨a, c, rfl⟩ := hv.at.shape
  have hl := hv.2.1
  obtain ⟨n, hn⟩ : ∃ n, n = L.length := ⟨_, rfl⟩
  rw [← hn] at hl HC ⊢
  clear hv hn
  go_enter Tryz.func126, Tryz.ntmps126
  go_wp2_with (go_at_call 179; refine HC.out.mono ?_; rintro e w2 ⟨rfl, M, h1, h2, h3, h4⟩)
  go_end0
  exact ⟨rfl, M, h1, h2, h3, h4⟩
end Go.Proofs.YteodabnjkikogaaGreat.Tr

/-
  Walks: the cutter of truncate: settle.
-/
namespace Go.Proofs.YteodabnjkikogaaGreat.Tr
open Go.RowKit
variable {y0 y1 y2 y4 : Value}
theorem settle_any (gl bk B : Nat) (kk : Int) (M F : List Nat) (mv fv : Value) (W : World) (hrow : RowAt W gl 101 [y0, y1, y2, .func (.func 62) #[] #[.pointer (some ⟨bk, 0, none⟩)], y4, mv, fv]) (hM : RwsAt W mv M) (hl : M.length ≤ 4096)
    (hF : OwnInts W B fv (ofN F)) (hF1 : F.length ≤ 1024) (hFm : ∀ t ∈ F, Mk t) (hbk : W.cell? ⟨bk, 0, none⟩ = some (.int .i64 kk)) (hgB : gl < B) (hB : B ≤ W.heap.size) :
    Calls Tryz.prog 70 #[.pointer (some ⟨gl, 0, none⟩)] W fun e w' => SPost y0 y1 y2 (.func (.func 62) #[] #[.pointer (some ⟨bk, 0, none⟩)]) mv fv gl (overP kk) M F W e w' :=
  settle_try gl bk B kk M F mv fv W hrow hM hl hF hF1 hFm hbk hgB hB fun B v L w h h2 => sortStable_any B v L w h h2
end Go.Proofs.YteodabnjkikogaaGreat.Tr
