import Derived.Test.YtiplibgnfcdlkaaQ02
import Derived.Test.YtiplibgnfcdlkaaShelf
import Derived.Test.YtiplibgnfcdlkaaQ24
import Derived.Test.YtiplibgnfcdlkaaQ29
import Derived.Test.YtiplibgnfcdlkaaQ20
/-
  Walks: slices.Clone, SortFunc, Compact in the words of B0; family.sorted.
-/
namespace Go.Proofs.Ytiplibgnfcdlkaa
open Go.RowKit Go.Lib Go.Sort Go.Shelf

/-- Numbers as ints. -/
abbrev ofN (ns : List Nat) : List Int := ns.map fun n : Nat => (n : Int)

/-- Masks as a type of their own. -/
abbrev MkT := Fin 16777216
def encM (n : MkT) : Value := .int .i64 (n.val : Int)
def cfM (a b : MkT) : Int := cmpK a.val b.val
theorem ltM (a b : MkT) : ltOf cfM a b = decide (ltK a.val b.val) := by
  unfold ltOf cfM cmpK ltK
  by_cases h1 : pc a.val < pc b.val
  · simp [h1]
  · by_cases h2 : pc b.val < pc a.val
    · have : ¬ pc a.val = pc b.val := by omega
      simp [h1, h2, this]
    · have : pc a.val = pc b.val := by omega
      by_cases h3 : a.val < b.val
      · simp [this, h3]
      · by_cases h4 : b.val < a.val <;> simp [this, h3, h4]
theorem swoM : SWO (ltOf cfM) where
  irrefl x := by rw [ltM]; simp [ltK_irr]
  trans x y z h1 h2 := by rw [ltM] at *; simp at *; exact ltK_tr _ _ _ h1 h2
  ntrans x y z h1 h2 := by rw [ltM] at *; simp at *; unfold ltK at *; omega
theorem totM (x y : MkT) (h1 : ltOf cfM x y = false) (h2 : ltOf cfM y x = false) : x = y := by
  rw [ltM] at *
  simp at *
  rcases ltK_total x.val y.val with h | h | h
  · exact absurd h h1
  · exact Fin.ext h
  · exact absurd h h2
theorem heap_lt {w : World} {g : Nat} {o : Obj} (h : w.heap[g]? = some o) : g < w.heap.size := by
  rcases Nat.lt_or_ge g w.heap.size with h1 | h1
  · exact h1
  · simp [Array.getElem?_eq_none h1] at h
theorem heap_putRow {α : Type} [Inhabited α] (enc : α → Value) (w : World) (q g off : Nat) (d : Array α) {cur : Array Value} {e : TypeId} {fr : Nat × Nat} (h : w.heap[g]? = some (.cells cur e fr)) :
    (putRow enc (Sort.ahead w q) g off d).heap[g]? = some (.cells (putCells enc off d cur) e fr) := by
  show (w.heap.modify g (onCells (putCells enc off d)))[g]? = _
  simp [Array.getElem?_modify, h, onCells]
theorem heap_putRow_ne {α : Type} [Inhabited α] (enc : α → Value) (w : World) (q g off k : Nat) (d : Array α) (hk : k ≠ g) : (putRow enc (Sort.ahead w q) g off d).heap[k]? = w.heap[k]? := by
  show (w.heap.modify g (onCells (putCells enc off d)))[k]? = _
  simp [Array.getElem?_modify, Ne.symm hk]
theorem putCells_take {α : Type} [Inhabited α] (enc : α → Value) (d : Array α) (cur : Array Value) (n : Nat) (hd : d.size = n) (hc : n ≤ cur.size) :
    (putCells enc 0 d cur).size = cur.size ∧ (putCells enc 0 d cur).toList.take n = d.toList.map enc := by
  refine ⟨by simp [putCells], ?_⟩
  apply List.ext_getElem?
  intro i
  simp only [putCells, Array.toList_mapIdx, List.getElem?_take, List.getElem?_mapIdx, List.getElem?_map]
  by_cases h : i < n
  · have h1 : i < cur.toList.length := by simpa using (by omega : i < cur.size)
    have h2 : i < d.size := by omega
    rw [if_pos h, List.getElem?_eq_getElem h1]
    simp [h2, getElem!_pos, Nat.zero_add]
  · rw [if_neg h, List.getElem?_eq_none (by simp; omega)]; rfl

end Go.Proofs.Ytiplibgnfcdlkaa

/-
  Walks: cmp.Or, the order of zero.List; slices.SortFunc with it.
-/
namespace Go.Proofs.Ytiplibgnfcdlkaa
open Go.RowKit Go.Lib Go.Sort Go.Shelf

theorem or2_any (g : Nat) (x y : Int) (W : World) (c0 : W.cell? ⟨g, 0, none⟩ = some (.int .i64 x)) (c1 : W.cell? ⟨g, 1, none⟩ = some (.int .i64 y)) :
    Calls Try.prog 60 #[.slice (some ⟨g, 0, none⟩) 2 2] W fun e w' => e = .returned (.int .i64 (if x == 0 then y else x)) ∧ w' = W := by
  obtain ⟨q, hq⟩ : ∃ q, q = if x == 0 then y else x := ⟨_, rfl⟩
  rw [← hq]
  have HQ := Lib.hid hq
  clear hq
  go_enter Try.func60, Try.ntmps60
  go_wp2_with fail
  go_loopg [8] 2 (fun kx s8 wr => ∃ k : Nat, s8 = .int .i64 k ∧ k ≤ 2 ∧ 2 - k ≤ kx ∧ Hid (1 ≤ k → x = 0) ∧ Hid (k = 2 → y = 0) ∧ Hid (wr = W))
  case atStart => exact ⟨0, rfl, by omega, by omega, Lib.hid (fun h => by omega), Lib.hid (fun h => by omega), Lib.hid rfl⟩
  case round =>
    obtain ⟨k, rfl, hk, hkx, HA, HB, HW⟩ := hrel
    obtain rfl := HW.out
    clear HW
    rcases (show k = 0 ∨ k = 1 ∨ k = 2 by omega) with rfl | rfl | rfl
    · by_cases hx : x = 0
      · subst hx
        go_wp2_with fail
        go_roundg 1
        case measure => omega
        case rel => exact ⟨1, by first | rfl | go_num, by omega, by omega, Lib.hid (by simp), Lib.hid (fun h => by omega), Lib.hid rfl⟩
      · have hx1 : (x == 0) = false := beq_eq_false_iff_ne.2 hx
        have HE : Hid (q = x) := Lib.hid (by rw [HQ.out, hx1]; rfl)
        go_wp2_with fail
        go_ret
        exact ⟨by rw [HE.out]; rfl, rfl⟩
    · have hx := HA.out (by omega)
      subst hx
      by_cases hy : y = 0
      · subst hy
        go_wp2_with fail
        go_roundg 0
        case measure => omega
        case rel => exact ⟨2, by first | rfl | go_num, by omega, by omega, Lib.hid (by simp), Lib.hid (by simp), Lib.hid rfl⟩
      · have hy1 : (y == 0) = false := beq_eq_false_iff_ne.2 hy
        have HE : Hid (q = y) := Lib.hid (by rw [HQ.out]; rfl)
        go_wp2_with fail
        go_ret
        exact ⟨by rw [HE.out]; rfl, rfl⟩
    · have hx := HA.out (by omega)
      have hy := HB.out rfl
      subst hx
      subst hy
      have HE : Hid (q = 0) := Lib.hid (by rw [HQ.out]; rfl)
      go_wp2_with fail
      go_ret
      exact ⟨by rw [HE.out]; rfl, rfl⟩
theorem zcmp_any {a b : Nat} (ha : Mk a) (hb : Mk b) (w : World) : Calls Try.prog 59 #[.int .i64 a, .int .i64 b] w fun e w' => e = .returned (.int .i64 (cmpK a b)) ∧ ∃ O, w' = w.alloc O := by
  have hwa := wrap_mk ha
  have hwb := wrap_mk hb
  have hpa : pcS (a : Int) = (pc a : Nat) := pcS_pc a ha
  have hpb : pcS (b : Int) = (pc b : Nat) := pcS_pc b hb
  clear ha hb
  obtain ⟨x, hx⟩ : ∃ x, x = cmpI (pc a) (pc b) := ⟨_, rfl⟩
  obtain ⟨y, hy⟩ : ∃ y, y = cmpI (a : Int) (b : Int) := ⟨_, rfl⟩
  have HX := Lib.hid hx
  have HY := Lib.hid hy
  clear hx hy
  have hr : cmpK a b = if x == 0 then y else x := by
    have h1 := HX.out
    have h2 := HY.out
    rw [h2]
    unfold cmpK
    unfold cmpI at h1 ⊢
    split at h1
    · rw [if_pos (by omega)]; simp [h1]
    · split at h1
      · rw [if_neg (by omega), if_pos (by omega)]; simp [h1]
      · rw [if_neg (by omega), if_neg (by omega)]; simp [h1]
  obtain ⟨q, hq⟩ : ∃ q, q = if x == 0 then y else x := ⟨_, rfl⟩
  rw [hr, ← hq]
  clear hr
  have hx : RowAt (w.alloc (.cells #[.int .i64 x, .int .i64 y] 3)) w.heap.size 3 [.int .i64 x, .int .i64 y] := RowAt.made w #[.int .i64 x, .int .i64 y] 3
  have c0 := hx.cell (i := 0) (by simp)
  have c1 := hx.cell (i := 1) (by simp)
  simp only [List.getElem_cons_succ, List.getElem_cons_zero] at c0 c1
  have hor := or2_any w.heap.size x y _ c0 c1
  rw [← hq] at hor
  have HOR := Lib.hid hor
  clear hx c0 c1 hor hq
  go_enter Try.func59, Try.ntmps59
  go_wp2_with (first
    | (go_at_call 62; refine (ones_any _ _).mono ?_; rintro e w' ⟨rfl, rfl⟩)
    | (go_at_call 61; refine (cmp_any _ _ _).mono ?_; rintro e w' ⟨rfl, rfl⟩; rw [← HX.out])
    | (go_at_call 61; refine (cmp_any _ _ _).mono ?_; rintro e w' ⟨rfl, rfl⟩; rw [← HY.out])
    | (go_at_call 60; refine HOR.out.mono ?_; rintro e w' ⟨rfl, rfl⟩))
  go_ret
  exact ⟨rfl, _, rfl⟩
theorem cmpLays2 (blk off size : Nat) (w : World) : CmpLays1 Try.prog 59 #[] encM cfM blk off size w := by
  intro m os dk _ x y
  exact (zcmp_any (show Mk x.val from x.isLt) (show Mk y.val from y.isLt) _).mono fun e w' ⟨h1, O, h2⟩ => ⟨h1, 0, #[O], by rw [h2, alloc_eq_grow]; rfl⟩
theorem sort2_any (B : Nat) (v : Value) (ns : List Nat) (w : World) (hm : ∀ n ∈ ns, Mk n) (hv : OwnInts w B v (ofN ns)) (hB : B ≤ w.heap.size) :
    Calls Try.prog 58 #[v, .func (.func 59) #[] #[]] w fun e w' => e = .returned (.tuple #[]) ∧ ∃ rs : List Nat, (∀ n ∈ rs, Mk n) ∧ rs.length = ns.length ∧ rs.Pairwise (fun a b => ltK a b ∨ a = b) ∧ rs.Perm ns ∧ OwnInts w' B v (ofN rs) ∧ Below B w w' ∧ ∀ k, k < w.heap.size → v.ownBlock ≠ some k → w'.heap[k]? = w.heap[k]? := by
  obtain ⟨hv1, hv2⟩ := hv
  by_cases h0 : ns = []
  · subst h0
    have hv3 := hv1
    obtain ⟨_, h2⟩ := hv1
    have : ∃ p c, v = .slice p 0 c := by
      rcases h2 with ⟨h2, _⟩ | ⟨g, cap, cur, h2, _⟩
      · exact ⟨_, _, h2⟩
      · exact ⟨_, cap, by simpa using h2⟩
    obtain ⟨p, c, rfl⟩ := this
    exact (Go.Proofs.Try.slices_SortFunc_none (α := Nat) p c _ w).mono fun e w' ⟨h3, h4⟩ => ⟨h3, [], by simp, by simp, by simp, by simp, by subst h4; exact ⟨hv3, by simp⟩, by subst h4; exact Below.refl _ _, by subst h4; exact fun _ _ _ => rfl⟩
  · obtain ⟨h1, h2⟩ := hv1
    rcases h2 with ⟨_, h2⟩ | ⟨g, cap, cur, rfl, hg, hh, hn, hcap, hsz, htk⟩
    · simp at h2; exact absurd h2 h0
    · obtain ⟨ds, hds⟩ : ∃ ds : List MkT, ds.map (fun n => n.val) = ns := ⟨ns.pmap (fun n (h : Mk n) => (⟨n, h⟩ : MkT)) hm, by rw [List.map_pmap]; simp⟩
      have hlen : ds.length = ns.length := by rw [← hds]; simp
      have hH : Holds encM w g 0 ds.toArray := by
        intro j hj
        have hj' : j < ns.length := by rw [← hlen]; simpa using hj
        refine ⟨?_, by simp [World.frozen?, hh]⟩
        have e1 : (cur.toList.take ((ofN ns).length * 1))[j]? = ((ofN ns).map (Value.int .i64))[j]? := by rw [htk]
        rw [List.getElem?_take_of_lt (by simpa using hj')] at e1
        simp only [World.cell?, hh, Nat.zero_add]
        rw [show cur[j]? = cur.toList[j]? from by simp]
        simp only [Option.isSome_none, Bool.false_eq_true, if_false]
        rw [e1]
        have hjd : j < ds.length := by simpa using hj
        have e2 : ns[j]? = some (ds[j].val) := by rw [← hds]; simp [hjd]
        have e3 : ns[j] = ds[j].val := by rw [List.getElem?_eq_getElem hj'] at e2; exact Option.some.inj e2
        simp [hj', encM, e3, getElem!_pos, hjd]
      have hS := Go.Proofs.Try.slices_SortFunc_total encM (fun _ => rfl) cfM swoM 59 #[] g 0 cap ds.toArray w (enters_of Try.func59 (by kernel_rfl) rfl) (cmpLays2 g 0 _ w) hH (heap_lt hh) (by simp at hv2 ⊢; omega) totM
      have el : (ofN ns).length = ds.toArray.size := by simp [hlen]
      rw [el]
      refine hS.mono fun e w' ⟨h3, n, os, h4⟩ => ⟨h3, ?_⟩
      clear hS h3
      obtain ⟨ms, hms⟩ : ∃ ms, ms = ds.toArray.toList.mergeSort fun x y => !(ltOf cfM) y x := ⟨_, rfl⟩
      rw [← hms] at h4
      have hperm : ms.Perm ds := by rw [hms]; simpa using List.mergeSort_perm ds _
      have hsorted : ms.Pairwise fun a b => (!(ltOf cfM) b a) = true := by
        rw [hms]
        refine List.pairwise_mergeSort (fun a b c h1 h2 => ?_) (fun a b => ?_) _
        · rw [ltM] at *; simp at *; unfold ltK at *; omega
        · rw [ltM, ltM]; simp; unfold ltK; omega
      have hml : ms.length = ds.length := hperm.length_eq
      refine ⟨ms.map (fun n => n.val), ?_, by simp [hml, hlen], ?_, ?_, ?_, ?_, ?_⟩
      · intro n hn; obtain ⟨m, _, rfl⟩ := List.mem_map.1 hn; exact m.isLt
      · rw [List.pairwise_map]
        refine hsorted.imp fun h => ?_
        rw [ltM] at h; simp at h
        rcases ltK_total _ _ with h5 | h5 | h5
        · exact .inl h5
        · exact .inr h5
        · exact absurd h5 h
      · rw [← hds]; exact hperm.map _
      · subst h4
        have hg1 := heap_putRow encM w n g 0 ms.toArray hh
        have hps := putCells_take encM ms.toArray cur ms.length (by simp) (by rw [hsz]; simp at hn; omega)
        refine ⟨⟨by simp, .inr ⟨g, cap, putCells encM 0 ms.toArray cur, by simp [hml], hg, ?_, by simp at hn ⊢; omega, hcap, by rw [hps.1]; exact hsz, ?_⟩⟩, by simp at hv2 ⊢; omega⟩
        · rw [sortWorld, heap_grow_old _ _ (heap_lt hg1)]; exact hg1
        · have := hps.2
          simp only [List.length_map, Nat.mul_one]
          rw [this]; simp [encM]
      · subst h4
        refine ⟨rfl, rfl, rfl, ?_, fun k hk => ?_⟩
        · show w.heap.size ≤ ((w.heap.modify g _) ++ os).size
          simp
        · have hkg : k ≠ g := by omega
          rw [sortWorld, heap_grow_old _ _ (by show k < (w.heap.modify g _).size; simp; omega)]
          exact heap_putRow_ne encM w n g 0 k _ hkg
      · subst h4
        intro k hk hne
        rw [sortWorld, heap_grow_old _ _ (by show k < (w.heap.modify g _).size; simp; omega)]
        exact heap_putRow_ne encM w n g 0 k _ (fun e => hne (by rw [e]; rfl))
end Go.Proofs.Ytiplibgnfcdlkaa

/-
  Walk: zero.List.
-/
namespace Go.Proofs.Ytiplibgnfcdlkaa
open Go.RowKit

/-- The sets of a family, sorted. -/
theorem sorted_of {F : Nat → Bool} {ns rs : List Nat} (hn : ns.Nodup) (hm : ∀ s, s ∈ ns ↔ F s = true) (hp : rs.Perm ns) (ho : rs.Pairwise (fun a b => ltK a b ∨ a = b)) : ZSorted F rs := by
  have hd : rs.Nodup := hp.nodup_iff.2 hn
  refine ⟨?_, fun s => by rw [hp.mem_iff, hm]⟩
  refine (ho.and hd).imp ?_
  rintro a b ⟨h1 | h1, h2⟩
  · unfold zlt; unfold ltK at h1; exact h1
  · exact absurd h1 h2
def zlE (c n : Nat) : Nat := if c = 0 then (if 1024 < n then 4 else 0) else c
set_option maxRecDepth 100000 in
set_option maxHeartbeats 4000000 in
theorem zList_any (v : Value) (c : Nat) (F : Nat → Bool) (W : World) (h : ZIn W v c F) :
    Calls Try.prog 21 #[v] W fun e w' => (∃ u L, e = .returned (.tuple #[u, errV (zlE c (zcard F))]) ∧ IntsAt w' u (natI L) ∧ (zlE c (zcard F) = 0 → ZSorted F L) ∧ (zlE c (zcard F) ≠ 0 → L = [])) ∧ Kept W w' := by
  obtain ⟨a, n, cp, r, rfl⟩ := h.shape
  obtain ⟨w1, hw1⟩ : ∃ w1, w1 = W.alloc (.cells #[.slice a n cp, .int .i64 r] 24) := ⟨_, rfl⟩
  have hk1 : Kept W w1 := by rw [hw1]; exact (Kept.refl _).alloc _
  have HK1 := Lib.hid hk1
  have HW1 := Lib.hid hw1
  have hx : RowAt w1 W.heap.size 24 [.slice a n cp, .int .i64 r] := by rw [hw1]; exact RowAt.made W #[.slice a n cp, .int .i64 r] 24
  have x0 := hx.cell (i := 0) (by simp)
  have x1 := hx.cell (i := 1) (by simp)
  simp only [List.getElem_cons_succ, List.getElem_cons_zero] at x0 x1
  obtain ⟨q, hq⟩ : ∃ q, q = zlE c (zcard F) := ⟨_, rfl⟩
  rw [← hq]
  by_cases hc : c = 0
  · subst hc
    have HOP : Hid (Calls Try.prog 53 #[.slice (some ⟨w1.heap.size, 0, none⟩) 1 1] (w1.alloc (.cells #[.slice a n cp, .int .i64 r] 24)) _) := Lib.hid (open1_ok h w1 _ hk1 rfl)
    have HF := Lib.hid (h.from rfl)
    obtain ⟨m, hm⟩ : ∃ m, m = zcard F := ⟨_, rfl⟩
    have HM := Lib.hid hm
    rw [← hm] at hq
    unfold zlE at hq
    rw [if_pos rfl] at hq
    obtain ⟨P, hP⟩ : ∃ P : Ending → World → Prop, P = fun e w' => (∃ u L, e = .returned (.tuple #[u, errV q]) ∧ IntsAt w' u (natI L) ∧ (q = 0 → ZSorted F L) ∧ (q ≠ 0 → L = [])) ∧ Kept W w' := ⟨_, rfl⟩
    rw [← hP]
    have HP := Lib.hid hP
    have HQ := Lib.hid hq
    clear h hw1 hk1 hx hm hq hP
    go_enter Try.func21, Try.ntmps21
    go_upto_region 1 with fail
    rw [← HW1.out]
    go_wp2_with fail
    refine HOP.out.mono ?_
    rintro e w3 ⟨t, N, gr, cr, x, rfl, hcr, h3⟩
    have y0 := h3.cell
    have HCN : Hid (Calls Try.prog 55 #[t.val, .int .i64 (x : Nat)] w3 fun e w' => e = .returned (.int .i64 (m : Nat)) ∧ TblAt w' t N ∧ TFrm t w3 w') := Lib.hid (by rw [HM.out]; exact zCount_at t N x F w3 h3.tbl h3.ref h3.fam HF.out)
    have HK3 := Lib.hid (HK1.out.trans (((Kept.refl _).alloc _).trans h3.kept))
    have HOW : Hid (∀ k, t.own w3 k → W.heap.size ≤ k) := Lib.hid fun k hk => by have h1 := h3.own k hk; simp only [World.size_alloc] at h1; have := HK1.out.size; omega
    have HBX : Hid (Box t w3 gr 0 (.int .i64 (x : Nat))) := Lib.hid ⟨y0, h3.off⟩
    have HRF : Hid (x ≤ 1 + N.length ∧ ZGood N ∧ ∀ s, zm N x s = F s) := Lib.hid ⟨h3.ref, h3.tbl.good, fun s => by rw [h3.fam]⟩
    clear h3 x0 x1
    go_wp2_with fail
    refine HCN.out.mono ?_
    rintro e w4 ⟨rfl, ht4, hf⟩
    have HK4 := Lib.hid (hf.toKept HK3.out HOW.out)
    have y4 := (HBX.out.frm hf).1
    have HT4 := Lib.hid ht4
    clear hf ht4 y0
    by_cases hbig : 1024 < m
    · have hbi : (1024 : Int) < (m : Int) := by omega
      have HE : Hid (q = 4) := Lib.hid (by rw [HQ.out, if_pos hbig])
      have HFIN : Hid (∀ w', Kept W w' → P (.returned (.tuple #[.slice none 0 0, .iface 56 (.int .i64 4)])) w') := Lib.hid fun w' hk => by rw [HP.out, HE.out]; exact ⟨⟨_, [], rfl, IntsAt.nil _, fun h => by omega, fun _ => rfl⟩, hk⟩
      go_wp2_with fail
      exact HFIN.out _ HK4.out
    · have hbi : ¬ (1024 : Int) < (m : Int) := by omega
      have HE : Hid (q = 0) := Lib.hid (by rw [HQ.out, if_neg hbig])
      have HM4 : Hid (m ≤ 1024) := Lib.hid (by omega)
      have HFIN : Hid (∀ w' u L, Kept W w' → IntsAt w' u (natI L) → ZSorted F L → P (.returned (.tuple #[u, .nilIface])) w') := Lib.hid fun w' u L hk h1 h2 => by rw [HP.out, HE.out]; exact ⟨⟨_, L, rfl, h1, fun _ => h2, fun h => absurd rfl h⟩, hk⟩
      clear hbig
      obtain ⟨w5, hw5⟩ : ∃ w5, w5 = w4.alloc (.cells #[.slice none 0 0] 25) := ⟨_, rfl⟩
      have hk5 : Kept w4 w5 := by rw [hw5]; exact (Kept.refl _).alloc _
      have HW5 := Lib.hid hw5
      have HK5 := Lib.hid hk5
      have hr5 : RowAt w5 w4.heap.size 25 [.slice none 0 0] := by rw [hw5]; exact RowAt.made w4 #[.slice none 0 0] 25
      have y5 := hk5.cell y4
      have HCO : Hid (ColAt w5 w4.heap.size []) := Lib.hid ⟨_, hr5, OwnInts.nil _ _⟩
      have HOC : Hid (∀ k, (colT w4.heap.size).own w5 k → w4.heap.size ≤ k) := Lib.hid fun k hk => by
        rcases hk with h | h | h | ⟨u, h, h2⟩
        · exact Nat.le_of_eq h.symm
        · exact Nat.le_of_eq h.symm
        · exact Nat.le_of_eq h.symm
        · have := hr5.cell (i := 0) (by simp)
          rw [show (⟨(colT w4.heap.size).tb, 0, none⟩ : Addr) = ⟨w4.heap.size, 0, none⟩ from rfl, this] at h
          cases h
          cases h2
      clear hw5 hk5 hr5 y4
      go_upto_region 7 with fail
      rw [← HW5.out]
      have HEC : Hid (Calls Try.prog 56 #[t.val, .int .i64 (x : Nat), colV w4.heap.size] w5 _) := Lib.hid (zeach_any t N x w4.heap.size w4 w5 HT4.out HK5.out HOC.out HCO.out HRF.out.1)
      unfold colV at HEC
      go_wp2_with fail
      refine HEC.out.mono ?_
      rintro e w6 ⟨rfl, ⟨u6, hr6, ho6⟩, hf6⟩
      have c6 := hr6.cell (i := 0) (by simp)
      simp only [List.getElem_cons_zero] at c6
      have hz6 := HK5.out.size
      have hown6 := hf6.above hz6 HOC.out
      have hk6 : Kept w4 w6 := hf6.toKept HK5.out HOC.out
      have hob6 : OwnInts w6 w4.heap.size u6 (natI (zsets N x)) := by
        obtain ⟨⟨h1, h2⟩, h3⟩ := ho6
        refine ⟨⟨h1, ?_⟩, h3⟩
        rcases h2 with h2 | ⟨g, cap, cur, h2, h4, h5⟩
        · exact .inl h2
        · exact .inr ⟨g, cap, cur, h2, hown6 g (.inr (.inr (.inr ⟨u6, c6, by rw [h2]; rfl⟩))), h5⟩
      have hne6 : u6.ownBlock ≠ some w4.heap.size := fun e => by
        obtain ⟨cur, h1⟩ := own_lt ho6.1 e
        obtain ⟨cur2, h2, _⟩ := hr6
        rw [h1] at h2
        cases h2
      have HSO := Lib.hid (sort2_any w4.heap.size u6 (zsets N x) w6 (fun s hs => zsets_lt HRF.out.2.1 HRF.out.1 hs) hob6 hk6.size)
      have HR6 := Lib.hid hr6
      have HNE := Lib.hid hne6
      have HK6 := Lib.hid hk6
      clear hr6 ho6 hf6 hz6 hown6 hk6 hob6 hne6
      go_wp2_with fail
      refine HSO.out.mono ?_
      rintro e w7 ⟨rfl, rs, _, hlen, hord, hperm, hown, hbel, hblk⟩
      have c7 := (HR6.out.same (hblk _ HR6.out.lt HNE.out)).cell (i := 0) (by simp)
      simp only [List.getElem_cons_zero] at c7
      have HK7 := Lib.hid (HK4.out.trans (HK6.out.app hbel))
      have HI7 : Hid (IntsAt w7 u6 (natI rs)) := Lib.hid hown.ints
      have HS7 := Lib.hid (sorted_of (zsets_nodup HRF.out.2.1 x HRF.out.1) (fun s => by rw [zsets_mem HRF.out.2.1 x HRF.out.1, HRF.out.2.2]) hperm hord)
      clear hlen hord hperm hown hbel hblk c6
      go_wp2_with fail
      exact HFIN.out _ _ _ HK7.out HI7.out HS7.out
  · have HOP : Hid (Calls Try.prog 53 #[.slice (some ⟨w1.heap.size, 0, none⟩) 1 1] (w1.alloc (.cells #[.slice a n cp, .int .i64 r] 24)) _) := Lib.hid (open1_err h hc w1 _ hk1 rfl)
    have e : q = c := by rw [hq]; unfold zlE; rw [if_neg hc]
    rw [e, errV_pos hc]
    have HC := Lib.hid hc
    clear h hw1 hk1 hx hc e hq
    go_enter Try.func21, Try.ntmps21
    go_upto_region 1 with fail
    rw [← HW1.out]
    go_wp2_with fail
    refine HOP.out.mono ?_
    rintro e w3 ⟨rfl, hk3⟩
    have HK3 := Lib.hid (HK1.out.trans (((Kept.refl _).alloc _).trans hk3))
    clear hk3
    go_wp2_with fail
    refine bodyPost_ret (v := .tuple #[.slice none 0 0, .iface 56 (.int .i64 (c : Nat))]) (by simp [results, Try.results21, go_sem]) rfl ?_
    exact ⟨⟨_, [], rfl, IntsAt.nil _, fun h => absurd h HC.out, fun _ => rfl⟩, HK3.out⟩
end Go.Proofs.Ytiplibgnfcdlkaa
