/-
  Walks: slices.Clone, SortFunc, Compact in the words of B0; family.sorted.
-/
import Derived.Test.YtcgfjacidjebaaaB4
import Derived.Test.YtcgfjacidjebaaaP2
import Derived.Test.YtcgfjacidjebaaaShelf
namespace Go.Proofs.Ytcgfjacidjebaaa
open Go.RowKit Go.Lib Go.Sort Go.Shelf

theorem clone_any (v : Value) (xs : List Int) (w : World) (hv : IntsAt w v xs) (hl : xs.length ≤ 17592186044416) :
    Calls Try.prog 101 #[v] w fun e w' => ∃ v', e = .returned v' ∧ OwnInts w' w.heap.size v' xs ∧ Kept w w' := by
  obtain ⟨a, c, rfl, ⟨hc, _⟩, hl2, hx⟩ := hv
  cases a with
  | none =>
    have h0 : xs = [] := by
      cases xs with
      | nil => rfl
      | cons x xs => obtain ⟨b, o, h, _⟩ := hx 0 (by simp); cases h
    subst h0
    exact (Go.Proofs.Try.slices_Clone_int_nil _ _ _).mono fun e w' ⟨h1, h2⟩ => ⟨_, h1, by subst h2; exact OwnInts.nil _ _, by subst h2; exact Kept.refl _⟩
  | some a =>
    by_cases h0 : xs = []
    · subst h0
      exact (Go.Proofs.Try.slices_Clone_int_zero a c w).mono fun e w' ⟨v', h1, h2, _, h3⟩ => ⟨v', h1, ⟨by simpa using h2, by simp⟩, h3⟩
    · obtain ⟨b, o, h1, _⟩ := hx 0 (List.length_pos_iff.2 h0)
      cases h1
      refine (Go.Proofs.Try.slices_Clone_int b o xs.length c xs w (Nat.le_refl _) (by omega) ?_).mono fun e w' ⟨v', h1, h2, _, h3⟩ => ⟨v', h1, ⟨by simpa using h2, hl2⟩, h3⟩
      intro j hj
      obtain ⟨b', o', h2, h3⟩ := hx j hj
      cases h2
      rw [h3]; simp [hj]

/-- Numbers as ints. -/
abbrev ofN (ns : List Nat) : List Int := ns.map fun n : Nat => (n : Int)

/-- Masks as a type of their own. -/
abbrev MkT := Fin 16777216
def encM (n : MkT) : Value := .int .i64 (n.val : Int)
def cfM (a b : MkT) : Int := cmpK a.val b.val
theorem ltM (a b : MkT) : ltOf cfM a b = decide (ltK a.val b.val) := by
  unfold ltOf cfM cmpK ltK
  by_cases h1 : pc a.val < pc b.val
  · simp [h1]
  · by_cases h2 : pc b.val < pc a.val
    · have : ¬ pc a.val = pc b.val := by omega
      simp [h1, h2, this]
    · have : pc a.val = pc b.val := by omega
      by_cases h3 : a.val < b.val
      · simp [this, h3]
      · by_cases h4 : b.val < a.val <;> simp [this, h3, h4]
theorem swoM : SWO (ltOf cfM) where
  irrefl x := by rw [ltM]; simp [ltK_irr]
  trans x y z h1 h2 := by rw [ltM] at *; simp at *; exact ltK_tr _ _ _ h1 h2
  ntrans x y z h1 h2 := by rw [ltM] at *; simp at *; unfold ltK at *; omega
theorem totM (x y : MkT) (h1 : ltOf cfM x y = false) (h2 : ltOf cfM y x = false) : x = y := by
  rw [ltM] at *
  simp at *
  rcases ltK_total x.val y.val with h | h | h
  · exact absurd h h1
  · exact Fin.ext h
  · exact absurd h h2
theorem cmpLays (blk off size : Nat) (w : World) : CmpLays1 Try.prog 65 #[] encM cfM blk off size w := by
  refine CmpReads.lays fun m os dk _ x y => ?_
  exact (compare_any (show Mk x.val from x.isLt) (show Mk y.val from y.isLt) _).mono fun e w' ⟨h1, h2⟩ => ⟨h1, 0, by subst h2; rfl⟩

theorem heap_lt {w : World} {g : Nat} {o : Obj} (h : w.heap[g]? = some o) : g < w.heap.size := by
  rcases Nat.lt_or_ge g w.heap.size with h1 | h1
  · exact h1
  · simp [Array.getElem?_eq_none h1] at h
theorem heap_putRow {α : Type} [Inhabited α] (enc : α → Value) (w : World) (q g off : Nat) (d : Array α) {cur : Array Value} {e : TypeId} {fr : Nat × Nat} (h : w.heap[g]? = some (.cells cur e fr)) :
    (putRow enc (Sort.ahead w q) g off d).heap[g]? = some (.cells (putCells enc off d cur) e fr) := by
  show (w.heap.modify g (onCells (putCells enc off d)))[g]? = _
  simp [Array.getElem?_modify, h, onCells]
theorem heap_putRow_ne {α : Type} [Inhabited α] (enc : α → Value) (w : World) (q g off k : Nat) (d : Array α) (hk : k ≠ g) : (putRow enc (Sort.ahead w q) g off d).heap[k]? = w.heap[k]? := by
  show (w.heap.modify g (onCells (putCells enc off d)))[k]? = _
  simp [Array.getElem?_modify, Ne.symm hk]
theorem putCells_take {α : Type} [Inhabited α] (enc : α → Value) (d : Array α) (cur : Array Value) (n : Nat) (hd : d.size = n) (hc : n ≤ cur.size) :
    (putCells enc 0 d cur).size = cur.size ∧ (putCells enc 0 d cur).toList.take n = d.toList.map enc := by
  refine ⟨by simp [putCells], ?_⟩
  apply List.ext_getElem?
  intro i
  simp only [putCells, Array.toList_mapIdx, List.getElem?_take, List.getElem?_mapIdx, List.getElem?_map]
  by_cases h : i < n
  · have h1 : i < cur.toList.length := by simpa using (by omega : i < cur.size)
    have h2 : i < d.size := by omega
    rw [if_pos h, List.getElem?_eq_getElem h1]
    simp [h2, getElem!_pos, Nat.zero_add]
  · rw [if_neg h, List.getElem?_eq_none (by simp; omega)]; rfl

theorem sort_any (B : Nat) (v : Value) (ns : List Nat) (w : World) (hm : ∀ n ∈ ns, Mk n) (hv : OwnInts w B v (ofN ns)) (hB : B ≤ w.heap.size) :
    Calls Try.prog 64 #[v, .func (.func 65) #[] #[]] w fun e w' => e = .returned (.tuple #[]) ∧ ∃ rs : List Nat, (∀ n ∈ rs, Mk n) ∧ rs.length = ns.length ∧ rs.Pairwise (fun a b => ltK a b ∨ a = b) ∧ (∀ x, x ∈ rs ↔ x ∈ ns) ∧ OwnInts w' B v (ofN rs) ∧ Below B w w' := by
  obtain ⟨hv1, hv2⟩ := hv
  by_cases h0 : ns = []
  · subst h0
    have hv3 := hv1
    obtain ⟨_, h2⟩ := hv1
    have : ∃ p c, v = .slice p 0 c := by
      rcases h2 with ⟨h2, _⟩ | ⟨g, cap, cur, h2, _⟩
      · exact ⟨_, _, h2⟩
      · exact ⟨_, cap, by simpa using h2⟩
    obtain ⟨p, c, rfl⟩ := this
    exact (Go.Proofs.Try.slices_SortFunc_none (α := Nat) p c _ w).mono fun e w' ⟨h3, h4⟩ => ⟨h3, [], by simp, by simp, by simp, by simp, by subst h4; exact ⟨hv3, by simp⟩, by subst h4; exact Below.refl _ _⟩
  · obtain ⟨h1, h2⟩ := hv1
    rcases h2 with ⟨_, h2⟩ | ⟨g, cap, cur, rfl, hg, hh, hn, hcap, hsz, htk⟩
    · simp at h2; exact absurd h2 h0
    · obtain ⟨ds, hds⟩ : ∃ ds : List MkT, ds.map (fun n => n.val) = ns := ⟨ns.pmap (fun n (h : Mk n) => (⟨n, h⟩ : MkT)) hm, by rw [List.map_pmap]; simp⟩
      have hlen : ds.length = ns.length := by rw [← hds]; simp
      have hH : Holds encM w g 0 ds.toArray := by
        intro j hj
        have hj' : j < ns.length := by rw [← hlen]; simpa using hj
        refine ⟨?_, by simp [World.frozen?, hh]⟩
        have e1 : (cur.toList.take ((ofN ns).length * 1))[j]? = ((ofN ns).map (Value.int .i64))[j]? := by rw [htk]
        rw [List.getElem?_take_of_lt (by simpa using hj')] at e1
        simp only [World.cell?, hh, Nat.zero_add]
        rw [show cur[j]? = cur.toList[j]? from by simp]
        simp only [Option.isSome_none, Bool.false_eq_true, if_false]
        rw [e1]
        have hjd : j < ds.length := by simpa using hj
        have e2 : ns[j]? = some (ds[j].val) := by rw [← hds]; simp [hjd]
        have e3 : ns[j] = ds[j].val := by rw [List.getElem?_eq_getElem hj'] at e2; exact Option.some.inj e2
        simp [hj', encM, e3, getElem!_pos, hjd]
      have hS := Go.Proofs.Try.slices_SortFunc_total encM (fun _ => rfl) cfM swoM 65 #[] g 0 cap ds.toArray w (enters_of Try.func65 (by kernel_rfl) rfl) (cmpLays g 0 _ w) hH (heap_lt hh) (by simp at hv2 ⊢; omega) totM
      have el : (ofN ns).length = ds.toArray.size := by simp [hlen]
      rw [el]
      refine hS.mono fun e w' ⟨h3, n, os, h4⟩ => ⟨h3, ?_⟩
      clear hS h3
      obtain ⟨ms, hms⟩ : ∃ ms, ms = ds.toArray.toList.mergeSort fun x y => !(ltOf cfM) y x := ⟨_, rfl⟩
      rw [← hms] at h4
      have hperm : ms.Perm ds := by rw [hms]; simpa using List.mergeSort_perm ds _
      have hsorted : ms.Pairwise fun a b => (!(ltOf cfM) b a) = true := by
        rw [hms]
        refine List.pairwise_mergeSort (fun a b c h1 h2 => ?_) (fun a b => ?_) _
        · rw [ltM] at *; simp at *; unfold ltK at *; omega
        · rw [ltM, ltM]; simp; unfold ltK; omega
      have hml : ms.length = ds.length := hperm.length_eq
      refine ⟨ms.map (fun n => n.val), ?_, by simp [hml, hlen], ?_, ?_, ?_, ?_⟩
      · intro n hn; obtain ⟨m, _, rfl⟩ := List.mem_map.1 hn; exact m.isLt
      · rw [List.pairwise_map]
        refine hsorted.imp fun h => ?_
        rw [ltM] at h; simp at h
        rcases ltK_total _ _ with h5 | h5 | h5
        · exact .inl h5
        · exact .inr h5
        · exact absurd h5 h
      · intro x; rw [← hds]; simp [hperm.mem_iff]
      · subst h4
        have hg1 := heap_putRow encM w n g 0 ms.toArray hh
        have hps := putCells_take encM ms.toArray cur ms.length (by simp) (by rw [hsz]; simp at hn; omega)
        refine ⟨⟨by simp, .inr ⟨g, cap, putCells encM 0 ms.toArray cur, by simp [hml], hg, ?_, by simp at hn ⊢; omega, hcap, by rw [hps.1]; exact hsz, ?_⟩⟩, by simp at hv2 ⊢; omega⟩
        · rw [sortWorld, heap_grow_old _ _ (heap_lt hg1)]; exact hg1
        · have := hps.2
          simp only [List.length_map, Nat.mul_one]
          rw [this]; simp [encM]
      · subst h4
        refine ⟨rfl, rfl, rfl, ?_, fun k hk => ?_⟩
        · show w.heap.size ≤ ((w.heap.modify g _) ++ os).size
          simp
        · have hkg : k ≠ g := by omega
          rw [sortWorld, heap_grow_old _ _ (by show k < (w.heap.modify g _).size; simp; omega)]
          exact heap_putRow_ne encM w n g 0 k _ hkg
end Go.Proofs.Ytcgfjacidjebaaa
