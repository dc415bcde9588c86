import Derived.Test.YtpaedhlacbpmpaaGreatDoorPX1
import Derived.Test.YtpaedhlacbpmpaaGreatDoorPX2
import Derived.Test.YtpaedhlacbpmpaaGreatDoorPX3
import Derived.Test.YtpaedhlacbpmpaaGreatDoorPX4
import Derived.Test.YtpaedhlacbpmpaaGreatDoorPX5
import Derived.Test.YtpaedhlacbpmpaaGreatDoorPX6
import Derived.Test.YtpaedhlacbpmpaaGreatDoorPX7
import Derived.Test.YtpaedhlacbpmpaaGreatDoorPX8
import Derived.Test.YtpaedhlacbpmpaaGreatDoorPW1
import Derived.Test.YtpaedhlacbpmpaaGreatDoorRows
/-
  A formula and a list of fractions whose bulk is bounded: from the walk to the row's step. Printed by gen_EL4.py.
-/
namespace Go.Proofs.YtpaedhlacbpmpaaGreatDoor
open Go.RowKit Go.ChangeShapes Go.WideShapes Go.ChangeAt Go.Joins Go.Deep

theorem one_leB {H : Type} (d : DataW H) : 1 ≤ Rows.uptoBulk d := by
  cases d with
  | lit l => cases l <;> simp [Rows.uptoBulk]
  | nil => simp [Rows.uptoBulk]
  | ptr d => simp [Rows.uptoBulk]
  | slice elems spare => simp [Rows.uptoBulk]
  | agg parts => simp [Rows.uptoBulk]
  | iface t d => simp [Rows.uptoBulk]
  | map entries => simp [Rows.uptoBulk]
  | held h => simp [Rows.uptoBulk]
theorem part_leB {H : Type} {d : DataW H} {l : List (DataW H)} (h : d ∈ l) : Rows.uptoBulk d ≤ Rows.uptoBulkAll l := by
  induction l with
  | nil => cases h
  | cons x r ih =>
    simp only [Rows.uptoBulkAll]
    cases List.mem_cons.1 h with
    | inl e => subst e; omega
    | inr e => have := ih e; omega
theorem length_leB {H : Type} (l : List (DataW H)) : l.length ≤ Rows.uptoBulkAll l := by
  induction l with
  | nil => simp [Rows.uptoBulkAll]
  | cons x r ih => have := one_leB x; simp only [Rows.uptoBulkAll, List.length_cons]; omega
theorem slice_leB {H : Type} (elems spare : List (DataW H)) : elems.length + spare.length + 1 ≤ Rows.uptoBulk (.slice elems spare) := by
  have h1 := length_leB elems
  have h2 := length_leB spare
  simp only [Rows.uptoBulk]
  omega
section
variable {H : Type} {enc : TypeId × Value → H} {W : World} {base : Nat}
/-- Words of a slice, read. -/
theorem words_openB {fuel : Nat} {cs : List Value} {x : DataW H × List MemPlace} (hb : ∀ n ∈ x.1.weights Tryz.prog 36, n ≤ reachBytes)
    (h : DataW.trod enc Tryz.prog W base (fun _ => true) true fuel 36 cs = some x) : ∃ u xs, cs = [u] ∧ WdRaw W u xs ∧ xs.length ≤ Rows.uptoBulk x.1 := by
  rcases open_ints Tryz.underlying36 Tryz.underlying34 cells_u32 h with ⟨rfl, rfl⟩ | ⟨a, len, cap, zs, rfl, _, hl, hm, hz, rfl, hcell, hwz⟩
  · exact ⟨_, [], rfl, WdRaw.nil _, Nat.zero_le _⟩
  · simp only [if_true] at hz
    have hbb := hb ((zs.take len).length * 4 + (zs.drop len).length * 4) (by
      simp only [DataW.weights, Tryz.underlying36, bytes_u32, List.mem_cons]
      exact .inl (by simp [lits]; omega))
    simp [reachBytes] at hbb
    have hlen : ((zs.take len).map Int.toNat).length = len := by simp; omega
    refine ⟨_, (zs.take len).map Int.toNat, rfl, ⟨some a, cap, by rw [hlen], ⟨by rw [hlen]; exact hl, fun h => by cases h⟩, by rw [hlen]; omega, fun z hz => ?_, fun i hi => ?_⟩, ?_⟩
    · obtain ⟨y, hy, rfl⟩ := List.mem_map.1 hz
      have := bounds_u32 (hwz y (List.mem_of_mem_take hy))
      omega
    · rw [hlen] at hi
      have hc := hcell i (by omega)
      obtain ⟨b, o, spot⟩ := a
      have hspot : spot = none := World.cell?_spot (hcell 0 (by omega))
      subst hspot
      refine ⟨b, o, rfl, ?_⟩
      have e : ((((zs.take len).map Int.toNat).getD i 0 : Nat) : Int) = zs.getD i 0 := by
        have h1 : i < zs.length := by omega
        have h2 := bounds_u32 (hwz zs[i] (List.getElem_mem _))
        simp [List.getD_eq_getElem?_getD, h1, hi]
        omega
      rw [e, ← hc]
      congr 1
      by_cases h0 : i = 0
      · subst h0; rfl
      · simp [Addr.add, h0]
    · rw [hlen]
      refine Nat.le_trans ?_ (slice_leB _ _)
      simp [lits]
      omega
set_option maxRecDepth 100000 in
theorem rats_openB {fuel : Nat} {cs : List Value} {x : DataW H × List MemPlace} (hb : ∀ n ∈ x.1.weights Tryz.prog 55, n ≤ reachBytes)
    (h : DataW.trod enc Tryz.prog W base (fun _ => true) true fuel 55 cs = some x) : ∃ u ps, cs = [u] ∧ RatsRaw W u ps ∧ ∀ r ∈ ps, r.num.length ≤ Rows.uptoBulk x.1 ∧ r.den.length ≤ Rows.uptoBulk x.1 := by
  obtain ⟨K, hK⟩ : ∃ K, K = Rows.uptoBulk x.1 := ⟨_, rfl⟩
  rw [← hK]
  rcases open_slice Tryz.underlying55 h with ⟨rfl, rfl⟩ | ⟨a, len, cap, m, n, D, Pl, rfl, _, hl, hm, hmm, rfl, hx⟩
  · exact ⟨_, [], rfl, ⟨none, 0, rfl, ⟨by simp, fun _ => rfl⟩, by simp, fun i h => by simp at h⟩, fun r hr => by cases hr⟩
  · simp only [if_true] at hmm
    have hmc := hmm.symm
    subst hmc
    have hbb := hb (cap * 56) (by
      simp only [DataW.weights, Tryz.underlying55, bytes_rat, List.mem_cons]
      refine .inl ?_
      simp; omega)
    simp [reachBytes] at hbb
    have hKD : ∀ i, i < len → Rows.uptoBulk (D i) ≤ K := fun i hi => by
      rw [hK]
      refine Nat.le_trans (part_leB (d := D i) (l := (List.range len).map D) (List.mem_map.2 ⟨i, by simpa using hi, rfl⟩)) ?_
      simp only [Rows.uptoBulk]
      omega
    have each : ∀ i, i < len → ∃ y : Rw, ∃ b o u1 u2, a = ⟨b, o, none⟩ ∧ W.rangeAt b (o + i * 3) [.bool y.neg, u1, u2] ∧ WdRaw W u1 y.num ∧ WdRaw W u2 y.den ∧ y.num.length ≤ K ∧ y.den.length ≤ K := by
      intro i hi
      obtain ⟨cs', hc, ht⟩ := hx i (by omega)
      rw [cells_rat] at hc
      obtain ⟨_, hcl, hat⟩ := World.cells?_some hc
      obtain ⟨y0, y1, y2, n', hy, hlen, g0, g1, g2⟩ := trod_struct3 Tryz.underlying38 ht
      match cs', hcl with
      | [c0, c1, c2], _ =>
        have q0 := hat 0 (by omega)
        have q1 := hat 1 (by omega)
        have q2 := hat 2 (by omega)
        simp only [List.getElem?_cons_zero, List.getElem?_cons_succ] at q0 q1 q2
        have k0 : Tryz.prog.cellsOf 4 = 1 := cells_bool
        have k2 : Tryz.prog.cellsOf 36 = 1 := cells_words
        simp only [k0, k2, List.drop_zero, List.drop_succ_cons, List.take_succ_cons, List.take_zero] at g0 g1 g2
        obtain ⟨ng, e0, hy0⟩ := DataW.trod_bool Tryz.underlying4 g0
        simp at e0
        subst e0
        have hdi : D i = .agg [y0.1, y1.1, y2.1] := by simpa using congrArg Prod.fst hy
        have hkd := hKD i hi
        rw [hdi] at hkd
        simp only [Rows.uptoBulk, Rows.uptoBulkAll] at hkd
        obtain ⟨u1, xs1, e1, hu1, hn1⟩ := words_openB (fun n hn => hb n (by
          simp only [DataW.weights, Tryz.underlying55, List.mem_cons, List.mem_append]
          refine .inr (.inl (weightsAll_mem (d := D i) (List.mem_map.2 ⟨i, by simpa using hi, rfl⟩) n ?_))
          rw [hdi]
          simp only [DataW.weights, Tryz.underlying38]
          simp only [List.map_cons, DataW.weightsEach, List.mem_append]
          exact .inr (.inl hn))) g1
        obtain ⟨u2, xs2, e2, hu2, hn2⟩ := words_openB (fun n hn => hb n (by
          simp only [DataW.weights, Tryz.underlying55, List.mem_cons, List.mem_append]
          refine .inr (.inl (weightsAll_mem (d := D i) (List.mem_map.2 ⟨i, by simpa using hi, rfl⟩) n ?_))
          rw [hdi]
          simp only [DataW.weights, Tryz.underlying38]
          simp only [List.map_cons, DataW.weightsEach, List.mem_append]
          exact .inr (.inr (.inl hn)))) g2
        simp at e1 e2
        subst e1 e2
        obtain ⟨b, o, spot⟩ := a
        have hspot : spot = none := by
          obtain ⟨cs0, hc0, _⟩ := hx 0 (by omega)
          rw [cells_rat] at hc0
          obtain ⟨_, hcl0, hat0⟩ := World.cells?_some hc0
          have h1 := hat0 0 (by omega)
          rw [List.getElem?_eq_getElem (by omega)] at h1
          exact World.cell?_spot (a := ⟨b, o, spot⟩) (by simpa [Addr.add] using h1)
        subst hspot
        refine ⟨⟨ng, xs1, xs2⟩, b, o, c1, c2, rfl, ?_, hu1, hu2, by show xs1.length ≤ K; omega, by show xs2.length ≤ K; omega⟩
        intro j v hj
        match j, hj with
        | 0, hj => simp at hj; subst hj; rw [← q0, addP, addP]
        | 1, hj => simp at hj; subst hj; rw [← q1, addP, addP]
        | 2, hj => simp at hj; subst hj; rw [← q2, addP, addP]
    obtain ⟨g, hg⟩ := choose_lt each
    refine ⟨_, (List.range len).map g, rfl, ⟨some a, cap, by simp, ⟨by simp; omega, fun h => by cases h⟩, by simp; omega, fun i hi => ?_⟩, fun r hr => ?_⟩
    rotate_left
    · obtain ⟨i, hi, rfl⟩ := List.mem_map.1 hr
      obtain ⟨_, _, _, _, _, _, _, _, h4⟩ := hg i (by simpa using hi)
      exact h4
    simp only [List.length_map, List.length_range] at hi
    obtain ⟨b, o, u1, u2, rfl, h1, h2, h3, _⟩ := hg i hi
    exact ⟨b, o, u1, u2, rfl, by simpa using h1, by simpa using h2, by simpa using h3⟩
set_option maxRecDepth 100000 in
theorem rats_argB {v : Value} {d : DataW H} {p : List MemPlace} (hv : Value.okWide Tryz.prog W .any base 55 v) (hb : ∀ n ∈ d.weights Tryz.prog 55, n ≤ reachBytes)
    (h : DataW.Trod enc Tryz.prog W 0 (fun _ => true) true 55 v d p) : ∃ xs : List Rw, RatsRaw W v xs ∧ ∀ r ∈ xs, r.num.length ≤ Rows.uptoBulk d ∧ r.den.length ≤ Rows.uptoBulk d := by
  obtain ⟨fuel, h1f⟩ := h
  obtain ⟨u, xs, e3, hps, hbb⟩ := rats_openB hb h1f
  obtain ⟨a, c, rfl, _⟩ := id hps
  obtain ⟨a2, n2, c2, h5⟩ := okWide_slice Tryz.underlying55 hv
  subst h5
  have e4 : Value.slice a xs.length c = .slice a2 n2 c2 := by simpa [Value.cells] using e3.symm
  rw [← e4]
  exact ⟨xs, hps, hbb⟩
end
set_option maxRecDepth 100000 in
theorem liftFRU {s : ChangeSpec} (F : FuncId) (fn : Func) (hs1 : s.vars = []) (hs2 : ∀ (H : Type) (d1 d2 : DataW H), s.fn H [d1, d2] = { results := [.lit (.bool true)], args := [d1, d2] })
    (hp : fn.params = #[67, 55]) (hr : fn.resultTypes = #[4])
    (walk : ∀ (W : World) (u v : Value) (f : Fm) (ps : List Rw), NodesAt W u f.nodes → FmOk f → RatsRaw W v ps → (∀ r ∈ ps, r.Short 1048576) → Calls Tryz.prog F #[fmV u f, v] W fun e w' => e = .returned (.bool true) ∧ Kept W w')
    {H : Type} {enc : TypeId × Value → H} (W : World) (base : Nat) (args : Array Value) (ds gs : List (DataW H)) (before : List MemPlace)
    (hval : ∀ (j : Nat) t v, fn.params[j]? = some t → args[j]? = some v → Value.okWide Tryz.prog W .any base t v)
    (hW : DataW.Whole enc Tryz.prog fn.params.toList s.vars false W args.toList ds gs before)
    (hsz : (DataW.weightsEach Tryz.prog (fn.params.toList ++ s.plain.varTypes Tryz.prog) (ds ++ gs)).all (· ≤ reachBytes) = true) (hbk : Rows.uptoSmall H (ds ++ gs) = true) :
    Calls Tryz.prog F args W fun e W' => ∃ v, e = .returned v ∧ s.post enc Tryz.prog fn false true false false W args v W' := by
  have hW' := hW
  obtain ⟨p, q, hA, hV, rfl, hfz, _⟩ := hW
  rw [hs1] at hV
  obtain ⟨rfl, rfl⟩ := trodVars_none hV
  rw [hp] at hA hval hsz
  obtain ⟨v0, v1, d0, d1, p0, p1, rfl, rfl, rfl, h0, h1⟩ := trodAll_two hA
  have h0k := h0
  have h1k := h1
  obtain ⟨u, f, rfl, hx, hfo⟩ := fm_open (hval 0 _ _ rfl rfl) (fun n hn => by
    have := List.all_eq_true.1 hsz n (DataW.weights_mem_each (j := 0) rfl rfl n hn)
    simpa using this) h0
  obtain ⟨ps, hps, hpb⟩ := rats_argB (hval 1 _ _ rfl rfl) (fun n hn => by
    have := List.all_eq_true.1 hsz n (DataW.weights_mem_each (j := 1) rfl rfl n hn)
    simpa using this) h1
  have hbig : ∀ r ∈ ps, r.Short 1048576 := fun r hr => by
    have h9 := of_decide_eq_true hbk
    have h8 := part_leB (d := d1) (l := [d0, d1] ++ []) (by simp)
    have h7 := hpb r hr
    exact ⟨by omega, by omega⟩
  have hlt : ∀ x ∈ p0 ++ p1, x.block < W.heap.size := fun x hx => hW'.lt x (by simpa using hx)
  refine (walk W u v1 f ps hx hfo hps hbig).mono fun e W' ⟨he, hk⟩ => ?_
  subst he
  refine ⟨_, rfl, [d0, d1], [], (p0 ++ p1) ++ [], [], p0 ++ p1, [], hW', ?_, ?_, ?_, Below.frame hk _, fun h => by cases h⟩
  · rw [hr]
    simp only [List.append_nil, hs2]
    exact trodAll_mk1 (shut_bool Tryz.underlying4 _)
  · rw [hp]
    simp only [List.append_nil, hs2]
    exact trodAll_mk2 (Below.trod laidOutK (by kernel_rfl) (of_decide_eq_true (by kernel_rfl)) h0k hk (fun x hx => hlt x (by simp [hx]))) (Below.trod laidOutK (by kernel_rfl) (of_decide_eq_true (by kernel_rfl)) h1k hk (fun x hx => hlt x (by simp [hx])))
  · rw [hs1]
    simp only [List.append_nil, hs2]
    rfl
end Go.Proofs.YtpaedhlacbpmpaaGreatDoor
