import Derived.Test.YtiplibgnfcdlkaaQ17
import Derived.ProofKit
import Derived.OpenShut
import Derived.SizedLaws
import Derived.Lib.SmallJoins
import Derived.Deep.Slices
import Derived.Deep.Fields
import Derived.Deep.Strs
import Derived.Carry
/-
  Diagrams and lists of ints that came in; lifts of laws of such arguments. Printed by gen_EL5.py.
-/
namespace Go.Proofs.Ytiplibgnfcdlkaa
open Go.RowKit Go.ChangeShapes Go.WideShapes Go.ChangeAt Go.Joins Go.Deep

theorem ownKz : ownKnob Try.prog.godebug = none := by kernel_rfl
theorem laidOutKz : laidOutB Try.prog = true := by kernel_rfl
theorem cells_zero : Try.prog.cellsOf 24 = 2 := by kernel_rfl
theorem cells_dn : Try.prog.cellsOf 63 = 3 := by kernel_rfl
theorem cells_intz : Try.prog.cellsOf 3 = 1 := by kernel_rfl
theorem bytes_dn : Try.prog.bytesOf 63 = 24 := by kernel_rfl
theorem bytes_intz : Try.prog.bytesOf 3 = 8 := by kernel_rfl
theorem weightsAll_memz {H : Type} {P : Program} {e : TypeId} : ∀ {l : List (DataW H)} {d : DataW H}, d ∈ l → ∀ n ∈ d.weights P e, n ∈ DataW.weightsAll P e l
  | d' :: r, d, hd, n, hn => by
    simp only [DataW.weightsAll, List.mem_append]
    rcases List.mem_cons.1 hd with rfl | h
    · exact .inl hn
    · exact .inr (weightsAll_memz h n hn)
theorem addPz (b o j : Nat) : (⟨b, o, none⟩ : Addr).add j = ⟨b, o + j, none⟩ := by unfold Addr.add; split <;> simp_all
section
variable {H : Type} {enc : TypeId × Value → H} {W : World} {base : Nat}
set_option maxRecDepth 100000 in
theorem ints_openz {fuel : Nat} {cs : List Value} {x : DataW H × List MemPlace} (hb : ∀ n ∈ x.1.weights Try.prog 25, n ≤ reachBytes)
    (h : DataW.trod enc Try.prog W base (fun _ => true) true fuel 25 cs = some x) : ∃ u xs, cs = [u] ∧ IntsAt W u xs := by
  rcases open_ints Try.underlying25 Try.underlying3 cells_intz h with ⟨rfl, rfl⟩ | ⟨a, len, cap, zs, rfl, _, hl, hm, hz, rfl, hcell, hwz⟩
  · exact ⟨_, [], rfl, IntsAt.nil _⟩
  · simp only [if_true] at hz
    have hbb := hb ((zs.take len).length * 8 + (zs.drop len).length * 8) (by
      simp only [DataW.weights, Try.underlying25, bytes_intz, List.mem_cons]
      exact .inl (by simp [lits]; omega))
    simp [reachBytes] at hbb
    refine ⟨_, zs.take len, rfl, ⟨some a, cap, by simp; omega, ⟨by simp; omega, fun h => by cases h⟩, by simp; omega, fun i hi => ?_⟩⟩
    simp only [List.length_take] at hi
    have hc := hcell i (by omega)
    obtain ⟨b, o, spot⟩ := a
    have hspot : spot = none := World.cell?_spot (hcell 0 (by omega))
    subst hspot
    refine ⟨b, o, rfl, ?_⟩
    have e : (zs.take len)[i]'(by simp; omega) = zs.getD i 0 := by simp [List.getD_eq_getElem?_getD, show i < zs.length by omega]
    rw [e, ← hc]
    congr 1
    by_cases h0 : i = 0
    · subst h0; rfl
    · simp [Addr.add, h0]
set_option maxRecDepth 100000 in
theorem ints_argz {v : Value} {d : DataW H} {p : List MemPlace} (hv : Value.okWide Try.prog W .any base 25 v) (hb : ∀ n ∈ d.weights Try.prog 25, n ≤ reachBytes)
    (h : DataW.Trod enc Try.prog W 0 (fun _ => true) true 25 v d p) : ∃ xs : List Int, IntsAt W v xs := by
  obtain ⟨fuel, h1f⟩ := h
  obtain ⟨u, xs, e3, hps⟩ := ints_openz hb h1f
  obtain ⟨a, c, rfl, _⟩ := id hps
  obtain ⟨a2, n2, c2, h5⟩ := okWide_slice Try.underlying25 hv
  subst h5
  have e4 : Value.slice a xs.length c = .slice a2 n2 c2 := by simpa [Value.cells] using e3.symm
  rw [← e4]
  exact ⟨xs, hps⟩
instance : Inhabited INode := ⟨⟨0, 0, 0⟩⟩
set_option maxRecDepth 100000 in
theorem dns_open {fuel : Nat} {cs : List Value} {x : DataW H × List MemPlace} (hb : ∀ n ∈ x.1.weights Try.prog 22, n ≤ reachBytes)
    (h : DataW.trod enc Try.prog W base (fun _ => true) true fuel 22 cs = some x) : ∃ u xs, cs = [u] ∧ DnsAt W u xs := by
  rcases open_slice Try.underlying22 h with ⟨rfl, rfl⟩ | ⟨a, len, cap, m, n, D, Pl, rfl, _, hl, hm, hmm, rfl, hx⟩
  · exact ⟨_, [], rfl, DnsAt.nil _⟩
  · simp only [if_true] at hmm
    have hmc := hmm.symm
    subst hmc
    have hbb := hb (cap * 24) (by
      simp only [DataW.weights, Try.underlying22, bytes_dn, List.mem_cons]
      refine .inl ?_
      simp; omega)
    simp [reachBytes] at hbb
    have each : ∀ i, i < len → ∃ y : INode, ∃ b o, a = ⟨b, o, none⟩ ∧ W.cell? ⟨b, o + i * 3, none⟩ = some (.int .i64 y.v) ∧ W.cell? ⟨b, o + i * 3 + 1, none⟩ = some (.int .i64 y.lo) ∧ W.cell? ⟨b, o + i * 3 + 2, none⟩ = some (.int .i64 y.hi) := by
      intro i hi
      obtain ⟨cs', hc, ht⟩ := hx i (by omega)
      rw [cells_dn] at hc
      obtain ⟨_, hcl, hat⟩ := World.cells?_some hc
      obtain ⟨y0, y1, y2, n', hy, hlen, g0, g1, g2⟩ := trod_struct3 Try.underlying63 ht
      match cs', hcl with
      | [c0, c1, c2], _ =>
        have q0 := hat 0 (by omega)
        have q1 := hat 1 (by omega)
        have q2 := hat 2 (by omega)
        simp only [List.getElem?_cons_zero, List.getElem?_cons_succ] at q0 q1 q2
        have k0 : Try.prog.cellsOf 3 = 1 := cells_intz
        simp only [k0, List.drop_zero, List.drop_succ_cons, List.take_succ_cons, List.take_zero] at g0 g1 g2
        obtain ⟨v0, e0, _, _⟩ := DataW.trod_int Try.underlying3 g0
        obtain ⟨v1, e1, _, _⟩ := DataW.trod_int Try.underlying3 g1
        obtain ⟨v2, e2, _, _⟩ := DataW.trod_int Try.underlying3 g2
        simp at e0 e1 e2
        subst e0 e1 e2
        obtain ⟨b, o, spot⟩ := a
        have hspot : spot = none := by
          obtain ⟨cs0, hc0, _⟩ := hx 0 (by omega)
          rw [cells_dn] at hc0
          obtain ⟨_, hcl0, hat0⟩ := World.cells?_some hc0
          have h1 := hat0 0 (by omega)
          rw [List.getElem?_eq_getElem (by omega)] at h1
          exact World.cell?_spot (a := ⟨b, o, spot⟩) (by simpa [Addr.add] using h1)
        subst hspot
        refine ⟨⟨v0, v1, v2⟩, b, o, rfl, ?_, ?_, ?_⟩
        · rw [← q0, addPz, addPz]; rfl
        · rw [← q1, addPz, addPz]
        · rw [← q2, addPz, addPz]
    obtain ⟨g, hg⟩ := choose_lt each
    refine ⟨_, (List.range len).map g, rfl, some a, cap, by simp, ⟨by simp; omega, fun h => by cases h⟩, by simp; omega, fun i hi => ?_⟩
    simp only [List.length_map, List.length_range] at hi
    obtain ⟨b, o, rfl, h1, h2, h3⟩ := hg i hi
    exact ⟨b, o, rfl, by simpa using h1, by simpa using h2, by simpa using h3⟩
set_option maxRecDepth 100000 in
/-- A diagram that came in. -/
theorem zero_arg {v : Value} {d : DataW H} {p : List MemPlace} (hv : Value.okWide Try.prog W .any base 24 v) (hb : ∀ n ∈ d.weights Try.prog 24, n ≤ reachBytes)
    (h : DataW.Trod enc Try.prog W 0 (fun _ => true) true 24 v d p) : ∃ (L : List INode) (r : Int), ZeroAt W v L r := by
  obtain ⟨v0, v1, y0, y1, n, rfl, hd, _, t0, t1⟩ := open_agg2 Try.underlying24 (by kernel_rfl) cells_zero hv h
  obtain ⟨r, e1, _, _⟩ := DataW.trod_int Try.underlying3 t1
  simp at e1
  subst e1
  obtain ⟨u, xs, e0, hu⟩ := dns_open (fun n hn => hb n (by
    rw [hd]
    simp only [DataW.weights, Try.underlying24]
    simp only [List.map_cons, DataW.weightsEach, List.mem_append]
    exact .inl hn)) t0
  simp at e0
  subst e0
  exact ⟨xs, r, _, rfl, hu⟩
end
set_option maxRecDepth 100000 in
theorem liftZZ {s : ChangeSpec} (F : FuncId) (fn : Func) (hs1 : s.vars = []) (hs2 : ∀ (H : Type) (d0 d1 : DataW H), s.fn H [d0, d1] = { results := [.lit (.bool true)], args := [d0, d1] })
    (hp : fn.params = #[24, 24]) (hr : fn.resultTypes = #[4])
    (walk : ∀ (W : World) (v0 : Value) (x0 : List INode) (r0 : Int) (v1 : Value) (x1 : List INode) (r1 : Int), ZeroAt W v0 x0 r0 → ZeroAt W v1 x1 r1 → Calls Try.prog F #[v0, v1] W fun e w' => e = .returned (.bool true) ∧ Kept W w')
    {H : Type} {enc : TypeId × Value → H} (W : World) (base : Nat) (args : Array Value) (ds gs : List (DataW H)) (before : List MemPlace)
    (hval : ∀ (j : Nat) t v, fn.params[j]? = some t → args[j]? = some v → Value.okWide Try.prog W .any base t v)
    (hW : DataW.Whole enc Try.prog fn.params.toList s.vars false W args.toList ds gs before)
    (hsz : (DataW.weightsEach Try.prog (fn.params.toList ++ s.plain.varTypes Try.prog) (ds ++ gs)).all (· ≤ reachBytes) = true) :
    Calls Try.prog F args W fun e W' => ∃ v, e = .returned v ∧ s.post enc Try.prog fn false true false false W args v W' := by
  have hW' := hW
  obtain ⟨p, q, hA, hV, rfl, hfz, _⟩ := hW
  rw [hs1] at hV
  obtain ⟨rfl, rfl⟩ := trodVars_none hV
  rw [hp] at hA hval hsz
  obtain ⟨v0, v1, d0, d1, p0, p1, rfl, rfl, rfl, h0, h1⟩ := trodAll_two hA
  have h0k := h0
  have h1k := h1
  obtain ⟨x0, r0, g0⟩ := zero_arg (hval 0 _ _ rfl rfl) (fun n hn => by
    have := List.all_eq_true.1 hsz n (DataW.weights_mem_each (j := 0) rfl rfl n hn)
    simpa using this) h0
  obtain ⟨x1, r1, g1⟩ := zero_arg (hval 1 _ _ rfl rfl) (fun n hn => by
    have := List.all_eq_true.1 hsz n (DataW.weights_mem_each (j := 1) rfl rfl n hn)
    simpa using this) h1
  have hlt : ∀ x ∈ p0 ++ p1, x.block < W.heap.size := fun x hx => hW'.lt x (by simpa using hx)
  refine (walk W v0 x0 r0 v1 x1 r1 g0 g1).mono fun e W' ⟨he, hk⟩ => ?_
  subst he
  refine ⟨_, rfl, [d0, d1], [], (p0 ++ p1) ++ [], [], p0 ++ p1, [], hW', ?_, ?_, ?_, Below.frame hk _, fun h => by cases h⟩
  · rw [hr]
    simp only [List.append_nil, hs2]
    exact trodAll_mk1 (shut_bool Try.underlying4 _)
  · rw [hp]
    simp only [List.append_nil, hs2]
    have := trodAll_mk2 (Below.trod laidOutKz (by kernel_rfl) (of_decide_eq_true (by kernel_rfl)) h0k hk (fun x hx => hlt x (by simp [hx]))) (Below.trod laidOutKz (by kernel_rfl) (of_decide_eq_true (by kernel_rfl)) h1k hk (fun x hx => hlt x (by simp [hx])))
    simpa using this
  · rw [hs1]
    simp only [List.append_nil, hs2]
    rfl
set_option maxRecDepth 100000 in
theorem liftZZZ {s : ChangeSpec} (F : FuncId) (fn : Func) (hs1 : s.vars = []) (hs2 : ∀ (H : Type) (d0 d1 d2 : DataW H), s.fn H [d0, d1, d2] = { results := [.lit (.bool true)], args := [d0, d1, d2] })
    (hp : fn.params = #[24, 24, 24]) (hr : fn.resultTypes = #[4])
    (walk : ∀ (W : World) (v0 : Value) (x0 : List INode) (r0 : Int) (v1 : Value) (x1 : List INode) (r1 : Int) (v2 : Value) (x2 : List INode) (r2 : Int), ZeroAt W v0 x0 r0 → ZeroAt W v1 x1 r1 → ZeroAt W v2 x2 r2 → Calls Try.prog F #[v0, v1, v2] W fun e w' => e = .returned (.bool true) ∧ Kept W w')
    {H : Type} {enc : TypeId × Value → H} (W : World) (base : Nat) (args : Array Value) (ds gs : List (DataW H)) (before : List MemPlace)
    (hval : ∀ (j : Nat) t v, fn.params[j]? = some t → args[j]? = some v → Value.okWide Try.prog W .any base t v)
    (hW : DataW.Whole enc Try.prog fn.params.toList s.vars false W args.toList ds gs before)
    (hsz : (DataW.weightsEach Try.prog (fn.params.toList ++ s.plain.varTypes Try.prog) (ds ++ gs)).all (· ≤ reachBytes) = true) :
    Calls Try.prog F args W fun e W' => ∃ v, e = .returned v ∧ s.post enc Try.prog fn false true false false W args v W' := by
  have hW' := hW
  obtain ⟨p, q, hA, hV, rfl, hfz, _⟩ := hW
  rw [hs1] at hV
  obtain ⟨rfl, rfl⟩ := trodVars_none hV
  rw [hp] at hA hval hsz
  obtain ⟨v0, v1, v2, d0, d1, d2, p0, p1, p2, rfl, rfl, rfl, h0, h1, h2⟩ := trodAll_three hA
  have h0k := h0
  have h1k := h1
  have h2k := h2
  obtain ⟨x0, r0, g0⟩ := zero_arg (hval 0 _ _ rfl rfl) (fun n hn => by
    have := List.all_eq_true.1 hsz n (DataW.weights_mem_each (j := 0) rfl rfl n hn)
    simpa using this) h0
  obtain ⟨x1, r1, g1⟩ := zero_arg (hval 1 _ _ rfl rfl) (fun n hn => by
    have := List.all_eq_true.1 hsz n (DataW.weights_mem_each (j := 1) rfl rfl n hn)
    simpa using this) h1
  obtain ⟨x2, r2, g2⟩ := zero_arg (hval 2 _ _ rfl rfl) (fun n hn => by
    have := List.all_eq_true.1 hsz n (DataW.weights_mem_each (j := 2) rfl rfl n hn)
    simpa using this) h2
  have hlt : ∀ x ∈ p0 ++ p1 ++ p2, x.block < W.heap.size := fun x hx => hW'.lt x (by simpa using hx)
  refine (walk W v0 x0 r0 v1 x1 r1 v2 x2 r2 g0 g1 g2).mono fun e W' ⟨he, hk⟩ => ?_
  subst he
  refine ⟨_, rfl, [d0, d1, d2], [], (p0 ++ p1 ++ p2) ++ [], [], p0 ++ p1 ++ p2, [], hW', ?_, ?_, ?_, Below.frame hk _, fun h => by cases h⟩
  · rw [hr]
    simp only [List.append_nil, hs2]
    exact trodAll_mk1 (shut_bool Try.underlying4 _)
  · rw [hp]
    simp only [List.append_nil, hs2]
    have := trodAll_mk3 (Below.trod laidOutKz (by kernel_rfl) (of_decide_eq_true (by kernel_rfl)) h0k hk (fun x hx => hlt x (by simp [hx]))) (Below.trod laidOutKz (by kernel_rfl) (of_decide_eq_true (by kernel_rfl)) h1k hk (fun x hx => hlt x (by simp [hx]))) (Below.trod laidOutKz (by kernel_rfl) (of_decide_eq_true (by kernel_rfl)) h2k hk (fun x hx => hlt x (by simp [hx])))
    simpa using this
  · rw [hs1]
    simp only [List.append_nil, hs2]
    rfl
set_option maxRecDepth 100000 in
theorem liftZI {s : ChangeSpec} (F : FuncId) (fn : Func) (hs1 : s.vars = []) (hs2 : ∀ (H : Type) (d0 d1 : DataW H), s.fn H [d0, d1] = { results := [.lit (.bool true)], args := [d0, d1] })
    (hp : fn.params = #[24, 25]) (hr : fn.resultTypes = #[4])
    (walk : ∀ (W : World) (v0 : Value) (x0 : List INode) (r0 : Int) (v1 : Value) (x1 : List Int), ZeroAt W v0 x0 r0 → IntsAt W v1 x1 → Calls Try.prog F #[v0, v1] W fun e w' => e = .returned (.bool true) ∧ Kept W w')
    {H : Type} {enc : TypeId × Value → H} (W : World) (base : Nat) (args : Array Value) (ds gs : List (DataW H)) (before : List MemPlace)
    (hval : ∀ (j : Nat) t v, fn.params[j]? = some t → args[j]? = some v → Value.okWide Try.prog W .any base t v)
    (hW : DataW.Whole enc Try.prog fn.params.toList s.vars false W args.toList ds gs before)
    (hsz : (DataW.weightsEach Try.prog (fn.params.toList ++ s.plain.varTypes Try.prog) (ds ++ gs)).all (· ≤ reachBytes) = true) :
    Calls Try.prog F args W fun e W' => ∃ v, e = .returned v ∧ s.post enc Try.prog fn false true false false W args v W' := by
  have hW' := hW
  obtain ⟨p, q, hA, hV, rfl, hfz, _⟩ := hW
  rw [hs1] at hV
  obtain ⟨rfl, rfl⟩ := trodVars_none hV
  rw [hp] at hA hval hsz
  obtain ⟨v0, v1, d0, d1, p0, p1, rfl, rfl, rfl, h0, h1⟩ := trodAll_two hA
  have h0k := h0
  have h1k := h1
  obtain ⟨x0, r0, g0⟩ := zero_arg (hval 0 _ _ rfl rfl) (fun n hn => by
    have := List.all_eq_true.1 hsz n (DataW.weights_mem_each (j := 0) rfl rfl n hn)
    simpa using this) h0
  obtain ⟨x1, g1⟩ := ints_argz (hval 1 _ _ rfl rfl) (fun n hn => by
    have := List.all_eq_true.1 hsz n (DataW.weights_mem_each (j := 1) rfl rfl n hn)
    simpa using this) h1
  have hlt : ∀ x ∈ p0 ++ p1, x.block < W.heap.size := fun x hx => hW'.lt x (by simpa using hx)
  refine (walk W v0 x0 r0 v1 x1 g0 g1).mono fun e W' ⟨he, hk⟩ => ?_
  subst he
  refine ⟨_, rfl, [d0, d1], [], (p0 ++ p1) ++ [], [], p0 ++ p1, [], hW', ?_, ?_, ?_, Below.frame hk _, fun h => by cases h⟩
  · rw [hr]
    simp only [List.append_nil, hs2]
    exact trodAll_mk1 (shut_bool Try.underlying4 _)
  · rw [hp]
    simp only [List.append_nil, hs2]
    have := trodAll_mk2 (Below.trod laidOutKz (by kernel_rfl) (of_decide_eq_true (by kernel_rfl)) h0k hk (fun x hx => hlt x (by simp [hx]))) (Below.trod laidOutKz (by kernel_rfl) (of_decide_eq_true (by kernel_rfl)) h1k hk (fun x hx => hlt x (by simp [hx])))
    simpa using this
  · rw [hs1]
    simp only [List.append_nil, hs2]
    rfl
set_option maxRecDepth 100000 in
theorem liftZN {s : ChangeSpec} (F : FuncId) (fn : Func) (hs1 : s.vars = []) (hs2 : ∀ (H : Type) (d0 d1 : DataW H), s.fn H [d0, d1] = { results := [.lit (.bool true)], args := [d0, d1] })
    (hp : fn.params = #[24, 3]) (hr : fn.resultTypes = #[4])
    (walk : ∀ (W : World) (v0 : Value) (x0 : List INode) (r0 : Int) (x1 : Int), ZeroAt W v0 x0 r0 → (Lit.int .i64 x1).wf = true → Calls Try.prog F #[v0, .int .i64 x1] W fun e w' => e = .returned (.bool true) ∧ Kept W w')
    {H : Type} {enc : TypeId × Value → H} (W : World) (base : Nat) (args : Array Value) (ds gs : List (DataW H)) (before : List MemPlace)
    (hval : ∀ (j : Nat) t v, fn.params[j]? = some t → args[j]? = some v → Value.okWide Try.prog W .any base t v)
    (hW : DataW.Whole enc Try.prog fn.params.toList s.vars false W args.toList ds gs before)
    (hsz : (DataW.weightsEach Try.prog (fn.params.toList ++ s.plain.varTypes Try.prog) (ds ++ gs)).all (· ≤ reachBytes) = true) :
    Calls Try.prog F args W fun e W' => ∃ v, e = .returned v ∧ s.post enc Try.prog fn false true false false W args v W' := by
  have hW' := hW
  obtain ⟨p, q, hA, hV, rfl, hfz, _⟩ := hW
  rw [hs1] at hV
  obtain ⟨rfl, rfl⟩ := trodVars_none hV
  rw [hp] at hA hval hsz
  obtain ⟨v0, v1, d0, d1, p0, p1, rfl, rfl, rfl, h0, h1⟩ := trodAll_two hA
  have h0k := h0
  have h1k := h1
  obtain ⟨x0, r0, g0⟩ := zero_arg (hval 0 _ _ rfl rfl) (fun n hn => by
    have := List.all_eq_true.1 hsz n (DataW.weights_mem_each (j := 0) rfl rfl n hn)
    simpa using this) h0
  obtain ⟨x1, z1, _, _, g1⟩ := open_int Try.underlying3 (hval 1 _ _ rfl rfl) h1
  subst z1
  have hlt : ∀ x ∈ p0 ++ p1, x.block < W.heap.size := fun x hx => hW'.lt x (by simpa using hx)
  refine (walk W v0 x0 r0 x1 g0 g1).mono fun e W' ⟨he, hk⟩ => ?_
  subst he
  refine ⟨_, rfl, [d0, d1], [], (p0 ++ p1) ++ [], [], p0 ++ p1, [], hW', ?_, ?_, ?_, Below.frame hk _, fun h => by cases h⟩
  · rw [hr]
    simp only [List.append_nil, hs2]
    exact trodAll_mk1 (shut_bool Try.underlying4 _)
  · rw [hp]
    simp only [List.append_nil, hs2]
    have := trodAll_mk2 (Below.trod laidOutKz (by kernel_rfl) (of_decide_eq_true (by kernel_rfl)) h0k hk (fun x hx => hlt x (by simp [hx]))) (Below.trod laidOutKz (by kernel_rfl) (of_decide_eq_true (by kernel_rfl)) h1k hk (fun x hx => hlt x (by simp [hx])))
    simpa using this
  · rw [hs1]
    simp only [List.append_nil, hs2]
    rfl
set_option maxRecDepth 100000 in
theorem liftZIN {s : ChangeSpec} (F : FuncId) (fn : Func) (hs1 : s.vars = []) (hs2 : ∀ (H : Type) (d0 d1 d2 : DataW H), s.fn H [d0, d1, d2] = { results := [.lit (.bool true)], args := [d0, d1, d2] })
    (hp : fn.params = #[24, 25, 3]) (hr : fn.resultTypes = #[4])
    (walk : ∀ (W : World) (v0 : Value) (x0 : List INode) (r0 : Int) (v1 : Value) (x1 : List Int) (x2 : Int), ZeroAt W v0 x0 r0 → IntsAt W v1 x1 → (Lit.int .i64 x2).wf = true → Calls Try.prog F #[v0, v1, .int .i64 x2] W fun e w' => e = .returned (.bool true) ∧ Kept W w')
    {H : Type} {enc : TypeId × Value → H} (W : World) (base : Nat) (args : Array Value) (ds gs : List (DataW H)) (before : List MemPlace)
    (hval : ∀ (j : Nat) t v, fn.params[j]? = some t → args[j]? = some v → Value.okWide Try.prog W .any base t v)
    (hW : DataW.Whole enc Try.prog fn.params.toList s.vars false W args.toList ds gs before)
    (hsz : (DataW.weightsEach Try.prog (fn.params.toList ++ s.plain.varTypes Try.prog) (ds ++ gs)).all (· ≤ reachBytes) = true) :
    Calls Try.prog F args W fun e W' => ∃ v, e = .returned v ∧ s.post enc Try.prog fn false true false false W args v W' := by
  have hW' := hW
  obtain ⟨p, q, hA, hV, rfl, hfz, _⟩ := hW
  rw [hs1] at hV
  obtain ⟨rfl, rfl⟩ := trodVars_none hV
  rw [hp] at hA hval hsz
  obtain ⟨v0, v1, v2, d0, d1, d2, p0, p1, p2, rfl, rfl, rfl, h0, h1, h2⟩ := trodAll_three hA
  have h0k := h0
  have h1k := h1
  have h2k := h2
  obtain ⟨x0, r0, g0⟩ := zero_arg (hval 0 _ _ rfl rfl) (fun n hn => by
    have := List.all_eq_true.1 hsz n (DataW.weights_mem_each (j := 0) rfl rfl n hn)
    simpa using this) h0
  obtain ⟨x1, g1⟩ := ints_argz (hval 1 _ _ rfl rfl) (fun n hn => by
    have := List.all_eq_true.1 hsz n (DataW.weights_mem_each (j := 1) rfl rfl n hn)
    simpa using this) h1
  obtain ⟨x2, z2, _, _, g2⟩ := open_int Try.underlying3 (hval 2 _ _ rfl rfl) h2
  subst z2
  have hlt : ∀ x ∈ p0 ++ p1 ++ p2, x.block < W.heap.size := fun x hx => hW'.lt x (by simpa using hx)
  refine (walk W v0 x0 r0 v1 x1 x2 g0 g1 g2).mono fun e W' ⟨he, hk⟩ => ?_
  subst he
  refine ⟨_, rfl, [d0, d1, d2], [], (p0 ++ p1 ++ p2) ++ [], [], p0 ++ p1 ++ p2, [], hW', ?_, ?_, ?_, Below.frame hk _, fun h => by cases h⟩
  · rw [hr]
    simp only [List.append_nil, hs2]
    exact trodAll_mk1 (shut_bool Try.underlying4 _)
  · rw [hp]
    simp only [List.append_nil, hs2]
    have := trodAll_mk3 (Below.trod laidOutKz (by kernel_rfl) (of_decide_eq_true (by kernel_rfl)) h0k hk (fun x hx => hlt x (by simp [hx]))) (Below.trod laidOutKz (by kernel_rfl) (of_decide_eq_true (by kernel_rfl)) h1k hk (fun x hx => hlt x (by simp [hx]))) (Below.trod laidOutKz (by kernel_rfl) (of_decide_eq_true (by kernel_rfl)) h2k hk (fun x hx => hlt x (by simp [hx])))
    simpa using this
  · rw [hs1]
    simp only [List.append_nil, hs2]
    rfl
set_option maxRecDepth 100000 in
theorem liftZNN {s : ChangeSpec} (F : FuncId) (fn : Func) (hs1 : s.vars = []) (hs2 : ∀ (H : Type) (d0 d1 d2 : DataW H), s.fn H [d0, d1, d2] = { results := [.lit (.bool true)], args := [d0, d1, d2] })
    (hp : fn.params = #[24, 3, 3]) (hr : fn.resultTypes = #[4])
    (walk : ∀ (W : World) (v0 : Value) (x0 : List INode) (r0 : Int) (x1 : Int) (x2 : Int), ZeroAt W v0 x0 r0 → (Lit.int .i64 x1).wf = true → (Lit.int .i64 x2).wf = true → Calls Try.prog F #[v0, .int .i64 x1, .int .i64 x2] W fun e w' => e = .returned (.bool true) ∧ Kept W w')
    {H : Type} {enc : TypeId × Value → H} (W : World) (base : Nat) (args : Array Value) (ds gs : List (DataW H)) (before : List MemPlace)
    (hval : ∀ (j : Nat) t v, fn.params[j]? = some t → args[j]? = some v → Value.okWide Try.prog W .any base t v)
    (hW : DataW.Whole enc Try.prog fn.params.toList s.vars false W args.toList ds gs before)
    (hsz : (DataW.weightsEach Try.prog (fn.params.toList ++ s.plain.varTypes Try.prog) (ds ++ gs)).all (· ≤ reachBytes) = true) :
    Calls Try.prog F args W fun e W' => ∃ v, e = .returned v ∧ s.post enc Try.prog fn false true false false W args v W' := by
  have hW' := hW
  obtain ⟨p, q, hA, hV, rfl, hfz, _⟩ := hW
  rw [hs1] at hV
  obtain ⟨rfl, rfl⟩ := trodVars_none hV
  rw [hp] at hA hval hsz
  obtain ⟨v0, v1, v2, d0, d1, d2, p0, p1, p2, rfl, rfl, rfl, h0, h1, h2⟩ := trodAll_three hA
  have h0k := h0
  have h1k := h1
  have h2k := h2
  obtain ⟨x0, r0, g0⟩ := zero_arg (hval 0 _ _ rfl rfl) (fun n hn => by
    have := List.all_eq_true.1 hsz n (DataW.weights_mem_each (j := 0) rfl rfl n hn)
    simpa using this) h0
  obtain ⟨x1, z1, _, _, g1⟩ := open_int Try.underlying3 (hval 1 _ _ rfl rfl) h1
  subst z1
  obtain ⟨x2, z2, _, _, g2⟩ := open_int Try.underlying3 (hval 2 _ _ rfl rfl) h2
  subst z2
  have hlt : ∀ x ∈ p0 ++ p1 ++ p2, x.block < W.heap.size := fun x hx => hW'.lt x (by simpa using hx)
  refine (walk W v0 x0 r0 x1 x2 g0 g1 g2).mono fun e W' ⟨he, hk⟩ => ?_
  subst he
  refine ⟨_, rfl, [d0, d1, d2], [], (p0 ++ p1 ++ p2) ++ [], [], p0 ++ p1 ++ p2, [], hW', ?_, ?_, ?_, Below.frame hk _, fun h => by cases h⟩
  · rw [hr]
    simp only [List.append_nil, hs2]
    exact trodAll_mk1 (shut_bool Try.underlying4 _)
  · rw [hp]
    simp only [List.append_nil, hs2]
    have := trodAll_mk3 (Below.trod laidOutKz (by kernel_rfl) (of_decide_eq_true (by kernel_rfl)) h0k hk (fun x hx => hlt x (by simp [hx]))) (Below.trod laidOutKz (by kernel_rfl) (of_decide_eq_true (by kernel_rfl)) h1k hk (fun x hx => hlt x (by simp [hx]))) (Below.trod laidOutKz (by kernel_rfl) (of_decide_eq_true (by kernel_rfl)) h2k hk (fun x hx => hlt x (by simp [hx])))
    simpa using this
  · rw [hs1]
    simp only [List.append_nil, hs2]
    rfl
end Go.Proofs.Ytiplibgnfcdlkaa
