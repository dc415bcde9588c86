/-
  The frame of the laws over a formula: an argument read as data is a formula in memory; the law's answer makes its row.
-/
import Derived.Test.YtcgfjacidjebaaaC3
import Derived.ProofKit
import Derived.OpenShut
import Derived.SizedLaws
import Derived.Lib.SmallJoins
import Derived.Deep.Slices
import Derived.Deep.Fields
import Derived.Deep.Strs
import Derived.Carry
namespace Go.Proofs.Ytcgfjacidjebaaa
open Go.RowKit Go.ChangeShapes Go.WideShapes Go.ChangeAt Go.Joins Go.Deep

theorem ownK : ownKnob Try.prog.godebug = none := by kernel_rfl
theorem laidOutK : laidOutB Try.prog = true := by kernel_rfl
theorem cells_fm : Try.prog.cellsOf 24 = 3 := by kernel_rfl
theorem cells_node : Try.prog.cellsOf 47 = 3 := by kernel_rfl
theorem cells_int : Try.prog.cellsOf 3 = 1 := by kernel_rfl
theorem cells_ints : Try.prog.cellsOf 27 = 1 := by kernel_rfl
theorem bytes_node : Try.prog.bytesOf 47 = 40 := by kernel_rfl
theorem bytes_int : Try.prog.bytesOf 3 = 8 := by kernel_rfl

theorem weightsAll_mem {H : Type} {P : Program} {e : TypeId} : ∀ {l : List (DataW H)} {d : DataW H}, d ∈ l → ∀ n ∈ d.weights P e, n ∈ DataW.weightsAll P e l
  | d' :: r, d, hd, n, hn => by
    simp only [DataW.weightsAll, List.mem_append]
    rcases List.mem_cons.1 hd with rfl | h
    · exact .inl hn
    · exact .inr (weightsAll_mem h n hn)

theorem addP (b o j : Nat) : (⟨b, o, none⟩ : Addr).add j = ⟨b, o + j, none⟩ := by unfold Addr.add; split <;> simp_all
section
variable {H : Type} {enc : TypeId × Value → H} {W : World} {base : Nat}
/-- Ints of a slice, read. -/
theorem ints_open {fuel : Nat} {cs : List Value} {x : DataW H × List MemPlace} (hb : ∀ n ∈ x.1.weights Try.prog 27, n ≤ reachBytes)
    (h : DataW.trod enc Try.prog W base (fun _ => true) true fuel 27 cs = some x) : ∃ u xs, cs = [u] ∧ IntsAt W u xs ∧ ∀ z ∈ xs, -9223372036854775808 ≤ z ∧ z ≤ 9223372036854775807 := by
  rcases open_ints Try.underlying27 Try.underlying3 cells_int h with ⟨rfl, rfl⟩ | ⟨a, len, cap, zs, rfl, _, hl, hm, hz, rfl, hcell, hwz⟩
  · exact ⟨_, [], rfl, IntsAt.nil _, by simp⟩
  · simp only [if_true] at hz
    have hbb := hb ((zs.take len).length * 8 + (zs.drop len).length * 8) (by
      simp only [DataW.weights, Try.underlying27, bytes_int, List.mem_cons]
      exact .inl (by simp [lits]; omega))
    simp [reachBytes] at hbb
    refine ⟨_, zs.take len, rfl, ⟨some a, cap, by simp; omega, ⟨by simp; omega, fun h => by cases h⟩, by simp; omega, fun i hi => ?_⟩, fun z hz => bounds_i64 (hwz z (List.mem_of_mem_take hz))⟩
    simp only [List.length_take] at hi
    have hc := hcell i (by omega)
    obtain ⟨b, o, spot⟩ := a
    have hspot : spot = none := World.cell?_spot (hcell 0 (by omega))
    subst hspot
    refine ⟨b, o, rfl, ?_⟩
    have e : (zs.take len)[i]'(by simp; omega) = zs.getD i 0 := by simp [List.getD_eq_getElem?_getD, show i < zs.length by omega]
    rw [e, ← hc]
    congr 1
    by_cases h0 : i = 0
    · subst h0; rfl
    · simp [Addr.add, h0]
instance : Inhabited Nd := ⟨⟨0, 0, []⟩⟩
/-- All numbers of a node are ints of 64 bits. -/
def NdOk (x : Nd) : Prop := (-9223372036854775808 ≤ x.kind ∧ x.kind ≤ 9223372036854775807) ∧ (-9223372036854775808 ≤ x.k ∧ x.k ≤ 9223372036854775807) ∧ ∀ z ∈ x.args, -9223372036854775808 ≤ z ∧ z ≤ 9223372036854775807
def FmOk (f : Fm) : Prop := (-9223372036854775808 ≤ f.vars ∧ f.vars ≤ 9223372036854775807) ∧ (-9223372036854775808 ≤ f.top ∧ f.top ≤ 9223372036854775807) ∧ ∀ x ∈ f.nodes, NdOk x
set_option maxRecDepth 100000 in
theorem nodes_open {fuel : Nat} {cs : List Value} {x : DataW H × List MemPlace} (hb : ∀ n ∈ x.1.weights Try.prog 22, n ≤ reachBytes)
    (h : DataW.trod enc Try.prog W base (fun _ => true) true fuel 22 cs = some x) : ∃ u xs, cs = [u] ∧ NodesAt W u xs ∧ ∀ y ∈ xs, NdOk y := by
  rcases open_slice Try.underlying22 h with ⟨rfl, rfl⟩ | ⟨a, len, cap, m, n, D, Pl, rfl, _, hl, hm, hmm, rfl, hx⟩
  · exact ⟨_, [], rfl, ⟨none, 0, rfl, ⟨by simp, fun _ => rfl⟩, by simp, fun i h => by simp at h⟩, by simp⟩
  · simp only [if_true] at hmm
    have hmc := hmm.symm
    subst hmc
    have hbb := hb (cap * 40) (by
      simp only [DataW.weights, Try.underlying22, bytes_node, List.mem_cons]
      refine .inl ?_
      simp; omega)
    simp [reachBytes] at hbb
    have each : ∀ i, i < len → ∃ y : Nd, NdOk y ∧ ∃ b o, a = ⟨b, o, none⟩ ∧ NodeAt W b (o + i * 3) y := by
      intro i hi
      obtain ⟨cs', hc, ht⟩ := hx i (by omega)
      rw [cells_node] at hc
      obtain ⟨_, hcl, hat⟩ := World.cells?_some hc
      obtain ⟨y0, y1, y2, n', hy, hlen, g0, g1, g2⟩ := trod_struct3 Try.underlying47 ht
      match cs', hcl with
      | [c0, c1, c2], _ =>
        have q0 := hat 0 (by omega)
        have q1 := hat 1 (by omega)
        have q2 := hat 2 (by omega)
        simp only [List.getElem?_cons_zero, List.getElem?_cons_succ] at q0 q1 q2
        have k0 : Try.prog.cellsOf 3 = 1 := cells_int
        have k2 : Try.prog.cellsOf 27 = 1 := cells_ints
        simp only [k0, k2, List.drop_zero, List.drop_succ_cons, List.take_succ_cons, List.take_zero] at g0 g1 g2
        obtain ⟨kd, e0, hy0, w0⟩ := DataW.trod_int Try.underlying3 g0
        obtain ⟨kk, e1, hy1, w1⟩ := DataW.trod_int Try.underlying3 g1
        simp at e0 e1
        subst e0 e1
        have hdi : D i = .agg [y0.1, y1.1, y2.1] := by simpa using congrArg Prod.fst hy
        obtain ⟨u, xs, e2, hu, hwu⟩ := ints_open (fun n hn => hb n (by
          simp only [DataW.weights, Try.underlying22, List.mem_cons, List.mem_append]
          refine .inr (.inl (weightsAll_mem (d := D i) (List.mem_map.2 ⟨i, by simpa using hi, rfl⟩) n ?_))
          rw [hdi]
          simp only [DataW.weights, Try.underlying47]
          simp only [List.map_cons, DataW.weightsEach, List.mem_append]
          exact .inr (.inr (.inl hn)))) g2
        simp at e2
        subst e2
        obtain ⟨b, o, spot⟩ := a
        have hspot : spot = none := by
          obtain ⟨cs0, hc0, _⟩ := hx 0 (by omega)
          rw [cells_node] at hc0
          obtain ⟨_, hcl0, hat0⟩ := World.cells?_some hc0
          have h1 := hat0 0 (by omega)
          rw [List.getElem?_eq_getElem (by omega)] at h1
          exact World.cell?_spot (a := ⟨b, o, spot⟩) (by simpa [Addr.add] using h1)
        subst hspot
        refine ⟨⟨kd, kk, xs⟩, ⟨bounds_i64 w0, bounds_i64 w1, hwu⟩, b, o, rfl, c2, ?_, ?_, ?_, hu⟩
        · rw [← q0, addP, addP]; rfl
        · rw [← q1, addP, addP]
        · rw [← q2, addP, addP]
    obtain ⟨g, hg⟩ := choose_lt each
    refine ⟨_, (List.range len).map g, rfl, ⟨some a, cap, by simp, ⟨by simp; omega, fun h => by cases h⟩, by simp; omega, fun i hi => ?_⟩, fun y hy => ?_⟩
    · simp only [List.length_map, List.length_range] at hi
      obtain ⟨_, b, o, rfl, h1⟩ := hg i hi
      exact ⟨b, o, rfl, by simpa using h1⟩
    · obtain ⟨i, hi, rfl⟩ := List.mem_map.1 hy
      exact (hg i (by simpa using hi)).1
set_option maxRecDepth 100000 in
/-- A formula that came in. -/
theorem fm_open {v : Value} {d : DataW H} {p : List MemPlace} (hv : Value.okWide Try.prog W .any base 24 v) (hb : ∀ n ∈ d.weights Try.prog 24, n ≤ reachBytes)
    (h : DataW.Trod enc Try.prog W 0 (fun _ => true) true 24 v d p) : ∃ u f, v = fmV u f ∧ NodesAt W u f.nodes ∧ FmOk f := by
  obtain ⟨v0, v1, v2, y0, y1, y2, n, rfl, hd, _, t0, t1, t2⟩ := open_agg3 Try.underlying24 (by kernel_rfl) cells_fm hv h
  obtain ⟨vars, e0, _, w0⟩ := DataW.trod_int Try.underlying3 t0
  obtain ⟨top, e2, _, w2⟩ := DataW.trod_int Try.underlying3 t2
  simp at e0 e2
  subst e0 e2
  obtain ⟨u, xs, e1, hu, hwu⟩ := nodes_open (fun n hn => hb n (by
    rw [hd]
    simp only [DataW.weights, Try.underlying24]
    simp only [List.map_cons, DataW.weightsEach, List.mem_append]
    exact .inr (.inl hn))) t1
  simp at e1
  subst e1
  exact ⟨v1, ⟨vars, xs, top⟩, rfl, hu, bounds_i64 w0, bounds_i64 w2, hwu⟩
end
set_option maxRecDepth 100000 in
/-- A law of one formula: from its walk to its row's step. -/
theorem lift1 {s : ChangeSpec} (F : FuncId) (fn : Func) (hs1 : s.vars = []) (hs2 : ∀ (H : Type) (d : DataW H), s.fn H [d] = { results := [.lit (.bool true)], args := [d] })
    (hp : fn.params = #[24]) (hr : fn.resultTypes = #[4])
    (walk : ∀ (W : World) (u : Value) (f : Fm), NodesAt W u f.nodes → FmOk f → Calls Try.prog F #[fmV u f] W fun e w' => e = .returned (.bool true) ∧ Kept W w')
    {H : Type} {enc : TypeId × Value → H} (W : World) (base : Nat) (args : Array Value) (ds gs : List (DataW H)) (before : List MemPlace)
    (hval : ∀ (j : Nat) t v, fn.params[j]? = some t → args[j]? = some v → Value.okWide Try.prog W .any base t v)
    (hW : DataW.Whole enc Try.prog fn.params.toList s.vars false W args.toList ds gs before)
    (hsz : (DataW.weightsEach Try.prog (fn.params.toList ++ s.plain.varTypes Try.prog) (ds ++ gs)).all (· ≤ reachBytes) = true) :
    Calls Try.prog F args W fun e W' => ∃ v, e = .returned v ∧ s.post enc Try.prog fn false true false false W args v W' := by
  have hW' := hW
  obtain ⟨p, q, hA, hV, rfl, hfz, _⟩ := hW
  rw [hs1] at hV
  obtain ⟨rfl, rfl⟩ := trodVars_none hV
  rw [hp] at hA hval hsz
  obtain ⟨v0, d0, rfl, rfl, h0⟩ := trodAll_one hA
  have h0k := h0
  obtain ⟨u, f, rfl, hn, hok⟩ := fm_open (hval 0 _ _ rfl rfl) (fun n hn => by
    have := List.all_eq_true.1 hsz n (DataW.weights_mem_each (j := 0) rfl rfl n hn)
    simpa using this) h0
  have hlt : ∀ x ∈ p, x.block < W.heap.size := fun x hx => hW'.lt x (by simp [hx])
  refine (walk W u f hn hok).mono fun e W' ⟨he, hk⟩ => ?_
  subst he
  refine ⟨_, rfl, [d0], [], p ++ [], [], p, [], hW', ?_, ?_, ?_, Below.frame hk _, fun h => by cases h⟩
  · rw [hr]
    simp only [List.append_nil, hs2]
    exact trodAll_mk1 (shut_bool Try.underlying4 _)
  · rw [hp]
    simp only [List.append_nil, hs2]
    exact trodAll_mk1 (Below.trod laidOutK (by kernel_rfl) (of_decide_eq_true (by kernel_rfl)) h0k hk hlt)
  · rw [hs1]
    simp only [List.append_nil, hs2]
    rfl
end Go.Proofs.Ytcgfjacidjebaaa
