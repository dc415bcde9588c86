/-
  Walks: faultlinebase.Is. The frame of the laws of a formula and a small number.
-/
import Derived.Test.YtcgfjacidjebaaaF7
namespace Go.Proofs.Ytcgfjacidjebaaa
open Go.RowKit Go.ChangeShapes Go.WideShapes Go.ChangeAt Go.Joins Go.Deep

theorem as_nil (w : World) : (Instr.typeAssert .nilIface 29 45 true).run Try.prog w = .ok (.tuple #[.int .i64 0, .bool false]) w := by kernel_rfl
theorem OwnFams.sliceS {w : World} {B : Nat} {v : Value} {xss : List (List Nat)} (h : OwnFams w B v xss) : ∃ a n c, v = .slice a n c := by
  obtain ⟨us, _, ⟨_, h⟩, _⟩ := h
  rcases h with ⟨rfl, _⟩ | ⟨g, cp, _, rfl, _⟩
  · exact ⟨_, _, _, rfl⟩
  · exact ⟨_, _, _, rfl⟩
set_option maxRecDepth 100000 in
theorem is_any (q c : Nat) (hq : q ≠ 0) (w : World) : Calls Try.prog 27 #[errV q, .int .i64 c] w fun e w' => e = .returned (.bool (q == c)) ∧ w = w' := by
  rw [errV_pos hq]
  have e : ((q : Int) == (c : Int)) = (q == c) := by rw [Bool.eq_iff_iff]; simp; omega
  have HE := Lib.hid e
  clear hq e
  go_enter Try.func27, Try.ntmps27
  go_wp2
  rw [as_errno]
  go_wp2
  go_ret
  exact ⟨by rw [← HE.out]; rfl, rfl⟩
set_option maxRecDepth 100000 in
theorem is_nil (c : Nat) (w : World) : Calls Try.prog 27 #[.nilIface, .int .i64 c] w fun e w' => e = .returned (.bool false) ∧ w = w' := by
  go_enter Try.func27, Try.ntmps27
  go_wp2
  rw [as_nil]
  go_wp2
  go_ret
  exact ⟨rfl, rfl⟩
set_option maxRecDepth 100000 in
/-- A law of a formula and a number: from its walk to its row's step. -/
theorem lift2 {s : ChangeSpec} (F : FuncId) (fn : Func) (t2 : TypeId) (k2 : IntKind) (ht2 : Try.prog.underlying t2 = some (.int k2)) (hr2 : Try.prog.readableRec t2 = true) (hlt2 : t2 < Try.prog.types.size) (hs1 : s.vars = []) (hs2 : ∀ (H : Type) (d1 d2 : DataW H), s.fn H [d1, d2] = { results := [.lit (.bool true)], args := [d1, d2] })
    (hp : fn.params = #[24, t2]) (hr : fn.resultTypes = #[4])
    (walk : ∀ (W : World) (u : Value) (f : Fm) (x : Int), NodesAt W u f.nodes → FmOk f → (Lit.int k2 x).wf = true → Calls Try.prog F #[fmV u f, .int k2 x] W fun e w' => e = .returned (.bool true) ∧ Kept W w')
    {H : Type} {enc : TypeId × Value → H} (W : World) (base : Nat) (args : Array Value) (ds gs : List (DataW H)) (before : List MemPlace)
    (hval : ∀ (j : Nat) t v, fn.params[j]? = some t → args[j]? = some v → Value.okWide Try.prog W .any base t v)
    (hW : DataW.Whole enc Try.prog fn.params.toList s.vars false W args.toList ds gs before)
    (hsz : (DataW.weightsEach Try.prog (fn.params.toList ++ s.plain.varTypes Try.prog) (ds ++ gs)).all (· ≤ reachBytes) = true) :
    Calls Try.prog F args W fun e W' => ∃ v, e = .returned v ∧ s.post enc Try.prog fn false true false false W args v W' := by
  have hW' := hW
  obtain ⟨p, q, hA, hV, rfl, hfz, _⟩ := hW
  rw [hs1] at hV
  obtain ⟨rfl, rfl⟩ := trodVars_none hV
  rw [hp] at hA hval hsz
  obtain ⟨v0, v1, d0, d1, p0, p1, rfl, rfl, rfl, h0, h1⟩ := trodAll_two hA
  have h0k := h0
  have h1k := h1
  obtain ⟨u, f, rfl, hn, hok⟩ := fm_open (hval 0 _ _ rfl rfl) (fun n hn => by
    have := List.all_eq_true.1 hsz n (DataW.weights_mem_each (j := 0) rfl rfl n hn)
    simpa using this) h0
  obtain ⟨x, rfl, rfl, rfl, wx⟩ := open_int ht2 (hval 1 _ _ rfl rfl) h1
  have hlt : ∀ x ∈ p0, x.block < W.heap.size := fun x hx => hW'.lt x (by simp [hx])
  refine (walk W u f x hn hok wx).mono fun e W' ⟨he, hk⟩ => ?_
  subst he
  refine ⟨_, rfl, [d0, .lit (.int k2 x)], [], (p0 ++ []) ++ [], [], p0 ++ [], [], hW', ?_, ?_, ?_, Below.frame hk _, fun h => by cases h⟩
  · rw [hr]
    simp only [List.append_nil, hs2]
    exact trodAll_mk1 (shut_bool Try.underlying4 _)
  · rw [hp]
    simp only [List.append_nil, hs2]
    have := trodAll_mk2 (Below.trod laidOutK (by kernel_rfl) (of_decide_eq_true (by kernel_rfl)) h0k hk hlt) (Below.trod laidOutK hr2 hlt2 h1k hk (fun x hx => by cases hx))
    simpa using this
  · rw [hs1]
    simp only [List.append_nil, hs2]
    rfl
end Go.Proofs.Ytcgfjacidjebaaa
