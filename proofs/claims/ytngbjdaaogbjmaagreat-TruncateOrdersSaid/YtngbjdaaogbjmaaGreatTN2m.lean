import Derived.Test.YtngbjdaaogbjmaaGreatY2m
import Derived.Test.YtngbjdaaogbjmaaGreatK3
import Derived.Shelf.SlSortCmp.PdqK
/-
  Walks: slices.SortStableFunc at the rows of truncate: the closure, insertionSort's contract laid, swapRange, rotate.
-/
namespace Go.Proofs.YtngbjdaaogbjmaaGreat.Tr
open Go.Shelf Go.RowKit Go.Lib Go.Sort

def rcells (c : Nat) : List Value := [.int .i64 (evW c), .int .u64 (loW c), .int .u64 (hiW c)]
/-- A number as a row: its low bits. -/
def lowR (c : Nat) : Nat := c % 5708990770823839524233143877797980545530986496
theorem lowR_lt (c : Nat) : RowLt 152 (lowR c) := rowLt_of_num (Nat.lt_of_lt_of_le (Nat.mod_lt _ (by decide)) (by decide))
theorem lowR_of {c : Nat} (h : RowLt 152 c) : lowR c = c := Nat.mod_eq_of_lt (Nat.lt_of_lt_of_le (rowLt_num h) (by decide))
def encR (c : Nat) : List Value := rcells (lowR c)
def cfR (a b : Nat) : Int := (pc (lowR a) : Int) - (pc (lowR b) : Int)
theorem ltR (a b : Nat) : ltOf cfR a b = decide (pc (lowR a) < pc (lowR b)) := by
  unfold ltOf cfR
  rw [decide_eq_decide]; omega
theorem swoR : SWO (ltOf cfR) where
  irrefl x := by rw [ltR]; simp
  trans x y z h1 h2 := by rw [ltR] at *; simp at *; omega
  ntrans x y z h1 h2 := by rw [ltR] at *; simp at *; omega
theorem drewN_alloc_grow (w : World) (C : Obj) (n : Nat) : (w.alloc C).drewN n = grow (w.drewN n) #[C] := by
  rw [alloc_eq_grow]; rfl
theorem grow_two (W : World) (X Y : Obj) (n : Nat) (os : Array Obj) : grow (((W.alloc X).alloc Y).drewN n) os = grow (W.drewN n) (#[X] ++ (#[Y] ++ os)) := by
  rw [alloc_eq_grow, alloc_eq_grow]
  show grow (grow (grow (W.drewN n) #[X]) #[Y]) os = _
  rw [grow_grow, grow_grow]
set_option maxRecDepth 100000 in
theorem leastCmp (x y : Nat) (W : World) : Calls Tryz.prog 135 #[.agg (encR x).toArray, .agg (encR y).toArray] W fun e w' => e = .returned (.int .i64 (cfR x y)) ∧ ∃ q os', w' = grow (W.drewN q) os' := by
  have hx : ∀ W', Calls Tryz.prog 136 #[.agg (encR x).toArray] W' fun e w' => e = .returned (.int .i64 (pc (lowR x))) ∧ ∃ q os', w' = grow (W'.drewN q) os' := fun W' => (tsize_any (lowR_lt x) W').mono fun _ _ ⟨h1, C, n, h2⟩ => ⟨h1, n, _, h2.trans (drewN_alloc_grow W' C n)⟩
  have hy : ∀ W', Calls Tryz.prog 136 #[.agg (encR y).toArray] W' fun e w' => e = .returned (.int .i64 (pc (lowR y))) ∧ ∃ q os', w' = grow (W'.drewN q) os' := fun W' => (tsize_any (lowR_lt y) W').mono fun _ _ ⟨h1, C, n, h2⟩ => ⟨h1, n, _, h2.trans (drewN_alloc_grow W' C n)⟩
  have bx := pc_lt 152 (lowR x) (rowLt_num (lowR_lt x))
  have by' := pc_lt 152 (lowR y) (rowLt_num (lowR_lt y))
  unfold cfR
  unfold encR rcells at *
  generalize pc (lowR x) = px at *
  generalize pc (lowR y) = py at *
  generalize evW (lowR x) = x0 at *
  generalize loW (lowR x) = x1 at *
  generalize hiW (lowR x) = x2 at *
  generalize evW (lowR y) = y0 at *
  generalize loW (lowR y) = y1 at *
  generalize hiW (lowR y) = y2 at *
  have w1 : IntKind.i64.wrap ((px : Int) - (py : Int)) = (px : Int) - (py : Int) := by rw [IntKind.wrap_i64]; omega
  have mixed : Tryz.prog.follows .mixedOrders = true := by kernel_rfl
  have cx : ∀ n os, (grow ((((W.alloc (.cells #[.int .i64 x0, .int .u64 x1, .int .u64 x2] 109)).alloc (.cells #[.int .i64 y0, .int .u64 y1, .int .u64 y2] 109))).drewN n) os).cell? ⟨W.heap.size, 0, none⟩ = some (.int .i64 x0) ∧ (grow ((((W.alloc (.cells #[.int .i64 x0, .int .u64 x1, .int .u64 x2] 109)).alloc (.cells #[.int .i64 y0, .int .u64 y1, .int .u64 y2] 109))).drewN n) os).cell? ⟨W.heap.size, 1, none⟩ = some (.int .u64 x1) ∧ (grow ((((W.alloc (.cells #[.int .i64 x0, .int .u64 x1, .int .u64 x2] 109)).alloc (.cells #[.int .i64 y0, .int .u64 y1, .int .u64 y2] 109))).drewN n) os).cell? ⟨W.heap.size, 2, none⟩ = some (.int .u64 x2) := fun n os => by
    refine ⟨?_, ?_, ?_⟩ <;> (rw [cell?_grow _ _ _ (by simp; omega)]; simp)
  have cy : ∀ n os, (grow ((((W.alloc (.cells #[.int .i64 x0, .int .u64 x1, .int .u64 x2] 109)).alloc (.cells #[.int .i64 y0, .int .u64 y1, .int .u64 y2] 109))).drewN n) os).cell? ⟨W.heap.size + 1, 0, none⟩ = some (.int .i64 y0) ∧ (grow ((((W.alloc (.cells #[.int .i64 x0, .int .u64 x1, .int .u64 x2] 109)).alloc (.cells #[.int .i64 y0, .int .u64 y1, .int .u64 y2] 109))).drewN n) os).cell? ⟨W.heap.size + 1, 1, none⟩ = some (.int .u64 y1) ∧ (grow ((((W.alloc (.cells #[.int .i64 x0, .int .u64 x1, .int .u64 x2] 109)).alloc (.cells #[.int .i64 y0, .int .u64 y1, .int .u64 y2] 109))).drewN n) os).cell? ⟨W.heap.size + 1, 2, none⟩ = some (.int .u64 y2) := fun n os => by
    refine ⟨?_, ?_, ?_⟩ <;> (rw [cell?_grow _ _ _ (by simp)]; simp)
  have HX : Hid _ := hx
  have HY : Hid _ := hy
  clear hx hy
  show Calls Tryz.prog 135 #[.agg #[.int .i64 x0, .int .u64 x1, .int .u64 x2], .agg #[.int .i64 y0, .int .u64 y1, .int .u64 y2]] W _
  go_enter Tryz.func135, Tryz.ntmps135
  go_wp2
  go_quiet_grown (first | (go_at_call 136; (with_reducible refine Calls.grown_of (HX.out _))) | (go_at_call 136; (with_reducible refine Calls.grown_of (HY.out _))))
  go_wp2
  go_ret
  exact ⟨rfl, nq, _, grow_two _ _ _ _ _⟩
end Go.Proofs.YtngbjdaaogbjmaaGreat.Tr
