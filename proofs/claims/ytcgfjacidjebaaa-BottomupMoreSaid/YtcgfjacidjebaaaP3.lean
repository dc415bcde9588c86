/-
  Plain: formulas, and the first error of a formula.
-/
import Derived.Test.YtcgfjacidjebaaaP1
namespace Go.Proofs.Ytcgfjacidjebaaa

structure Nd where
  kind : Int
  k : Int
  args : List Int
structure Fm where
  vars : Int
  nodes : List Nd
  top : Int
def argsOk (kind : Int) (n : Nat) : Bool := if kind = 0 then decide (n = 0) else if kind = 1 then decide (n = 1) else decide (1 ≤ n ∧ n ≤ 16)
def chkK (kind k : Int) (n : Nat) : Nat := if kind = 0 then (if k = 0 ∨ k = 1 then 0 else 3) else if kind = 4 then (if 1 ≤ k ∧ k ≤ n then 0 else 3) else if k = 0 then 0 else 2
def chkNd (b : Int) (x : Nd) : Nat :=
  if x.kind < 0 ∨ 5 < x.kind then 7 else if argsOk x.kind x.args.length = false then 11
  else if x.args.all (fun a => decide (0 ≤ a ∧ a < b)) = false then 10 else chkK x.kind x.k x.args.length
def chkFrom (b : Int) : List Nd → Nat
  | [] => 0
  | x :: l => if chkNd b x = 0 then chkFrom (b + 1) l else chkNd b x
/-- arg is an event or a node. -/
def okArg (f : Fm) (arg : Int) : Bool := decide (0 ≤ f.vars ∧ 0 ≤ arg ∧ (arg < f.vars ∨ arg - f.vars < f.nodes.length))
def chkF (f : Fm) : Nat :=
  if f.vars < 0 ∨ 24 < f.vars then 3 else if 128 < f.nodes.length then 4 else if chkFrom f.vars f.nodes = 0 then (if okArg f f.top then 0 else 10) else chkFrom f.vars f.nodes
end Go.Proofs.Ytcgfjacidjebaaa
