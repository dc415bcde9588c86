/-
  No cell of these rows narrows 'for every input' (looked for: loops, veiled, ifaces, maps, wideKeys, modest, calm, conditions, laid).
  DERIVED. THE GIVEN ROWS OF THIS SEAT. 3 by the template 'for every input the law returns true; each argument reads behind the call as it read before'; 0 by the template 'total and deterministic' (their statements: YteodabnjkikogaaGreatTotals.lean).
  GIVEN WITH THE SEED: the statements are not yours to turn. If you find one false, say at which input.
  Laid BY PROGRAM, IN A SANDBOX (cutbox-rows.mjs): the forced cells as the released guide's own fill.sh prints them over the translation 13574b96b5666431… (all of the seat's roots in one cut). By AI agents, Wed Nov 11 2026. No macro, syntax, notation, axiom, sorry.
-/
import Derived.Test.YteodabnjkikogaaGreatChecked
import GoSem.Claim
import GoSem.ClaimJoined
import GoSem.ClaimMapViews
import Derived.JoinedTies
import Derived.KernelRfl
namespace Go.Proofs.YteodabnjkikogaaGreat
/- THE CELL 'sum', in the pinned program and in every row, IS THE sha256 OF THE DUMP (.gsa) THAT YteodabnjkikogaaGreatProg.lean LOADS. Nothing in Lean hashes anything: it is a label: what it is worth is what the hold of that sum in a sandbox is worth. -/
noncomputable def Tryz.pinned : Pinned := { name := "yteodabnjkikogaagreat", sum := "13574b96b5666431b0de117c7c867af647cd3d939c36811f2e7e90daabbf67c9", checked := Tryz.checked }
namespace Rows
def none {H : Type} : Left H := { results := [], args := [] }

/-- 'faultlinelaw35.TruncateProbs': WHATEVER THE INPUT: true; the input reads as it did. -/
def truncateProbsSpec : ChangeSpec := { name := "truncateProbs", fn := fun _ => fun
  | [d1, d2, d3] => { results := [.lit (.bool true)], args := [d1, d2, d3] }
  | _ => none }
def truncateProbsRow : OpenClaim := { program := "yteodabnjkikogaagreat", sum := "13574b96b5666431b0de117c7c867af647cd3d939c36811f2e7e90daabbf67c9", func := "faultline/faultlinelaw35.TruncateProbs", spec := "truncateProbs", unfollowed := true, recurses := true, apart := false }
def TruncateProbsSaid : Prop := truncateProbsRow.holds Tryz.pinned (OpenSpec.ofChange truncateProbsSpec)

/-- ITS FALSE NEIGHBOUR: 'it returns false'. Refute it at one input. -/
def truncateProbsWrong : ChangeSpec := { name := "truncateProbs", fn := fun _ => fun
  | [d1, d2, d3] => { results := [.lit (.bool false)], args := [d1, d2, d3] }
  | _ => none }
def TruncateProbsWrongFalsely : Prop := truncateProbsRow.holds Tryz.pinned (OpenSpec.ofChange truncateProbsWrong)

/-- 'faultlinelaw35.TruncateLeft': WHATEVER THE INPUT: true; the input reads as it did. -/
def truncateLeftSpec : ChangeSpec := { name := "truncateLeft", fn := fun _ => fun
  | [d1, d2] => { results := [.lit (.bool true)], args := [d1, d2] }
  | _ => none }
def truncateLeftRow : OpenClaim := { program := "yteodabnjkikogaagreat", sum := "13574b96b5666431b0de117c7c867af647cd3d939c36811f2e7e90daabbf67c9", func := "faultline/faultlinelaw35.TruncateLeft", spec := "truncateLeft", unfollowed := true, recurses := true, apart := false }
def TruncateLeftSaid : Prop := truncateLeftRow.holds Tryz.pinned (OpenSpec.ofChange truncateLeftSpec)

/-- ITS FALSE NEIGHBOUR: 'it returns false'. Refute it at one input. -/
def truncateLeftWrong : ChangeSpec := { name := "truncateLeft", fn := fun _ => fun
  | [d1, d2] => { results := [.lit (.bool false)], args := [d1, d2] }
  | _ => none }
def TruncateLeftWrongFalsely : Prop := truncateLeftRow.holds Tryz.pinned (OpenSpec.ofChange truncateLeftWrong)

/-- 'faultlinelaw35.TruncateLikely': WHATEVER THE INPUT: true; the input reads as it did. -/
def truncateLikelySpec : ChangeSpec := { name := "truncateLikely", fn := fun _ => fun
  | [d1, d2, d3] => { results := [.lit (.bool true)], args := [d1, d2, d3] }
  | _ => none }
def truncateLikelyRow : OpenClaim := { program := "yteodabnjkikogaagreat", sum := "13574b96b5666431b0de117c7c867af647cd3d939c36811f2e7e90daabbf67c9", func := "faultline/faultlinelaw35.TruncateLikely", spec := "truncateLikely", unfollowed := true, recurses := true, apart := false }
def TruncateLikelySaid : Prop := truncateLikelyRow.holds Tryz.pinned (OpenSpec.ofChange truncateLikelySpec)

/-- ITS FALSE NEIGHBOUR: 'it returns false'. Refute it at one input. -/
def truncateLikelyWrong : ChangeSpec := { name := "truncateLikely", fn := fun _ => fun
  | [d1, d2, d3] => { results := [.lit (.bool false)], args := [d1, d2, d3] }
  | _ => none }
def TruncateLikelyWrongFalsely : Prop := truncateLikelyRow.holds Tryz.pinned (OpenSpec.ofChange truncateLikelyWrong)

/- THE SECOND FORM. 'bulk': how many values and letters a reading holds, each counted each time it is reached (what is shared counts as often as it is met; a slice's spare places count too). A statement '..UptoSaid' is the law's where the arguments, and the package variables that the reading takes, are together of bulk at most 1048576: NARROWER than '..Said'. Prove '..Said' where nothing that the law and all that it calls make is longer than what came in: it says more and counts as full. Else prove '..UptoSaid'. A law counts once. -/
mutual
def uptoBulk {H : Type} : DataW H → Nat
  | .lit (.string bytes) => bytes.length + 1
  | .lit _ => 1
  | .nil => 1
  | .ptr d => uptoBulk d + 1
  | .slice elems spare => uptoBulkAll elems + uptoBulkAll spare + 1
  | .agg parts => uptoBulkAll parts + 1
  | .iface _ d => uptoBulk d + 1
  | .map entries => uptoBulkEntries entries + 1
  | .held _ => 1
def uptoBulkAll {H : Type} : List (DataW H) → Nat
  | [] => 0
  | d :: r => uptoBulk d + uptoBulkAll r
def uptoBulkEntries {H : Type} : List (Lit × DataW H) → Nat
  | [] => 0
  | x :: r => uptoBulkEntry x + uptoBulkEntries r
def uptoBulkEntry {H : Type} : Lit × DataW H → Nat
  | (.string bytes, d) => bytes.length + uptoBulk d + 1
  | (_, d) => uptoBulk d + 1
 end
def uptoSmall : (H : Type) → List (DataW H) → Bool := fun _ ds => decide (uptoBulkAll ds ≤ 1048576)
def OpenSpec.upto (s : _root_.Go.ChangeSpec) : _root_.Go.OpenSpec := { _root_.Go.OpenSpec.ofChange s with cond := some uptoSmall }

/-- 'faultlinelaw35.TruncateProbs', WHERE WHAT IT READS IS OF BULK AT MOST 1048576: true; the input reads as it did. -/
def truncateProbsUptoRow : OpenClaim := { program := "yteodabnjkikogaagreat", sum := "13574b96b5666431b0de117c7c867af647cd3d939c36811f2e7e90daabbf67c9", func := "faultline/faultlinelaw35.TruncateProbs", spec := "truncateProbs", unfollowed := true, recurses := true, apart := false, narrowed := true }
def TruncateProbsUptoSaid : Prop := truncateProbsUptoRow.holds Tryz.pinned (OpenSpec.upto truncateProbsSpec)

/-- 'faultlinelaw35.TruncateLeft', WHERE WHAT IT READS IS OF BULK AT MOST 1048576: true; the input reads as it did. -/
def truncateLeftUptoRow : OpenClaim := { program := "yteodabnjkikogaagreat", sum := "13574b96b5666431b0de117c7c867af647cd3d939c36811f2e7e90daabbf67c9", func := "faultline/faultlinelaw35.TruncateLeft", spec := "truncateLeft", unfollowed := true, recurses := true, apart := false, narrowed := true }
def TruncateLeftUptoSaid : Prop := truncateLeftUptoRow.holds Tryz.pinned (OpenSpec.upto truncateLeftSpec)

/-- 'faultlinelaw35.TruncateLikely', WHERE WHAT IT READS IS OF BULK AT MOST 1048576: true; the input reads as it did. -/
def truncateLikelyUptoRow : OpenClaim := { program := "yteodabnjkikogaagreat", sum := "13574b96b5666431b0de117c7c867af647cd3d939c36811f2e7e90daabbf67c9", func := "faultline/faultlinelaw35.TruncateLikely", spec := "truncateLikely", unfollowed := true, recurses := true, apart := false, narrowed := true }
def TruncateLikelyUptoSaid : Prop := truncateLikelyUptoRow.holds Tryz.pinned (OpenSpec.upto truncateLikelySpec)

end Rows
end Go.Proofs.YteodabnjkikogaaGreat
