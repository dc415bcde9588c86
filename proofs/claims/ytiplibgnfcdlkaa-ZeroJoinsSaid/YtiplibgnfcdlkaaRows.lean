/-
  No cell of these rows narrows 'for every input' (looked for: loops, veiled, ifaces, maps, wideKeys, modest, calm, conditions, laid).
  DERIVED. THE GIVEN ROWS OF THIS SEAT. 7 by the template 'for every input the law returns true; each argument reads behind the call as it read before'; 0 by the template 'total and deterministic' (their statements: YtiplibgnfcdlkaaTotals.lean).
  GIVEN WITH THE SEED: the statements are not yours to turn. If you find one false, say at which input.
  Laid BY PROGRAM, IN A SANDBOX (cutbox-rows.mjs): the forced cells as the released guide's own fill.sh prints them over the translation 9ef9edf0992c17a6… (all of the seat's roots in one cut). By AI agents, Wed Nov 11 2026. No macro, syntax, notation, axiom, sorry.
-/
import Derived.Test.YtiplibgnfcdlkaaChecked
import GoSem.Claim
import GoSem.ClaimJoined
import GoSem.ClaimMapViews
import Derived.JoinedTies
import Derived.KernelRfl
namespace Go.Proofs.Ytiplibgnfcdlkaa
/- THE CELL 'sum', in the pinned program and in every row, IS THE sha256 OF THE DUMP (.gsa) THAT YtiplibgnfcdlkaaProg.lean LOADS. Nothing in Lean hashes anything: it is a label: what it is worth is what the hold of that sum in a sandbox is worth. -/
noncomputable def Try.pinned : Pinned := { name := "ytiplibgnfcdlkaa", sum := "9ef9edf0992c17a6c0ae33dd6a5cf464dba135cb78db6a5e629db077cda973d0", checked := Try.checked }
namespace Rows
def none {H : Type} : Left H := { results := [], args := [] }

/-- 'faultlinelaw18.ZeroMakes': WHATEVER THE INPUT: true; the input reads as it did. -/
def zeroMakesSpec : ChangeSpec := { name := "zeroMakes", fn := fun _ => fun
  | [d1, d2] => { results := [.lit (.bool true)], args := [d1, d2] }
  | _ => none }
def zeroMakesRow : OpenClaim := { program := "ytiplibgnfcdlkaa", sum := "9ef9edf0992c17a6c0ae33dd6a5cf464dba135cb78db6a5e629db077cda973d0", func := "faultline/faultlinelaw18.ZeroMakes", spec := "zeroMakes", unfollowed := true, recurses := true, plainKeys := false, apart := false }
def ZeroMakesSaid : Prop := zeroMakesRow.holds Try.pinned (OpenSpec.ofChange zeroMakesSpec)

/-- ITS FALSE NEIGHBOUR: 'it returns false'. Refute it at one input. -/
def zeroMakesWrong : ChangeSpec := { name := "zeroMakes", fn := fun _ => fun
  | [d1, d2] => { results := [.lit (.bool false)], args := [d1, d2] }
  | _ => none }
def ZeroMakesWrongFalsely : Prop := zeroMakesRow.holds Try.pinned (OpenSpec.ofChange zeroMakesWrong)

/-- 'faultlinelaw18.ZeroMinimal': WHATEVER THE INPUT: true; the input reads as it did. -/
def zeroMinimalSpec : ChangeSpec := { name := "zeroMinimal", fn := fun _ => fun
  | [d1, d2] => { results := [.lit (.bool true)], args := [d1, d2] }
  | _ => none }
def zeroMinimalRow : OpenClaim := { program := "ytiplibgnfcdlkaa", sum := "9ef9edf0992c17a6c0ae33dd6a5cf464dba135cb78db6a5e629db077cda973d0", func := "faultline/faultlinelaw18.ZeroMinimal", spec := "zeroMinimal", unfollowed := true, recurses := true, plainKeys := false, apart := false }
def ZeroMinimalSaid : Prop := zeroMinimalRow.holds Try.pinned (OpenSpec.ofChange zeroMinimalSpec)

/-- ITS FALSE NEIGHBOUR: 'it returns false'. Refute it at one input. -/
def zeroMinimalWrong : ChangeSpec := { name := "zeroMinimal", fn := fun _ => fun
  | [d1, d2] => { results := [.lit (.bool false)], args := [d1, d2] }
  | _ => none }
def ZeroMinimalWrongFalsely : Prop := zeroMinimalRow.holds Try.pinned (OpenSpec.ofChange zeroMinimalWrong)

/-- 'faultlinelaw18.ZeroReturns': WHATEVER THE INPUT: true; the input reads as it did. -/
def zeroReturnsSpec : ChangeSpec := { name := "zeroReturns", fn := fun _ => fun
  | [d1, d2, d3] => { results := [.lit (.bool true)], args := [d1, d2, d3] }
  | _ => none }
def zeroReturnsRow : OpenClaim := { program := "ytiplibgnfcdlkaa", sum := "9ef9edf0992c17a6c0ae33dd6a5cf464dba135cb78db6a5e629db077cda973d0", func := "faultline/faultlinelaw18.ZeroReturns", spec := "zeroReturns", unfollowed := true, recurses := true, plainKeys := false, apart := false }
def ZeroReturnsSaid : Prop := zeroReturnsRow.holds Try.pinned (OpenSpec.ofChange zeroReturnsSpec)

/-- ITS FALSE NEIGHBOUR: 'it returns false'. Refute it at one input. -/
def zeroReturnsWrong : ChangeSpec := { name := "zeroReturns", fn := fun _ => fun
  | [d1, d2, d3] => { results := [.lit (.bool false)], args := [d1, d2, d3] }
  | _ => none }
def ZeroReturnsWrongFalsely : Prop := zeroReturnsRow.holds Try.pinned (OpenSpec.ofChange zeroReturnsWrong)

/-- 'faultlinelaw18.ZeroJoins': WHATEVER THE INPUT: true; the input reads as it did. -/
def zeroJoinsSpec : ChangeSpec := { name := "zeroJoins", fn := fun _ => fun
  | [d1, d2, d3] => { results := [.lit (.bool true)], args := [d1, d2, d3] }
  | _ => none }
def zeroJoinsRow : OpenClaim := { program := "ytiplibgnfcdlkaa", sum := "9ef9edf0992c17a6c0ae33dd6a5cf464dba135cb78db6a5e629db077cda973d0", func := "faultline/faultlinelaw18.ZeroJoins", spec := "zeroJoins", unfollowed := true, recurses := true, plainKeys := false, apart := false }
def ZeroJoinsSaid : Prop := zeroJoinsRow.holds Try.pinned (OpenSpec.ofChange zeroJoinsSpec)

/-- ITS FALSE NEIGHBOUR: 'it returns false'. Refute it at one input. -/
def zeroJoinsWrong : ChangeSpec := { name := "zeroJoins", fn := fun _ => fun
  | [d1, d2, d3] => { results := [.lit (.bool false)], args := [d1, d2, d3] }
  | _ => none }
def ZeroJoinsWrongFalsely : Prop := zeroJoinsRow.holds Try.pinned (OpenSpec.ofChange zeroJoinsWrong)

/-- 'faultlinelaw18.ZeroReads': WHATEVER THE INPUT: true; the input reads as it did. -/
def zeroReadsSpec : ChangeSpec := { name := "zeroReads", fn := fun _ => fun
  | [d1, d2] => { results := [.lit (.bool true)], args := [d1, d2] }
  | _ => none }
def zeroReadsRow : OpenClaim := { program := "ytiplibgnfcdlkaa", sum := "9ef9edf0992c17a6c0ae33dd6a5cf464dba135cb78db6a5e629db077cda973d0", func := "faultline/faultlinelaw18.ZeroReads", spec := "zeroReads", unfollowed := true, recurses := true, plainKeys := false, apart := false }
def ZeroReadsSaid : Prop := zeroReadsRow.holds Try.pinned (OpenSpec.ofChange zeroReadsSpec)

/-- ITS FALSE NEIGHBOUR: 'it returns false'. Refute it at one input. -/
def zeroReadsWrong : ChangeSpec := { name := "zeroReads", fn := fun _ => fun
  | [d1, d2] => { results := [.lit (.bool false)], args := [d1, d2] }
  | _ => none }
def ZeroReadsWrongFalsely : Prop := zeroReadsRow.holds Try.pinned (OpenSpec.ofChange zeroReadsWrong)

/-- 'faultlinelaw18.ZeroPicks': WHATEVER THE INPUT: true; the input reads as it did. -/
def zeroPicksSpec : ChangeSpec := { name := "zeroPicks", fn := fun _ => fun
  | [d1, d2, d3] => { results := [.lit (.bool true)], args := [d1, d2, d3] }
  | _ => none }
def zeroPicksRow : OpenClaim := { program := "ytiplibgnfcdlkaa", sum := "9ef9edf0992c17a6c0ae33dd6a5cf464dba135cb78db6a5e629db077cda973d0", func := "faultline/faultlinelaw18.ZeroPicks", spec := "zeroPicks", unfollowed := true, recurses := true, plainKeys := false, apart := false }
def ZeroPicksSaid : Prop := zeroPicksRow.holds Try.pinned (OpenSpec.ofChange zeroPicksSpec)

/-- ITS FALSE NEIGHBOUR: 'it returns false'. Refute it at one input. -/
def zeroPicksWrong : ChangeSpec := { name := "zeroPicks", fn := fun _ => fun
  | [d1, d2, d3] => { results := [.lit (.bool false)], args := [d1, d2, d3] }
  | _ => none }
def ZeroPicksWrongFalsely : Prop := zeroPicksRow.holds Try.pinned (OpenSpec.ofChange zeroPicksWrong)

/-- 'faultlinelaw18.ZeroDivides': WHATEVER THE INPUT: true; the input reads as it did. -/
def zeroDividesSpec : ChangeSpec := { name := "zeroDivides", fn := fun _ => fun
  | [d1, d2] => { results := [.lit (.bool true)], args := [d1, d2] }
  | _ => none }
def zeroDividesRow : OpenClaim := { program := "ytiplibgnfcdlkaa", sum := "9ef9edf0992c17a6c0ae33dd6a5cf464dba135cb78db6a5e629db077cda973d0", func := "faultline/faultlinelaw18.ZeroDivides", spec := "zeroDivides", unfollowed := true, recurses := true, plainKeys := false, apart := false }
def ZeroDividesSaid : Prop := zeroDividesRow.holds Try.pinned (OpenSpec.ofChange zeroDividesSpec)

/-- ITS FALSE NEIGHBOUR: 'it returns false'. Refute it at one input. -/
def zeroDividesWrong : ChangeSpec := { name := "zeroDivides", fn := fun _ => fun
  | [d1, d2] => { results := [.lit (.bool false)], args := [d1, d2] }
  | _ => none }
def ZeroDividesWrongFalsely : Prop := zeroDividesRow.holds Try.pinned (OpenSpec.ofChange zeroDividesWrong)

/- THE SECOND FORM. 'bulk': how many values and letters a reading holds, each counted each time it is reached (what is shared counts as often as it is met; a slice's spare places count too). A statement '..UptoSaid' is the law's where the arguments, and the package variables that the reading takes, are together of bulk at most 1048576: NARROWER than '..Said'. Prove '..Said' where nothing that the law and all that it calls make is longer than what came in: it says more and counts as full. Else prove '..UptoSaid'. A law counts once. -/
mutual
def uptoBulk {H : Type} : DataW H → Nat
  | .lit (.string bytes) => bytes.length + 1
  | .lit _ => 1
  | .nil => 1
  | .ptr d => uptoBulk d + 1
  | .slice elems spare => uptoBulkAll elems + uptoBulkAll spare + 1
  | .agg parts => uptoBulkAll parts + 1
  | .iface _ d => uptoBulk d + 1
  | .map entries => uptoBulkEntries entries + 1
  | .held _ => 1
def uptoBulkAll {H : Type} : List (DataW H) → Nat
  | [] => 0
  | d :: r => uptoBulk d + uptoBulkAll r
def uptoBulkEntries {H : Type} : List (Lit × DataW H) → Nat
  | [] => 0
  | x :: r => uptoBulkEntry x + uptoBulkEntries r
def uptoBulkEntry {H : Type} : Lit × DataW H → Nat
  | (.string bytes, d) => bytes.length + uptoBulk d + 1
  | (_, d) => uptoBulk d + 1
 end
def uptoSmall : (H : Type) → List (DataW H) → Bool := fun _ ds => decide (uptoBulkAll ds ≤ 1048576)
def OpenSpec.upto (s : _root_.Go.ChangeSpec) : _root_.Go.OpenSpec := { _root_.Go.OpenSpec.ofChange s with cond := some uptoSmall }

/-- 'faultlinelaw18.ZeroMakes', WHERE WHAT IT READS IS OF BULK AT MOST 1048576: true; the input reads as it did. -/
def zeroMakesUptoRow : OpenClaim := { program := "ytiplibgnfcdlkaa", sum := "9ef9edf0992c17a6c0ae33dd6a5cf464dba135cb78db6a5e629db077cda973d0", func := "faultline/faultlinelaw18.ZeroMakes", spec := "zeroMakes", unfollowed := true, recurses := true, plainKeys := false, apart := false, narrowed := true }
def ZeroMakesUptoSaid : Prop := zeroMakesUptoRow.holds Try.pinned (OpenSpec.upto zeroMakesSpec)

/-- 'faultlinelaw18.ZeroMinimal', WHERE WHAT IT READS IS OF BULK AT MOST 1048576: true; the input reads as it did. -/
def zeroMinimalUptoRow : OpenClaim := { program := "ytiplibgnfcdlkaa", sum := "9ef9edf0992c17a6c0ae33dd6a5cf464dba135cb78db6a5e629db077cda973d0", func := "faultline/faultlinelaw18.ZeroMinimal", spec := "zeroMinimal", unfollowed := true, recurses := true, plainKeys := false, apart := false, narrowed := true }
def ZeroMinimalUptoSaid : Prop := zeroMinimalUptoRow.holds Try.pinned (OpenSpec.upto zeroMinimalSpec)

/-- 'faultlinelaw18.ZeroReturns', WHERE WHAT IT READS IS OF BULK AT MOST 1048576: true; the input reads as it did. -/
def zeroReturnsUptoRow : OpenClaim := { program := "ytiplibgnfcdlkaa", sum := "9ef9edf0992c17a6c0ae33dd6a5cf464dba135cb78db6a5e629db077cda973d0", func := "faultline/faultlinelaw18.ZeroReturns", spec := "zeroReturns", unfollowed := true, recurses := true, plainKeys := false, apart := false, narrowed := true }
def ZeroReturnsUptoSaid : Prop := zeroReturnsUptoRow.holds Try.pinned (OpenSpec.upto zeroReturnsSpec)

/-- 'faultlinelaw18.ZeroJoins', WHERE WHAT IT READS IS OF BULK AT MOST 1048576: true; the input reads as it did. -/
def zeroJoinsUptoRow : OpenClaim := { program := "ytiplibgnfcdlkaa", sum := "9ef9edf0992c17a6c0ae33dd6a5cf464dba135cb78db6a5e629db077cda973d0", func := "faultline/faultlinelaw18.ZeroJoins", spec := "zeroJoins", unfollowed := true, recurses := true, plainKeys := false, apart := false, narrowed := true }
def ZeroJoinsUptoSaid : Prop := zeroJoinsUptoRow.holds Try.pinned (OpenSpec.upto zeroJoinsSpec)

/-- 'faultlinelaw18.ZeroReads', WHERE WHAT IT READS IS OF BULK AT MOST 1048576: true; the input reads as it did. -/
def zeroReadsUptoRow : OpenClaim := { program := "ytiplibgnfcdlkaa", sum := "9ef9edf0992c17a6c0ae33dd6a5cf464dba135cb78db6a5e629db077cda973d0", func := "faultline/faultlinelaw18.ZeroReads", spec := "zeroReads", unfollowed := true, recurses := true, plainKeys := false, apart := false, narrowed := true }
def ZeroReadsUptoSaid : Prop := zeroReadsUptoRow.holds Try.pinned (OpenSpec.upto zeroReadsSpec)

/-- 'faultlinelaw18.ZeroPicks', WHERE WHAT IT READS IS OF BULK AT MOST 1048576: true; the input reads as it did. -/
def zeroPicksUptoRow : OpenClaim := { program := "ytiplibgnfcdlkaa", sum := "9ef9edf0992c17a6c0ae33dd6a5cf464dba135cb78db6a5e629db077cda973d0", func := "faultline/faultlinelaw18.ZeroPicks", spec := "zeroPicks", unfollowed := true, recurses := true, plainKeys := false, apart := false, narrowed := true }
def ZeroPicksUptoSaid : Prop := zeroPicksUptoRow.holds Try.pinned (OpenSpec.upto zeroPicksSpec)

/-- 'faultlinelaw18.ZeroDivides', WHERE WHAT IT READS IS OF BULK AT MOST 1048576: true; the input reads as it did. -/
def zeroDividesUptoRow : OpenClaim := { program := "ytiplibgnfcdlkaa", sum := "9ef9edf0992c17a6c0ae33dd6a5cf464dba135cb78db6a5e629db077cda973d0", func := "faultline/faultlinelaw18.ZeroDivides", spec := "zeroDivides", unfollowed := true, recurses := true, plainKeys := false, apart := false, narrowed := true }
def ZeroDividesUptoSaid : Prop := zeroDividesUptoRow.holds Try.pinned (OpenSpec.upto zeroDividesSpec)

end Rows
end Go.Proofs.Ytiplibgnfcdlkaa
