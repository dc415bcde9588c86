import Derived.Test.YtpaedhlacbpmpaaGreatDoorPX1
import Derived.Test.YtpaedhlacbpmpaaGreatDoorPX2
import Derived.Test.YtpaedhlacbpmpaaGreatDoorPX3
import Derived.Test.YtpaedhlacbpmpaaGreatDoorPX4
import Derived.Test.YtpaedhlacbpmpaaGreatDoorPX5
import Derived.Test.YtpaedhlacbpmpaaGreatDoorPX6
import Derived.Test.YtpaedhlacbpmpaaGreatDoorPX7
import Derived.Test.YtpaedhlacbpmpaaGreatDoorPX8
import Derived.Test.YtpaedhlacbpmpaaGreatDoorPW1
/-
  Plain: the value of a formula's polynomial is the sum over the states in which the formula is true.
-/
namespace Go.Proofs.YtpaedhlacbpmpaaGreatDoor
open Go.RowKit

theorem ev_below {ps : List Rw} {r : Pol} {V : Nat} (hV : V ≤ ps.length) (h24 : V ≤ 24) (hb : ∀ t ∈ r, ∀ i, t.1.testBit i = true → i < V) : evQ ps r = evalP (qOf ps) V r := by
  unfold evQ evalP
  refine sumP_congr fun t ht => ?_
  rw [pQ_prod, pQ_prod]
  exact prodQ_high (fun i hi => by
    cases h : t.1.testBit i with
    | false => rfl
    | true => exact absurd (hb t ht i h) (by omega)) (by omega)
theorem chances_eq {V T : Nat} {f : Fm} (hok : Ok f V T) {r : Pol} (hr : topP V T f.nodes = some r) {ps : List Rw} (hV : V ≤ ps.length) (hpo : ∀ x ∈ ps, x.Ok) (hbad : badR ps = false) :
    evQ ps r = stS ps V T f (2 ^ V) ∧ probR (canR (evQ ps r)) = true := by
  have hb := topP_bits hok hr
  have hv := topP_v hok hr
  have hu := qOf_unit hpo hbad
  have e : evQ ps r = EX (qOf ps) V (fun s => ind ((valsK V s f.nodes).getD T false)) := by
    rw [ev_below hV hok.v24 hb, evalP_EX hb]
    exact EX_congr fun s _ => hv.val s
  have h01 := EX_unit (q := qOf ps) (n := V) (F := fun s => ind ((valsK V s f.nodes).getD T false)) (fun i hi => hu i (by omega)) (fun s _ => by
    show 0 ≤ ind _ ∧ ind _ ≤ 1
    unfold ind
    split
    · exact ⟨by decide +kernel, by decide +kernel⟩
    · exact ⟨by decide +kernel, by decide +kernel⟩)
  rw [← e] at h01
  refine ⟨?_, prob_can h01.1 h01.2⟩
  rw [e, EX_sum]
  unfold stS
  refine sumTo_congr fun s _ => ?_
  show ind _ * _ = _
  unfold ind
  by_cases h : (valsK V s f.nodes).getD T false = true
  · rw [if_pos h, if_pos h]; exact Rat.one_mul _
  · rw [if_neg h, if_neg h]; exact Rat.zero_mul _
theorem stS_shortL {ps : List Rw} {V T : Nat} {f : Fm} (hV : V ≤ ps.length) (h6 : V ≤ 6) (hs : ∀ r ∈ ps, r.Short 3) (hok : ∀ r ∈ ps, r.Ok) : ∀ k, (canR (stS ps V T f k)).Short (38 * k + 1) := by
  intro k
  induction k with
  | zero => exact ⟨Nat.zero_le _, Nat.zero_le _⟩
  | succ k ih =>
    cases hb : (valsK V k f.nodes).getD T false with
    | true =>
      have hq := stQ_short (s := k) hs hok V hV
      have h := short_add (canR_ok (stS ps V T f k)) (canR_ok (stQ (qOf ps) k V)) ih hq (by omega) (by omega)
      rw [ratOf_can, ratOf_can, ← stS_true hb] at h
      exact ⟨Nat.le_trans h.1 (by omega), Nat.le_trans h.2 (by omega)⟩
    | false =>
      rw [stS_false hb]
      exact ⟨Nat.le_trans ih.1 (by omega), Nat.le_trans ih.2 (by omega)⟩
theorem eval_top {V T : Nat} {f : Fm} (hok : Ok f V T) {r : Pol} (hr : topP V T f.nodes = some r) {ps : List Rw} (hV : V ≤ ps.length) : ∀ t ∈ r, gtK t.1 < (ps.length : Int) := fun t ht => by
  have hb := topP_bits hok hr t ht
  have hv := topP_v hok hr
  have h24 := hv.bit t ht
  have h : ∀ i, V ≤ i → t.1.testBit i = false := fun i hi => by
    cases h : t.1.testBit i with
    | false => rfl
    | true => exact absurd (hb i h) (by omega)
  have hlt : t.1 < 2 ^ V := Nat.lt_pow_two_of_testBit _ h
  have := Lib.bitLen_le t.1 V (by have := hok.v24; omega) hlt
  unfold gtK
  omega
end Go.Proofs.YtpaedhlacbpmpaaGreatDoor
