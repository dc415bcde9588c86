import Derived.Test.YtpaedhlacbpmpaaGreatDoorPX1
import Derived.Test.YtpaedhlacbpmpaaGreatDoorPX2
import Derived.Test.YtpaedhlacbpmpaaGreatDoorPX3
import Derived.Test.YtpaedhlacbpmpaaGreatDoorPX4
import Derived.Test.YtpaedhlacbpmpaaGreatDoorPX5
import Derived.Test.YtpaedhlacbpmpaaGreatDoorPX6
import Derived.Test.YtpaedhlacbpmpaaGreatDoorPX7
import Derived.Test.YtpaedhlacbpmpaaGreatDoorPV8
import Derived.Test.YtpaedhlacbpmpaaGreatDoorPV1
import Derived.Test.YtpaedhlacbpmpaaGreatDoorPV2
/-
  Walks: faultlineref20.Add, Sub, Mul, Const, Event. Printed by gen_PG5.py.
-/
namespace Go.Proofs.YtpaedhlacbpmpaaGreatDoor
open Go.RowKit

theorem norm_snoc (L : Pol) (t : Nat × Rat) : normP (L ++ [t]) = plusP (normP L) t := by unfold normP; rw [List.foldl_append]; rfl
/-- What plus asks of a list that a loop has made. -/
structure NOk (P : Pol) : Prop where
  bit : ∀ t ∈ P, t.1 < 16777216
  len : P.length ≤ 16777216
  sh : ShP 17179869000 P
theorem norm_ok {L : Pol} {c : Nat} (hb : ∀ t ∈ L, t.1 < 16777216) (hl : L.length ≤ 4096) (hs : ShP c L) (hc : 1 ≤ c) (hc2 : c ≤ 100000) : NOk (normP L) := by
  refine ⟨fun t ht => ?_, Nat.le_trans (len_normP L) (by omega), norm_sh fun s => ?_⟩
  · obtain ⟨u, hu, e⟩ := mem_normP ht
    rw [e]; exact hb u hu
  · have h2 := coef_short (s := s) hc hs
    have h3 : (c + 1) * L.length ≤ (c + 1) * 4096 := Nat.mul_le_mul_left _ hl
    have h4 : (c + 1) * 4096 ≤ 100001 * 4096 := Nat.mul_le_mul_right _ (by omega)
    exact ⟨Nat.le_trans h2.1 (by omega), Nat.le_trans h2.2 (by omega)⟩
theorem rplus_ok (v : Value) (P : Pol) (s : Nat) (ng : Bool) (u1 u2 : Value) (r : Rw) (w : World) (hp : TrmsAt w v (polT P)) (hr : RatAt w (.agg #[.bool ng, u1, u2]) r) (hs : s < 16777216) (hn : NOk P) (hrs : r.Short 17179869000) :
    Calls Tryz.prog 58 #[v, .agg #[.int .i64 s, .bool ng, u1, u2]] w fun e w' => (∃ v', e = .returned v' ∧ TrmsAt w' v' (polT (plusP P (s, ratOf r)))) ∧ Kept w w' :=
  rplus_any v P s ng u1 u2 r w hp hr hs hn.bit hn.len hn.sh hrs
end Go.Proofs.YtpaedhlacbpmpaaGreatDoor
