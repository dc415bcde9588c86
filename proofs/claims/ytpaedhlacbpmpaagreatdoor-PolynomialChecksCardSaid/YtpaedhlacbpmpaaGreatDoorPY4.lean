import Derived.Test.YtpaedhlacbpmpaaGreatDoorPX1
import Derived.Test.YtpaedhlacbpmpaaGreatDoorPX2
import Derived.Test.YtpaedhlacbpmpaaGreatDoorPX3
import Derived.Test.YtpaedhlacbpmpaaGreatDoorPX4
import Derived.Test.YtpaedhlacbpmpaaGreatDoorPX5
import Derived.Test.YtpaedhlacbpmpaaGreatDoorPX6
import Derived.Test.YtpaedhlacbpmpaaGreatDoorPX7
import Derived.Test.YtpaedhlacbpmpaaGreatDoorPX8
import Derived.Test.YtpaedhlacbpmpaaGreatDoorPZ1
import Derived.Test.YtpaedhlacbpmpaaGreatDoorPZ2
import Derived.Test.YtpaedhlacbpmpaaGreatDoorPZ7
import Derived.Test.YtpaedhlacbpmpaaGreatDoorPZ8
import Derived.Test.YtpaedhlacbpmpaaGreatDoorRows
import Derived.Test.YtpaedhlacbpmpaaGreatDoorChecked
import Derived.Test.YtpaedhlacbpmpaaGreatDoorCards
import Derived.Test.YtpaedhlacbpmpaaGreatDoorTie
import Derived.ProofKit
import Derived.OpenShut
import Derived.LaidMore
import Derived.Lay
import Derived.SevenTiedAt
import Derived.Stop.Joined
/-
  The law PolynomialChecks: its lift and its tied card.
-/
namespace Go.Proofs.YtpaedhlacbpmpaaGreatDoor
open Go.RowKit Go.ChangeShapes Go.WideShapes Go.ChangeAt

open Go.Joins Go.Deep
theorem polynomialChecks_fact0 : (Rows.polynomialChecksRow.wf (OpenSpec.ofChange Rows.polynomialChecksSpec)) = true := by kernel_rfl
theorem polynomialChecks_fact1 : (Tryz.f6.params.all (Tryz.prog.readableRec ·)) = true := by kernel_rfl
theorem polynomialChecks_fact2 : (namedTie Tryz.prog Rows.polynomialChecksRow.named Rows.polynomialChecksSpec.vars) = true := by kernel_rfl
theorem polynomialChecks_fact3 : ((Rows.polynomialChecksRow.stops == [])) = true := by kernel_rfl
theorem polynomialChecks_fact4 : ((Rows.polynomialChecksRow.knobs == [])) = true := by kernel_rfl
theorem polynomialChecks_fact5 : ((Rows.polynomialChecksRow.inPlace == Tryz.prog.inPlace 6)) = true := by kernel_rfl
theorem polynomialChecks_fact6 : ((Rows.polynomialChecksRow.unfollowed == Tryz.prog.unfollowed 6)) = true := by kernel_rfl
theorem polynomialChecks_fact7 : ((Rows.polynomialChecksRow.recurses == Tryz.prog.recurses 6)) = true := by kernel_rfl
theorem polynomialChecks_fact8 : ((Rows.polynomialChecksRow.named == Tryz.prog.varsNamed 6)) = true := by kernel_rfl
theorem polynomialChecks_fact9 : ((Rows.polynomialChecksRow.maps == (Tryz.f6.params.toList ++ Rows.polynomialChecksSpec.plain.varTypes Tryz.prog).any (Tryz.prog.mapsRec ·))) = true := by kernel_rfl
theorem polynomialChecks_fact10 : ((Rows.polynomialChecksRow.ifaces == (Tryz.f6.params.toList ++ Rows.polynomialChecksSpec.plain.varTypes Tryz.prog).any (Tryz.prog.ifacesRec ·))) = true := by kernel_rfl
theorem polynomialChecks_fact11 : ((Rows.polynomialChecksRow.mapsOut == Tryz.prog.mapsAmong Tryz.f6.resultTypes.toList)) = true := by kernel_rfl
theorem polynomialChecks_fact12 : ((Rows.polynomialChecksRow.loops == (Tryz.f6.params.toList ++ Rows.polynomialChecksSpec.plain.varTypes Tryz.prog).any (Tryz.prog.loopsFrom ·))) = true := by kernel_rfl
theorem polynomialChecks_fact13 : ((Rows.polynomialChecksRow.wideKeys == (Tryz.f6.params.toList ++ Rows.polynomialChecksSpec.plain.varTypes Tryz.prog ++ Tryz.f6.resultTypes.toList).any (Tryz.prog.wideKeysFrom ·))) = true := by kernel_rfl
theorem polynomialChecks_fact14 : (Rows.polynomialChecksSpec.vars.all (Tryz.prog.varReadable ·)) = true := by kernel_rfl
theorem polynomialChecks_fact15 : (Tryz.f6.resultTypes.all (fun t => Tryz.prog.readableRec t && decide (t < Tryz.prog.types.size))) = true := by kernel_rfl
theorem polynomialChecks_fact16 : ((Rows.polynomialChecksRow.ifacesOut == Tryz.f6.resultTypes.toList.any (Tryz.prog.ifacesRec ·))) = true := by kernel_rfl
theorem polynomialChecks_fact17 : ((Rows.polynomialChecksRow.loopsOut == Tryz.f6.resultTypes.toList.any (Tryz.prog.loopsFrom ·))) = true := by kernel_rfl
theorem polynomialChecks_fact18 : ((Rows.polynomialChecksRow.plainKeys == Tryz.prog.plainKeys)) = true := by kernel_rfl
theorem polynomialChecks_fact19 : (Rows.polynomialChecksRow.shortTexts.isNone) = true := by kernel_rfl
theorem polynomialChecks_fact20 : ((Rows.polynomialChecksRow.lifted == Tryz.prog.liftsFinal)) = true := by rw [pf_final]; kernel_rfl
theorem polynomialChecks_fact21 : ((Tryz.prog.make == some Rows.polynomialChecksRow.make)) = true := by rw [pf_make]; kernel_rfl
theorem polynomialChecks_fact23 : ((Rows.polynomialChecksRow.pinned == Rows.polynomialChecksRow.pinnedBy)) = true := by kernel_rfl
theorem polynomialChecks_fact24 : ((Rows.polynomialChecksRow.veiled == (Tryz.f6.params.toList ++ Rows.polynomialChecksSpec.plain.varTypes Tryz.prog ++ Tryz.f6.resultTypes.toList).any (Tryz.prog.veiledRec ·))) = true := by kernel_rfl
theorem polynomialChecks_fact25 : (Rows.polynomialChecksRow.veiledFits Tryz.prog Tryz.f6.params.toList (Tryz.f6.params.toList ++ Rows.polynomialChecksSpec.plain.varTypes Tryz.prog ++ Tryz.f6.resultTypes.toList)) = true := by kernel_rfl
theorem polynomialChecks_closed : joinedFacts Tryz.prog 6 Tryz.f6 Rows.polynomialChecksSpec Rows.polynomialChecksRow = true := by
  unfold joinedFacts
  rw [polynomialChecks_fact0]
  rw [pf_laidout]
  rw [pf_mapsrowed]
  rw [polynomialChecks_fact1]
  rw [polynomialChecks_fact2]
  rw [polynomialChecks_fact3]
  rw [pf_stops]
  rw [polynomialChecks_fact4]
  rw [pf_knobs]
  rw [polynomialChecks_fact5]
  rw [polynomialChecks_fact6]
  rw [polynomialChecks_fact7]
  rw [polynomialChecks_fact8]
  rw [polynomialChecks_fact9]
  rw [polynomialChecks_fact10]
  rw [polynomialChecks_fact11]
  rw [polynomialChecks_fact12]
  rw [polynomialChecks_fact13]
  rw [polynomialChecks_fact14]
  rw [polynomialChecks_fact15]
  rw [polynomialChecks_fact16]
  rw [polynomialChecks_fact17]
  rw [polynomialChecks_fact18]
  rw [polynomialChecks_fact19]
  rw [pf_heard]
  rw [pf_enter]
  rw [polynomialChecks_fact20]
  rw [polynomialChecks_fact21]
  rw [polynomialChecks_fact23]
  rw [polynomialChecks_fact24]
  rw [polynomialChecks_fact25]
  simp only [Bool.and_true, Bool.true_and]
  kernel_rfl
theorem polynomialChecks_fun : Tryz.pinned.checked.prog.funcNamed Rows.polynomialChecksRow.func = some 6 := by kernel_rfl
theorem polynomialChecks_goes : false = Rows.polynomialChecksRow.goesBy Tryz.pinned.checked.prog := by kernel_rfl
theorem polynomialChecks_text : Rows.polynomialChecksRow.wfByText (OpenSpec.ofChange Rows.polynomialChecksSpec) = true := by kernel_rfl
theorem polynomialChecks_stand : ([22, 38, 3].all fun u => !Tryz.prog.wantsStandIn u) = true := by kernel_rfl
set_option maxRecDepth 100000 in
theorem polynomialChecks_lifted (os : Os) (started : os.Started) (H : Type) (enc : TypeId × Value → H) :
    ReturnsInHanded {} Tryz.checked os 6 .any (fun w args => (Rows.polynomialChecksSpec.pre enc Tryz.prog Tryz.f6 Rows.polynomialChecksRow.domain false w args ∧ laidMetH Tryz.prog Rows.polynomialChecksRow.laid w) ∧ sizedMet enc Tryz.prog Tryz.f6 (OpenSpec.ofChange Rows.polynomialChecksSpec) false w args)
      (Rows.polynomialChecksSpec.post enc Tryz.prog Tryz.f6 false true false false) := by
  refine returnsInHanded_of_change_and (C := Tryz.checked) (X := fun w _ => laidMetH Tryz.prog Rows.polynomialChecksRow.laid w) (fun _ _ _ hh h => h.of_heap hh) ownK started (by kernel_rfl) Tryz.func6
    (ChangeSpec.witness_shaped (enc := enc) (C := Tryz.checked) (os := os) (X := fun w _ => laidMetH Tryz.prog Rows.polynomialChecksRow.laid w) false (World.laidAll Tryz.prog os Rows.polynomialChecksRow.laid) #[.slice none 0 0, .agg #[.bool false, .slice none 0 0, .slice none 0 0], .int .i64 0] 8 (World.laidAll_os _ _ _)
      (World.shaped_of_ZipB (by kernel_rfl) (by kernel_rfl)) (by kernel_rfl) (by kernel_rfl) (by kernel_rfl)
      (by rw [MakeChecks.laidMetH_plain _ _ _ (by kernel_rfl)]; exact laidMet_laidAll _ (by kernel_rfl) (by kernel_rfl))) ?_
  intro W base args ds gs before hval hW _ hsz _ _
  exact liftTQN 6 Tryz.f6 rfl (fun _ _ _ _ => rfl) Tryz.params6 (by kernel_rfl) (fun W v0 x0 x1 a1 b1 x2 g0 g1 k1 g2 => pchecks_true v0 a1 b1 x0 x1 x2 W g0 g1 k1 g2) W base args ds gs before hval hW hsz
theorem polynomialChecks_holds : Rows.PolynomialChecksSaid :=
  OpenClaim.holds_of_wide 6 Tryz.f6 rfl rfl rfl rfl rfl rfl rfl ⟨rfl, rfl, rfl, rfl, rfl⟩ rfl rfl rfl rfl rfl polynomialChecks_fun Tryz.func6 polynomialChecks_closed
    (of_decide_eq_true (by kernel_rfl)) (by unfold Func.isWrapper; first | (rw [if_pos (by decide +kernel)]; kernel_rfl) | (rw [if_neg (by decide +kernel)]; exact ⟨rfl, rfl⟩))
    (fun os started H enc _ => polynomialChecks_lifted os started H enc)
theorem polynomialChecks_card : Rows.PolynomialChecksCardSaid :=
  Claim7.holds_tied_plain_at .later [] [.data, .pinned] true (true, "b50c0405a417493d467c38e237fe321c6520711c9b70ad2d04880b9d125055bd") true polynomialChecks_holds (fun _ h => by cases h) polynomialChecks_text (fun _ h => by cases h) polynomialChecks_row_tie rfl ⟨rfl, rfl⟩ pf_main rfl
    (fun f fn hf hfn => by
      obtain rfl : f = 6 := Option.some.inj (polynomialChecks_fun.symm.trans hf) |>.symm
      obtain rfl : fn = Tryz.f6 := (Option.some.inj (Tryz.func6.symm.trans hfn)).symm
      exact ⟨pf_looks, fun j t ht => by
        rw [Tryz.params6] at ht
        have hm : t ∈ [22, 38, 3] := by simpa using Array.mem_of_getElem? ht
        exact (show Tryz.prog.wantsStandIn t = false by simpa using List.all_eq_true.1 polynomialChecks_stand t hm)⟩)
    polynomialChecks_goes
end Go.Proofs.YtpaedhlacbpmpaaGreatDoor
