import Derived.Test.YtpaedhlacbpmpaaGreatDoorPX1
import Derived.Test.YtpaedhlacbpmpaaGreatDoorPX2
import Derived.Test.YtpaedhlacbpmpaaGreatDoorPX3
import Derived.Test.YtpaedhlacbpmpaaGreatDoorPX4
import Derived.Test.YtpaedhlacbpmpaaGreatDoorPX5
import Derived.Test.YtpaedhlacbpmpaaGreatDoorPX6
import Derived.Test.YtpaedhlacbpmpaaGreatDoorPX7
import Derived.Test.YtpaedhlacbpmpaaGreatDoorPX8
import Derived.Test.YtpaedhlacbpmpaaGreatDoorRows
import Derived.Test.YtpaedhlacbpmpaaGreatDoorChecked
import Derived.Test.YtpaedhlacbpmpaaGreatDoorCards
import Derived.Test.YtpaedhlacbpmpaaGreatDoorTie
import Derived.ProofKit
import Derived.OpenShut
import Derived.LaidMore
import Derived.Lay
import Derived.SevenTiedAt
import Derived.Stop.Joined
/-
  The law PolynomialSplits: its lift and its tied card.
-/
namespace Go.Proofs.YtpaedhlacbpmpaaGreatDoor
open Go.RowKit Go.ChangeShapes Go.WideShapes Go.ChangeAt

open Go.Joins Go.Deep
theorem polynomialSplits_fact0 : (Rows.polynomialSplitsRow.wf (OpenSpec.ofChange Rows.polynomialSplitsSpec)) = true := by kernel_rfl
theorem polynomialSplits_fact1 : (Tryz.f5.params.all (Tryz.prog.readableRec ·)) = true := by kernel_rfl
theorem polynomialSplits_fact2 : (namedTie Tryz.prog Rows.polynomialSplitsRow.named Rows.polynomialSplitsSpec.vars) = true := by kernel_rfl
theorem polynomialSplits_fact3 : ((Rows.polynomialSplitsRow.stops == [])) = true := by kernel_rfl
theorem polynomialSplits_fact4 : ((Rows.polynomialSplitsRow.knobs == [])) = true := by kernel_rfl
theorem polynomialSplits_fact5 : ((Rows.polynomialSplitsRow.inPlace == Tryz.prog.inPlace 5)) = true := by kernel_rfl
theorem polynomialSplits_fact6 : ((Rows.polynomialSplitsRow.unfollowed == Tryz.prog.unfollowed 5)) = true := by kernel_rfl
theorem polynomialSplits_fact7 : ((Rows.polynomialSplitsRow.recurses == Tryz.prog.recurses 5)) = true := by kernel_rfl
theorem polynomialSplits_fact8 : ((Rows.polynomialSplitsRow.named == Tryz.prog.varsNamed 5)) = true := by kernel_rfl
theorem polynomialSplits_fact9 : ((Rows.polynomialSplitsRow.maps == (Tryz.f5.params.toList ++ Rows.polynomialSplitsSpec.plain.varTypes Tryz.prog).any (Tryz.prog.mapsRec ·))) = true := by kernel_rfl
theorem polynomialSplits_fact10 : ((Rows.polynomialSplitsRow.ifaces == (Tryz.f5.params.toList ++ Rows.polynomialSplitsSpec.plain.varTypes Tryz.prog).any (Tryz.prog.ifacesRec ·))) = true := by kernel_rfl
theorem polynomialSplits_fact11 : ((Rows.polynomialSplitsRow.mapsOut == Tryz.prog.mapsAmong Tryz.f5.resultTypes.toList)) = true := by kernel_rfl
theorem polynomialSplits_fact12 : ((Rows.polynomialSplitsRow.loops == (Tryz.f5.params.toList ++ Rows.polynomialSplitsSpec.plain.varTypes Tryz.prog).any (Tryz.prog.loopsFrom ·))) = true := by kernel_rfl
theorem polynomialSplits_fact13 : ((Rows.polynomialSplitsRow.wideKeys == (Tryz.f5.params.toList ++ Rows.polynomialSplitsSpec.plain.varTypes Tryz.prog ++ Tryz.f5.resultTypes.toList).any (Tryz.prog.wideKeysFrom ·))) = true := by kernel_rfl
theorem polynomialSplits_fact14 : (Rows.polynomialSplitsSpec.vars.all (Tryz.prog.varReadable ·)) = true := by kernel_rfl
theorem polynomialSplits_fact15 : (Tryz.f5.resultTypes.all (fun t => Tryz.prog.readableRec t && decide (t < Tryz.prog.types.size))) = true := by kernel_rfl
theorem polynomialSplits_fact16 : ((Rows.polynomialSplitsRow.ifacesOut == Tryz.f5.resultTypes.toList.any (Tryz.prog.ifacesRec ·))) = true := by kernel_rfl
theorem polynomialSplits_fact17 : ((Rows.polynomialSplitsRow.loopsOut == Tryz.f5.resultTypes.toList.any (Tryz.prog.loopsFrom ·))) = true := by kernel_rfl
theorem polynomialSplits_fact18 : ((Rows.polynomialSplitsRow.plainKeys == Tryz.prog.plainKeys)) = true := by kernel_rfl
theorem polynomialSplits_fact19 : (Rows.polynomialSplitsRow.shortTexts.isNone) = true := by kernel_rfl
theorem polynomialSplits_fact20 : ((Rows.polynomialSplitsRow.lifted == Tryz.prog.liftsFinal)) = true := by rw [pf_final]; kernel_rfl
theorem polynomialSplits_fact21 : ((Tryz.prog.make == some Rows.polynomialSplitsRow.make)) = true := by rw [pf_make]; kernel_rfl
theorem polynomialSplits_fact23 : ((Rows.polynomialSplitsRow.pinned == Rows.polynomialSplitsRow.pinnedBy)) = true := by kernel_rfl
theorem polynomialSplits_fact24 : ((Rows.polynomialSplitsRow.veiled == (Tryz.f5.params.toList ++ Rows.polynomialSplitsSpec.plain.varTypes Tryz.prog ++ Tryz.f5.resultTypes.toList).any (Tryz.prog.veiledRec ·))) = true := by kernel_rfl
theorem polynomialSplits_fact25 : (Rows.polynomialSplitsRow.veiledFits Tryz.prog Tryz.f5.params.toList (Tryz.f5.params.toList ++ Rows.polynomialSplitsSpec.plain.varTypes Tryz.prog ++ Tryz.f5.resultTypes.toList)) = true := by kernel_rfl
theorem polynomialSplits_closed : joinedFacts Tryz.prog 5 Tryz.f5 Rows.polynomialSplitsSpec Rows.polynomialSplitsRow = true := by
  unfold joinedFacts
  rw [polynomialSplits_fact0]
  rw [pf_laidout]
  rw [pf_mapsrowed]
  rw [polynomialSplits_fact1]
  rw [polynomialSplits_fact2]
  rw [polynomialSplits_fact3]
  rw [pf_stops]
  rw [polynomialSplits_fact4]
  rw [pf_knobs]
  rw [polynomialSplits_fact5]
  rw [polynomialSplits_fact6]
  rw [polynomialSplits_fact7]
  rw [polynomialSplits_fact8]
  rw [polynomialSplits_fact9]
  rw [polynomialSplits_fact10]
  rw [polynomialSplits_fact11]
  rw [polynomialSplits_fact12]
  rw [polynomialSplits_fact13]
  rw [polynomialSplits_fact14]
  rw [polynomialSplits_fact15]
  rw [polynomialSplits_fact16]
  rw [polynomialSplits_fact17]
  rw [polynomialSplits_fact18]
  rw [polynomialSplits_fact19]
  rw [pf_heard]
  rw [pf_enter]
  rw [polynomialSplits_fact20]
  rw [polynomialSplits_fact21]
  rw [polynomialSplits_fact23]
  rw [polynomialSplits_fact24]
  rw [polynomialSplits_fact25]
  simp only [Bool.and_true, Bool.true_and]
  kernel_rfl
theorem polynomialSplits_fun : Tryz.pinned.checked.prog.funcNamed Rows.polynomialSplitsRow.func = some 5 := by kernel_rfl
theorem polynomialSplits_goes : false = Rows.polynomialSplitsRow.goesBy Tryz.pinned.checked.prog := by kernel_rfl
theorem polynomialSplits_text : Rows.polynomialSplitsRow.wfByText (OpenSpec.ofChange Rows.polynomialSplitsSpec) = true := by kernel_rfl
theorem polynomialSplits_stand : ([22, 5].all fun u => !Tryz.prog.wantsStandIn u) = true := by kernel_rfl
set_option maxRecDepth 100000 in
theorem polynomialSplits_lifted (os : Os) (started : os.Started) (H : Type) (enc : TypeId × Value → H) :
    ReturnsInHanded {} Tryz.checked os 5 .any (fun w args => (Rows.polynomialSplitsSpec.pre enc Tryz.prog Tryz.f5 Rows.polynomialSplitsRow.domain false w args ∧ laidMetH Tryz.prog Rows.polynomialSplitsRow.laid w) ∧ sizedMet enc Tryz.prog Tryz.f5 (OpenSpec.ofChange Rows.polynomialSplitsSpec) false w args)
      (Rows.polynomialSplitsSpec.post enc Tryz.prog Tryz.f5 false true false false) := by
  refine returnsInHanded_of_change_and (C := Tryz.checked) (X := fun w _ => laidMetH Tryz.prog Rows.polynomialSplitsRow.laid w) (fun _ _ _ hh h => h.of_heap hh) ownK started (by kernel_rfl) Tryz.func5
    (ChangeSpec.witness_shaped (enc := enc) (C := Tryz.checked) (os := os) (X := fun w _ => laidMetH Tryz.prog Rows.polynomialSplitsRow.laid w) false (World.laidAll Tryz.prog os Rows.polynomialSplitsRow.laid) #[.slice none 0 0, .int .u8 0] 8 (World.laidAll_os _ _ _)
      (World.shaped_of_ZipB (by kernel_rfl) (by kernel_rfl)) (by kernel_rfl) (by kernel_rfl) (by kernel_rfl)
      (by rw [MakeChecks.laidMetH_plain _ _ _ (by kernel_rfl)]; exact laidMet_laidAll _ (by kernel_rfl) (by kernel_rfl))) ?_
  intro W base args ds gs before hval hW _ hsz _ _
  exact liftTN 5 Tryz.f5 rfl (fun _ _ _ => rfl) Tryz.params5 (by kernel_rfl) (fun W v0 x0 x1 g0 g1 => psplits_true v0 x0 x1 W g0 g1) W base args ds gs before hval hW hsz
theorem polynomialSplits_holds : Rows.PolynomialSplitsSaid :=
  OpenClaim.holds_of_wide 5 Tryz.f5 rfl rfl rfl rfl rfl rfl rfl ⟨rfl, rfl, rfl, rfl, rfl⟩ rfl rfl rfl rfl rfl polynomialSplits_fun Tryz.func5 polynomialSplits_closed
    (of_decide_eq_true (by kernel_rfl)) (by unfold Func.isWrapper; first | (rw [if_pos (by decide +kernel)]; kernel_rfl) | (rw [if_neg (by decide +kernel)]; exact ⟨rfl, rfl⟩))
    (fun os started H enc _ => polynomialSplits_lifted os started H enc)
theorem polynomialSplits_card : Rows.PolynomialSplitsCardSaid :=
  Claim7.holds_tied_plain_at .later [] [.data, .pinned] true (true, "b50c0405a417493d467c38e237fe321c6520711c9b70ad2d04880b9d125055bd") true polynomialSplits_holds (fun _ h => by cases h) polynomialSplits_text (fun _ h => by cases h) polynomialSplits_row_tie rfl ⟨rfl, rfl⟩ pf_main rfl
    (fun f fn hf hfn => by
      obtain rfl : f = 5 := Option.some.inj (polynomialSplits_fun.symm.trans hf) |>.symm
      obtain rfl : fn = Tryz.f5 := (Option.some.inj (Tryz.func5.symm.trans hfn)).symm
      exact ⟨pf_looks, fun j t ht => by
        rw [Tryz.params5] at ht
        have hm : t ∈ [22, 5] := by simpa using Array.mem_of_getElem? ht
        exact (show Tryz.prog.wantsStandIn t = false by simpa using List.all_eq_true.1 polynomialSplits_stand t hm)⟩)
    polynomialSplits_goes
end Go.Proofs.YtpaedhlacbpmpaaGreatDoor
