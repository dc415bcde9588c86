import Derived.Test.YtpaedhlacbpmpaaGreatDoorPX1
import Derived.Test.YtpaedhlacbpmpaaGreatDoorPX2
import Derived.Test.YtpaedhlacbpmpaaGreatDoorPX3
import Derived.Test.YtpaedhlacbpmpaaGreatDoorPX4
import Derived.Test.YtpaedhlacbpmpaaGreatDoorPX5
import Derived.Test.YtpaedhlacbpmpaaGreatDoorPX6
import Derived.Test.YtpaedhlacbpmpaaGreatDoorPX7
import Derived.Test.YtpaedhlacbpmpaaGreatDoorPV8
import Derived.Test.YtpaedhlacbpmpaaGreatDoorPV13
import Derived.Test.YtpaedhlacbpmpaaGreatDoorRows
import Derived.Test.YtpaedhlacbpmpaaGreatDoorChecked
import Derived.Test.YtpaedhlacbpmpaaGreatDoorCards
import Derived.Test.YtpaedhlacbpmpaaGreatDoorTie
import Derived.ProofKit
import Derived.OpenShut
import Derived.LaidMore
import Derived.Lay
import Derived.SevenTiedAt
import Derived.Stop.Joined
/-
  The law PolynomialValues: its lift and its tied card.
-/
namespace Go.Proofs.YtpaedhlacbpmpaaGreatDoor
open Go.RowKit Go.ChangeShapes Go.WideShapes Go.ChangeAt

open Go.Joins Go.Deep
theorem polynomialValues_fact0 : (Rows.polynomialValuesRow.wf (OpenSpec.ofChange Rows.polynomialValuesSpec)) = true := by kernel_rfl
theorem polynomialValues_fact1 : (Tryz.f7.params.all (Tryz.prog.readableRec ·)) = true := by kernel_rfl
theorem polynomialValues_fact2 : (namedTie Tryz.prog Rows.polynomialValuesRow.named Rows.polynomialValuesSpec.vars) = true := by kernel_rfl
theorem polynomialValues_fact3 : ((Rows.polynomialValuesRow.stops == [])) = true := by kernel_rfl
theorem polynomialValues_fact4 : ((Rows.polynomialValuesRow.knobs == [])) = true := by kernel_rfl
theorem polynomialValues_fact5 : ((Rows.polynomialValuesRow.inPlace == Tryz.prog.inPlace 7)) = true := by kernel_rfl
theorem polynomialValues_fact6 : ((Rows.polynomialValuesRow.unfollowed == Tryz.prog.unfollowed 7)) = true := by kernel_rfl
theorem polynomialValues_fact7 : ((Rows.polynomialValuesRow.recurses == Tryz.prog.recurses 7)) = true := by kernel_rfl
theorem polynomialValues_fact8 : ((Rows.polynomialValuesRow.named == Tryz.prog.varsNamed 7)) = true := by kernel_rfl
theorem polynomialValues_fact9 : ((Rows.polynomialValuesRow.maps == (Tryz.f7.params.toList ++ Rows.polynomialValuesSpec.plain.varTypes Tryz.prog).any (Tryz.prog.mapsRec ·))) = true := by kernel_rfl
theorem polynomialValues_fact10 : ((Rows.polynomialValuesRow.ifaces == (Tryz.f7.params.toList ++ Rows.polynomialValuesSpec.plain.varTypes Tryz.prog).any (Tryz.prog.ifacesRec ·))) = true := by kernel_rfl
theorem polynomialValues_fact11 : ((Rows.polynomialValuesRow.mapsOut == Tryz.prog.mapsAmong Tryz.f7.resultTypes.toList)) = true := by kernel_rfl
theorem polynomialValues_fact12 : ((Rows.polynomialValuesRow.loops == (Tryz.f7.params.toList ++ Rows.polynomialValuesSpec.plain.varTypes Tryz.prog).any (Tryz.prog.loopsFrom ·))) = true := by kernel_rfl
theorem polynomialValues_fact13 : ((Rows.polynomialValuesRow.wideKeys == (Tryz.f7.params.toList ++ Rows.polynomialValuesSpec.plain.varTypes Tryz.prog ++ Tryz.f7.resultTypes.toList).any (Tryz.prog.wideKeysFrom ·))) = true := by kernel_rfl
theorem polynomialValues_fact14 : (Rows.polynomialValuesSpec.vars.all (Tryz.prog.varReadable ·)) = true := by kernel_rfl
theorem polynomialValues_fact15 : (Tryz.f7.resultTypes.all (fun t => Tryz.prog.readableRec t && decide (t < Tryz.prog.types.size))) = true := by kernel_rfl
theorem polynomialValues_fact16 : ((Rows.polynomialValuesRow.ifacesOut == Tryz.f7.resultTypes.toList.any (Tryz.prog.ifacesRec ·))) = true := by kernel_rfl
theorem polynomialValues_fact17 : ((Rows.polynomialValuesRow.loopsOut == Tryz.f7.resultTypes.toList.any (Tryz.prog.loopsFrom ·))) = true := by kernel_rfl
theorem polynomialValues_fact18 : ((Rows.polynomialValuesRow.plainKeys == Tryz.prog.plainKeys)) = true := by kernel_rfl
theorem polynomialValues_fact19 : (Rows.polynomialValuesRow.shortTexts.isNone) = true := by kernel_rfl
theorem polynomialValues_fact20 : ((Rows.polynomialValuesRow.lifted == Tryz.prog.liftsFinal)) = true := by rw [pf_final]; kernel_rfl
theorem polynomialValues_fact21 : ((Tryz.prog.make == some Rows.polynomialValuesRow.make)) = true := by rw [pf_make]; kernel_rfl
theorem polynomialValues_fact23 : ((Rows.polynomialValuesRow.pinned == Rows.polynomialValuesRow.pinnedBy)) = true := by kernel_rfl
theorem polynomialValues_fact24 : ((Rows.polynomialValuesRow.veiled == (Tryz.f7.params.toList ++ Rows.polynomialValuesSpec.plain.varTypes Tryz.prog ++ Tryz.f7.resultTypes.toList).any (Tryz.prog.veiledRec ·))) = true := by kernel_rfl
theorem polynomialValues_fact25 : (Rows.polynomialValuesRow.veiledFits Tryz.prog Tryz.f7.params.toList (Tryz.f7.params.toList ++ Rows.polynomialValuesSpec.plain.varTypes Tryz.prog ++ Tryz.f7.resultTypes.toList)) = true := by kernel_rfl
theorem polynomialValues_closed : joinedFacts Tryz.prog 7 Tryz.f7 Rows.polynomialValuesSpec Rows.polynomialValuesRow = true := by
  unfold joinedFacts
  rw [polynomialValues_fact0]
  rw [pf_laidout]
  rw [pf_mapsrowed]
  rw [polynomialValues_fact1]
  rw [polynomialValues_fact2]
  rw [polynomialValues_fact3]
  rw [pf_stops]
  rw [polynomialValues_fact4]
  rw [pf_knobs]
  rw [polynomialValues_fact5]
  rw [polynomialValues_fact6]
  rw [polynomialValues_fact7]
  rw [polynomialValues_fact8]
  rw [polynomialValues_fact9]
  rw [polynomialValues_fact10]
  rw [polynomialValues_fact11]
  rw [polynomialValues_fact12]
  rw [polynomialValues_fact13]
  rw [polynomialValues_fact14]
  rw [polynomialValues_fact15]
  rw [polynomialValues_fact16]
  rw [polynomialValues_fact17]
  rw [polynomialValues_fact18]
  rw [polynomialValues_fact19]
  rw [pf_heard]
  rw [pf_enter]
  rw [polynomialValues_fact20]
  rw [polynomialValues_fact21]
  rw [polynomialValues_fact23]
  rw [polynomialValues_fact24]
  rw [polynomialValues_fact25]
  simp only [Bool.and_true, Bool.true_and]
  kernel_rfl
theorem polynomialValues_fun : Tryz.pinned.checked.prog.funcNamed Rows.polynomialValuesRow.func = some 7 := by kernel_rfl
theorem polynomialValues_goes : false = Rows.polynomialValuesRow.goesBy Tryz.pinned.checked.prog := by kernel_rfl
theorem polynomialValues_text : Rows.polynomialValuesRow.wfByText (OpenSpec.ofChange Rows.polynomialValuesSpec) = true := by kernel_rfl
theorem polynomialValues_stand : ([22, 55, 56].all fun u => !Tryz.prog.wantsStandIn u) = true := by kernel_rfl
set_option maxRecDepth 100000 in
theorem polynomialValues_lifted (os : Os) (started : os.Started) (H : Type) (enc : TypeId × Value → H) :
    ReturnsInHanded {} Tryz.checked os 7 .any (fun w args => (Rows.polynomialValuesSpec.pre enc Tryz.prog Tryz.f7 Rows.polynomialValuesRow.domain false w args ∧ laidMetH Tryz.prog Rows.polynomialValuesRow.laid w) ∧ sizedMet enc Tryz.prog Tryz.f7 (OpenSpec.ofChange Rows.polynomialValuesSpec) false w args)
      (Rows.polynomialValuesSpec.post enc Tryz.prog Tryz.f7 false true false false) := by
  refine returnsInHanded_of_change_and (C := Tryz.checked) (X := fun w _ => laidMetH Tryz.prog Rows.polynomialValuesRow.laid w) (fun _ _ _ hh h => h.of_heap hh) ownK started (by kernel_rfl) Tryz.func7
    (ChangeSpec.witness_shaped (enc := enc) (C := Tryz.checked) (os := os) (X := fun w _ => laidMetH Tryz.prog Rows.polynomialValuesRow.laid w) false (World.laidAll Tryz.prog os Rows.polynomialValuesRow.laid) #[.slice none 0 0, .slice none 0 0, .agg #[.int .i64 0, .int .i64 0]] 8 (World.laidAll_os _ _ _)
      (World.shaped_of_ZipB (by kernel_rfl) (by kernel_rfl)) (by kernel_rfl) (by kernel_rfl) (by kernel_rfl)
      (by rw [MakeChecks.laidMetH_plain _ _ _ (by kernel_rfl)]; exact laidMet_laidAll _ (by kernel_rfl) (by kernel_rfl))) ?_
  intro W base args ds gs before hval hW _ hsz _ _
  exact liftTRA 7 Tryz.f7 rfl (fun _ _ _ _ => rfl) Tryz.params7 (by kernel_rfl) (fun W v0 x0 v1 x1 x2 y2 g0 g1 g2 k2 => pvalues_true v0 v1 x0 x1 x2 y2 W g0 g1 g2 k2) W base args ds gs before hval hW hsz
theorem polynomialValues_holds : Rows.PolynomialValuesSaid :=
  OpenClaim.holds_of_wide 7 Tryz.f7 rfl rfl rfl rfl rfl rfl rfl ⟨rfl, rfl, rfl, rfl, rfl⟩ rfl rfl rfl rfl rfl polynomialValues_fun Tryz.func7 polynomialValues_closed
    (of_decide_eq_true (by kernel_rfl)) (by unfold Func.isWrapper; first | (rw [if_pos (by decide +kernel)]; kernel_rfl) | (rw [if_neg (by decide +kernel)]; exact ⟨rfl, rfl⟩))
    (fun os started H enc _ => polynomialValues_lifted os started H enc)
theorem polynomialValues_card : Rows.PolynomialValuesCardSaid :=
  Claim7.holds_tied_plain_at .later [] [.data, .pinned] true (true, "b50c0405a417493d467c38e237fe321c6520711c9b70ad2d04880b9d125055bd") true polynomialValues_holds (fun _ h => by cases h) polynomialValues_text (fun _ h => by cases h) polynomialValues_row_tie rfl ⟨rfl, rfl⟩ pf_main rfl
    (fun f fn hf hfn => by
      obtain rfl : f = 7 := Option.some.inj (polynomialValues_fun.symm.trans hf) |>.symm
      obtain rfl : fn = Tryz.f7 := (Option.some.inj (Tryz.func7.symm.trans hfn)).symm
      exact ⟨pf_looks, fun j t ht => by
        rw [Tryz.params7] at ht
        have hm : t ∈ [22, 55, 56] := by simpa using Array.mem_of_getElem? ht
        exact (show Tryz.prog.wantsStandIn t = false by simpa using List.all_eq_true.1 polynomialValues_stand t hm)⟩)
    polynomialValues_goes
end Go.Proofs.YtpaedhlacbpmpaaGreatDoor
