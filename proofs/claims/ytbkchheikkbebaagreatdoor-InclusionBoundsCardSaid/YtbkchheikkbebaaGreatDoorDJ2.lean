import Derived.Test.YtbkchheikkbebaaGreatDoorDI1
import Derived.Test.YtbkchheikkbebaaGreatDoorDI2
import Derived.Test.YtbkchheikkbebaaGreatDoorDI3
import Derived.Test.YtbkchheikkbebaaGreatDoorDI4
import Derived.Test.YtbkchheikkbebaaGreatDoorDI5
import Derived.Test.YtbkchheikkbebaaGreatDoorDI6
import Derived.Test.YtbkchheikkbebaaGreatDoorDI7
import Derived.Test.YtbkchheikkbebaaGreatDoorDI8
import Derived.Test.YtbkchheikkbebaaGreatDoorDI9
import Derived.Test.YtbkchheikkbebaaGreatDoorDI10
import Derived.Test.YtbkchheikkbebaaGreatDoorDI11
import Derived.Test.YtbkchheikkbebaaGreatDoorRows
import Derived.Test.YtbkchheikkbebaaGreatDoorChecked
import Derived.Test.YtbkchheikkbebaaGreatDoorCards
import Derived.Test.YtbkchheikkbebaaGreatDoorTie
import Derived.ProofKit
import Derived.OpenShut
import Derived.LaidMore
import Derived.Lay
import Derived.SevenTiedAt
import Derived.Stop.Joined
/-
  The law InclusionBounds: its lift and its tied card.
-/
namespace Go.Proofs.YtbkchheikkbebaaGreatDoor
open Go.RowKit Go.ChangeShapes Go.WideShapes Go.ChangeAt

open Go.Joins Go.Deep
theorem inclusionBounds_fact0 : (Rows.inclusionBoundsRow.wf (OpenSpec.ofChange Rows.inclusionBoundsSpec)) = true := by kernel_rfl
theorem inclusionBounds_fact1 : (Tryz.f7.params.all (Tryz.prog.readableRec ·)) = true := by kernel_rfl
theorem inclusionBounds_fact2 : (namedTie Tryz.prog Rows.inclusionBoundsRow.named Rows.inclusionBoundsSpec.vars) = true := by kernel_rfl
theorem inclusionBounds_fact3 : ((Rows.inclusionBoundsRow.stops == [])) = true := by kernel_rfl
theorem inclusionBounds_fact4 : ((Rows.inclusionBoundsRow.knobs == [])) = true := by kernel_rfl
theorem inclusionBounds_fact5 : ((Rows.inclusionBoundsRow.inPlace == Tryz.prog.inPlace 7)) = true := by kernel_rfl
theorem inclusionBounds_fact6 : ((Rows.inclusionBoundsRow.unfollowed == Tryz.prog.unfollowed 7)) = true := by kernel_rfl
theorem inclusionBounds_fact7 : ((Rows.inclusionBoundsRow.recurses == Tryz.prog.recurses 7)) = true := by kernel_rfl
theorem inclusionBounds_fact8 : ((Rows.inclusionBoundsRow.named == Tryz.prog.varsNamed 7)) = true := by kernel_rfl
theorem inclusionBounds_fact9 : ((Rows.inclusionBoundsRow.maps == (Tryz.f7.params.toList ++ Rows.inclusionBoundsSpec.plain.varTypes Tryz.prog).any (Tryz.prog.mapsRec ·))) = true := by kernel_rfl
theorem inclusionBounds_fact10 : ((Rows.inclusionBoundsRow.ifaces == (Tryz.f7.params.toList ++ Rows.inclusionBoundsSpec.plain.varTypes Tryz.prog).any (Tryz.prog.ifacesRec ·))) = true := by kernel_rfl
theorem inclusionBounds_fact11 : ((Rows.inclusionBoundsRow.mapsOut == Tryz.prog.mapsAmong Tryz.f7.resultTypes.toList)) = true := by kernel_rfl
theorem inclusionBounds_fact12 : ((Rows.inclusionBoundsRow.loops == (Tryz.f7.params.toList ++ Rows.inclusionBoundsSpec.plain.varTypes Tryz.prog).any (Tryz.prog.loopsFrom ·))) = true := by kernel_rfl
theorem inclusionBounds_fact13 : ((Rows.inclusionBoundsRow.wideKeys == (Tryz.f7.params.toList ++ Rows.inclusionBoundsSpec.plain.varTypes Tryz.prog ++ Tryz.f7.resultTypes.toList).any (Tryz.prog.wideKeysFrom ·))) = true := by kernel_rfl
theorem inclusionBounds_fact14 : (Rows.inclusionBoundsSpec.vars.all (Tryz.prog.varReadable ·)) = true := by kernel_rfl
theorem inclusionBounds_fact15 : (Tryz.f7.resultTypes.all (fun t => Tryz.prog.readableRec t && decide (t < Tryz.prog.types.size))) = true := by kernel_rfl
theorem inclusionBounds_fact16 : ((Rows.inclusionBoundsRow.ifacesOut == Tryz.f7.resultTypes.toList.any (Tryz.prog.ifacesRec ·))) = true := by kernel_rfl
theorem inclusionBounds_fact17 : ((Rows.inclusionBoundsRow.loopsOut == Tryz.f7.resultTypes.toList.any (Tryz.prog.loopsFrom ·))) = true := by kernel_rfl
theorem inclusionBounds_fact18 : ((Rows.inclusionBoundsRow.plainKeys == Tryz.prog.plainKeys)) = true := by kernel_rfl
theorem inclusionBounds_fact19 : (Rows.inclusionBoundsRow.shortTexts.isNone) = true := by kernel_rfl
theorem inclusionBounds_fact20 : ((Rows.inclusionBoundsRow.lifted == Tryz.prog.liftsFinal)) = true := by rw [pf_final]; kernel_rfl
theorem inclusionBounds_fact21 : ((Tryz.prog.make == some Rows.inclusionBoundsRow.make)) = true := by rw [pf_make]; kernel_rfl
theorem inclusionBounds_fact23 : ((Rows.inclusionBoundsRow.pinned == Rows.inclusionBoundsRow.pinnedBy)) = true := by kernel_rfl
theorem inclusionBounds_fact24 : ((Rows.inclusionBoundsRow.veiled == (Tryz.f7.params.toList ++ Rows.inclusionBoundsSpec.plain.varTypes Tryz.prog ++ Tryz.f7.resultTypes.toList).any (Tryz.prog.veiledRec ·))) = true := by kernel_rfl
theorem inclusionBounds_fact25 : (Rows.inclusionBoundsRow.veiledFits Tryz.prog Tryz.f7.params.toList (Tryz.f7.params.toList ++ Rows.inclusionBoundsSpec.plain.varTypes Tryz.prog ++ Tryz.f7.resultTypes.toList)) = true := by kernel_rfl
theorem inclusionBounds_closed : joinedFacts Tryz.prog 7 Tryz.f7 Rows.inclusionBoundsSpec Rows.inclusionBoundsRow = true := by
  unfold joinedFacts
  rw [inclusionBounds_fact0]
  rw [pf_laidout]
  rw [pf_mapsrowed]
  rw [inclusionBounds_fact1]
  rw [inclusionBounds_fact2]
  rw [inclusionBounds_fact3]
  rw [pf_stops]
  rw [inclusionBounds_fact4]
  rw [pf_knobs]
  rw [inclusionBounds_fact5]
  rw [inclusionBounds_fact6]
  rw [inclusionBounds_fact7]
  rw [inclusionBounds_fact8]
  rw [inclusionBounds_fact9]
  rw [inclusionBounds_fact10]
  rw [inclusionBounds_fact11]
  rw [inclusionBounds_fact12]
  rw [inclusionBounds_fact13]
  rw [inclusionBounds_fact14]
  rw [inclusionBounds_fact15]
  rw [inclusionBounds_fact16]
  rw [inclusionBounds_fact17]
  rw [inclusionBounds_fact18]
  rw [inclusionBounds_fact19]
  rw [pf_heard]
  rw [pf_enter]
  rw [inclusionBounds_fact20]
  rw [inclusionBounds_fact21]
  rw [inclusionBounds_fact23]
  rw [inclusionBounds_fact24]
  rw [inclusionBounds_fact25]
  simp only [Bool.and_true, Bool.true_and]
  kernel_rfl
theorem inclusionBounds_fun : Tryz.pinned.checked.prog.funcNamed Rows.inclusionBoundsRow.func = some 7 := by kernel_rfl
theorem inclusionBounds_goes : false = Rows.inclusionBoundsRow.goesBy Tryz.pinned.checked.prog := by kernel_rfl
theorem inclusionBounds_text : Rows.inclusionBoundsRow.wfByText (OpenSpec.ofChange Rows.inclusionBoundsSpec) = true := by kernel_rfl
theorem inclusionBounds_stand : ([22, 35, 3].all fun u => !Tryz.prog.wantsStandIn u) = true := by kernel_rfl
set_option maxRecDepth 100000 in
theorem inclusionBounds_lifted (os : Os) (started : os.Started) (H : Type) (enc : TypeId × Value → H) :
    ReturnsInHanded {} Tryz.checked os 7 .any (fun w args => (Rows.inclusionBoundsSpec.pre enc Tryz.prog Tryz.f7 Rows.inclusionBoundsRow.domain false w args ∧ laidMetH Tryz.prog Rows.inclusionBoundsRow.laid w) ∧ sizedMet enc Tryz.prog Tryz.f7 (OpenSpec.ofChange Rows.inclusionBoundsSpec) false w args)
      (Rows.inclusionBoundsSpec.post enc Tryz.prog Tryz.f7 false true false false) := by
  refine returnsInHanded_of_change_and (C := Tryz.checked) (X := fun w _ => laidMetH Tryz.prog Rows.inclusionBoundsRow.laid w) (fun _ _ _ hh h => h.of_heap hh) ownK started (by kernel_rfl) Tryz.func7
    (ChangeSpec.witness_shaped (enc := enc) (C := Tryz.checked) (os := os) (X := fun w _ => laidMetH Tryz.prog Rows.inclusionBoundsRow.laid w) false (World.laidAll Tryz.prog os Rows.inclusionBoundsRow.laid) #[.slice none 0 0, .slice none 0 0, .int .i64 0] 8 (World.laidAll_os _ _ _)
      (World.shaped_of_ZipB (by kernel_rfl) (by kernel_rfl)) (by kernel_rfl) (by kernel_rfl) (by kernel_rfl)
      (by rw [MakeChecks.laidMetH_plain _ _ _ (by kernel_rfl)]; exact laidMet_laidAll _ (by kernel_rfl) (by kernel_rfl))) ?_
  intro W base args ds gs before hval hW _ hsz _ _
  exact liftIRN 7 Tryz.f7 rfl (fun _ _ _ _ => rfl) Tryz.params7 (by kernel_rfl) (fun W cv v xs ps k h1 h2 hk => inbounds_true cv v xs ps k W h1 h2 hk) W base args ds gs before hval hW hsz
theorem inclusionBounds_holds : Rows.InclusionBoundsSaid :=
  OpenClaim.holds_of_wide 7 Tryz.f7 rfl rfl rfl rfl rfl rfl rfl ⟨rfl, rfl, rfl, rfl, rfl⟩ rfl rfl rfl rfl rfl inclusionBounds_fun Tryz.func7 inclusionBounds_closed
    (of_decide_eq_true (by kernel_rfl)) (by unfold Func.isWrapper; first | (rw [if_pos (by decide +kernel)]; kernel_rfl) | (rw [if_neg (by decide +kernel)]; exact ⟨rfl, rfl⟩))
    (fun os started H enc _ => inclusionBounds_lifted os started H enc)
theorem inclusionBounds_card : Rows.InclusionBoundsCardSaid :=
  Claim7.holds_tied_plain_at .later [] [.data, .pinned] true (true, "3399edabd4861bf0e64f06564a9d90a90514eb3b736d995d6b03d2bf706bead7") true inclusionBounds_holds (fun _ h => by cases h) inclusionBounds_text (fun _ h => by cases h) inclusionBounds_row_tie rfl ⟨rfl, rfl⟩ pf_main rfl
    (fun f fn hf hfn => by
      obtain rfl : f = 7 := Option.some.inj (inclusionBounds_fun.symm.trans hf) |>.symm
      obtain rfl : fn = Tryz.f7 := (Option.some.inj (Tryz.func7.symm.trans hfn)).symm
      exact ⟨pf_looks, fun j t ht => by
        rw [Tryz.params7] at ht
        have hm : t ∈ [22, 35, 3] := by simpa using Array.mem_of_getElem? ht
        exact (show Tryz.prog.wantsStandIn t = false by simpa using List.all_eq_true.1 inclusionBounds_stand t hm)⟩)
    inclusionBounds_goes
end Go.Proofs.YtbkchheikkbebaaGreatDoor
