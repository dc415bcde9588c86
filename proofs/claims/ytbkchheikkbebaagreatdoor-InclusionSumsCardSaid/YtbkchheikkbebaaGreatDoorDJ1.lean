import Derived.Test.YtbkchheikkbebaaGreatDoorDI1
import Derived.Test.YtbkchheikkbebaaGreatDoorDI2
import Derived.Test.YtbkchheikkbebaaGreatDoorDI3
import Derived.Test.YtbkchheikkbebaaGreatDoorDI4
import Derived.Test.YtbkchheikkbebaaGreatDoorDI5
import Derived.Test.YtbkchheikkbebaaGreatDoorDI6
import Derived.Test.YtbkchheikkbebaaGreatDoorDI7
import Derived.Test.YtbkchheikkbebaaGreatDoorDI8
import Derived.Test.YtbkchheikkbebaaGreatDoorDI9
import Derived.Test.YtbkchheikkbebaaGreatDoorDI10
import Derived.Test.YtbkchheikkbebaaGreatDoorDI11
import Derived.Test.YtbkchheikkbebaaGreatDoorRows
import Derived.Test.YtbkchheikkbebaaGreatDoorChecked
import Derived.Test.YtbkchheikkbebaaGreatDoorCards
import Derived.Test.YtbkchheikkbebaaGreatDoorTie
import Derived.ProofKit
import Derived.OpenShut
import Derived.LaidMore
import Derived.Lay
import Derived.SevenTiedAt
import Derived.Stop.Joined
/-
  The law InclusionSums: its lift and its tied card.
-/
namespace Go.Proofs.YtbkchheikkbebaaGreatDoor
open Go.RowKit Go.ChangeShapes Go.WideShapes Go.ChangeAt

open Go.Joins Go.Deep
theorem inclusionSums_fact0 : (Rows.inclusionSumsRow.wf (OpenSpec.ofChange Rows.inclusionSumsSpec)) = true := by kernel_rfl
theorem inclusionSums_fact1 : (Tryz.f10.params.all (Tryz.prog.readableRec ·)) = true := by kernel_rfl
theorem inclusionSums_fact2 : (namedTie Tryz.prog Rows.inclusionSumsRow.named Rows.inclusionSumsSpec.vars) = true := by kernel_rfl
theorem inclusionSums_fact3 : ((Rows.inclusionSumsRow.stops == [])) = true := by kernel_rfl
theorem inclusionSums_fact4 : ((Rows.inclusionSumsRow.knobs == [])) = true := by kernel_rfl
theorem inclusionSums_fact5 : ((Rows.inclusionSumsRow.inPlace == Tryz.prog.inPlace 10)) = true := by kernel_rfl
theorem inclusionSums_fact6 : ((Rows.inclusionSumsRow.unfollowed == Tryz.prog.unfollowed 10)) = true := by kernel_rfl
theorem inclusionSums_fact7 : ((Rows.inclusionSumsRow.recurses == Tryz.prog.recurses 10)) = true := by kernel_rfl
theorem inclusionSums_fact8 : ((Rows.inclusionSumsRow.named == Tryz.prog.varsNamed 10)) = true := by kernel_rfl
theorem inclusionSums_fact9 : ((Rows.inclusionSumsRow.maps == (Tryz.f10.params.toList ++ Rows.inclusionSumsSpec.plain.varTypes Tryz.prog).any (Tryz.prog.mapsRec ·))) = true := by kernel_rfl
theorem inclusionSums_fact10 : ((Rows.inclusionSumsRow.ifaces == (Tryz.f10.params.toList ++ Rows.inclusionSumsSpec.plain.varTypes Tryz.prog).any (Tryz.prog.ifacesRec ·))) = true := by kernel_rfl
theorem inclusionSums_fact11 : ((Rows.inclusionSumsRow.mapsOut == Tryz.prog.mapsAmong Tryz.f10.resultTypes.toList)) = true := by kernel_rfl
theorem inclusionSums_fact12 : ((Rows.inclusionSumsRow.loops == (Tryz.f10.params.toList ++ Rows.inclusionSumsSpec.plain.varTypes Tryz.prog).any (Tryz.prog.loopsFrom ·))) = true := by kernel_rfl
theorem inclusionSums_fact13 : ((Rows.inclusionSumsRow.wideKeys == (Tryz.f10.params.toList ++ Rows.inclusionSumsSpec.plain.varTypes Tryz.prog ++ Tryz.f10.resultTypes.toList).any (Tryz.prog.wideKeysFrom ·))) = true := by kernel_rfl
theorem inclusionSums_fact14 : (Rows.inclusionSumsSpec.vars.all (Tryz.prog.varReadable ·)) = true := by kernel_rfl
theorem inclusionSums_fact15 : (Tryz.f10.resultTypes.all (fun t => Tryz.prog.readableRec t && decide (t < Tryz.prog.types.size))) = true := by kernel_rfl
theorem inclusionSums_fact16 : ((Rows.inclusionSumsRow.ifacesOut == Tryz.f10.resultTypes.toList.any (Tryz.prog.ifacesRec ·))) = true := by kernel_rfl
theorem inclusionSums_fact17 : ((Rows.inclusionSumsRow.loopsOut == Tryz.f10.resultTypes.toList.any (Tryz.prog.loopsFrom ·))) = true := by kernel_rfl
theorem inclusionSums_fact18 : ((Rows.inclusionSumsRow.plainKeys == Tryz.prog.plainKeys)) = true := by kernel_rfl
theorem inclusionSums_fact19 : (Rows.inclusionSumsRow.shortTexts.isNone) = true := by kernel_rfl
theorem inclusionSums_fact20 : ((Rows.inclusionSumsRow.lifted == Tryz.prog.liftsFinal)) = true := by rw [pf_final]; kernel_rfl
theorem inclusionSums_fact21 : ((Tryz.prog.make == some Rows.inclusionSumsRow.make)) = true := by rw [pf_make]; kernel_rfl
theorem inclusionSums_fact23 : ((Rows.inclusionSumsRow.pinned == Rows.inclusionSumsRow.pinnedBy)) = true := by kernel_rfl
theorem inclusionSums_fact24 : ((Rows.inclusionSumsRow.veiled == (Tryz.f10.params.toList ++ Rows.inclusionSumsSpec.plain.varTypes Tryz.prog ++ Tryz.f10.resultTypes.toList).any (Tryz.prog.veiledRec ·))) = true := by kernel_rfl
theorem inclusionSums_fact25 : (Rows.inclusionSumsRow.veiledFits Tryz.prog Tryz.f10.params.toList (Tryz.f10.params.toList ++ Rows.inclusionSumsSpec.plain.varTypes Tryz.prog ++ Tryz.f10.resultTypes.toList)) = true := by kernel_rfl
theorem inclusionSums_closed : joinedFacts Tryz.prog 10 Tryz.f10 Rows.inclusionSumsSpec Rows.inclusionSumsRow = true := by
  unfold joinedFacts
  rw [inclusionSums_fact0]
  rw [pf_laidout]
  rw [pf_mapsrowed]
  rw [inclusionSums_fact1]
  rw [inclusionSums_fact2]
  rw [inclusionSums_fact3]
  rw [pf_stops]
  rw [inclusionSums_fact4]
  rw [pf_knobs]
  rw [inclusionSums_fact5]
  rw [inclusionSums_fact6]
  rw [inclusionSums_fact7]
  rw [inclusionSums_fact8]
  rw [inclusionSums_fact9]
  rw [inclusionSums_fact10]
  rw [inclusionSums_fact11]
  rw [inclusionSums_fact12]
  rw [inclusionSums_fact13]
  rw [inclusionSums_fact14]
  rw [inclusionSums_fact15]
  rw [inclusionSums_fact16]
  rw [inclusionSums_fact17]
  rw [inclusionSums_fact18]
  rw [inclusionSums_fact19]
  rw [pf_heard]
  rw [pf_enter]
  rw [inclusionSums_fact20]
  rw [inclusionSums_fact21]
  rw [inclusionSums_fact23]
  rw [inclusionSums_fact24]
  rw [inclusionSums_fact25]
  simp only [Bool.and_true, Bool.true_and]
  kernel_rfl
theorem inclusionSums_fun : Tryz.pinned.checked.prog.funcNamed Rows.inclusionSumsRow.func = some 10 := by kernel_rfl
theorem inclusionSums_goes : false = Rows.inclusionSumsRow.goesBy Tryz.pinned.checked.prog := by kernel_rfl
theorem inclusionSums_text : Rows.inclusionSumsRow.wfByText (OpenSpec.ofChange Rows.inclusionSumsSpec) = true := by kernel_rfl
theorem inclusionSums_stand : ([22, 35, 3].all fun u => !Tryz.prog.wantsStandIn u) = true := by kernel_rfl
set_option maxRecDepth 100000 in
theorem inclusionSums_lifted (os : Os) (started : os.Started) (H : Type) (enc : TypeId × Value → H) :
    ReturnsInHanded {} Tryz.checked os 10 .any (fun w args => (Rows.inclusionSumsSpec.pre enc Tryz.prog Tryz.f10 Rows.inclusionSumsRow.domain false w args ∧ laidMetH Tryz.prog Rows.inclusionSumsRow.laid w) ∧ sizedMet enc Tryz.prog Tryz.f10 (OpenSpec.ofChange Rows.inclusionSumsSpec) false w args)
      (Rows.inclusionSumsSpec.post enc Tryz.prog Tryz.f10 false true false false) := by
  refine returnsInHanded_of_change_and (C := Tryz.checked) (X := fun w _ => laidMetH Tryz.prog Rows.inclusionSumsRow.laid w) (fun _ _ _ hh h => h.of_heap hh) ownK started (by kernel_rfl) Tryz.func10
    (ChangeSpec.witness_shaped (enc := enc) (C := Tryz.checked) (os := os) (X := fun w _ => laidMetH Tryz.prog Rows.inclusionSumsRow.laid w) false (World.laidAll Tryz.prog os Rows.inclusionSumsRow.laid) #[.slice none 0 0, .slice none 0 0, .int .i64 0] 8 (World.laidAll_os _ _ _)
      (World.shaped_of_ZipB (by kernel_rfl) (by kernel_rfl)) (by kernel_rfl) (by kernel_rfl) (by kernel_rfl)
      (by rw [MakeChecks.laidMetH_plain _ _ _ (by kernel_rfl)]; exact laidMet_laidAll _ (by kernel_rfl) (by kernel_rfl))) ?_
  intro W base args ds gs before hval hW _ hsz _ _
  exact liftIRN 10 Tryz.f10 rfl (fun _ _ _ _ => rfl) Tryz.params10 (by kernel_rfl) (fun W cv v xs ps k h1 h2 hk => insums_true cv v xs ps k W h1 h2 hk) W base args ds gs before hval hW hsz
theorem inclusionSums_holds : Rows.InclusionSumsSaid :=
  OpenClaim.holds_of_wide 10 Tryz.f10 rfl rfl rfl rfl rfl rfl rfl ⟨rfl, rfl, rfl, rfl, rfl⟩ rfl rfl rfl rfl rfl inclusionSums_fun Tryz.func10 inclusionSums_closed
    (of_decide_eq_true (by kernel_rfl)) (by unfold Func.isWrapper; first | (rw [if_pos (by decide +kernel)]; kernel_rfl) | (rw [if_neg (by decide +kernel)]; exact ⟨rfl, rfl⟩))
    (fun os started H enc _ => inclusionSums_lifted os started H enc)
theorem inclusionSums_card : Rows.InclusionSumsCardSaid :=
  Claim7.holds_tied_plain_at .later [] [.data, .pinned] true (true, "3399edabd4861bf0e64f06564a9d90a90514eb3b736d995d6b03d2bf706bead7") true inclusionSums_holds (fun _ h => by cases h) inclusionSums_text (fun _ h => by cases h) inclusionSums_row_tie rfl ⟨rfl, rfl⟩ pf_main rfl
    (fun f fn hf hfn => by
      obtain rfl : f = 10 := Option.some.inj (inclusionSums_fun.symm.trans hf) |>.symm
      obtain rfl : fn = Tryz.f10 := (Option.some.inj (Tryz.func10.symm.trans hfn)).symm
      exact ⟨pf_looks, fun j t ht => by
        rw [Tryz.params10] at ht
        have hm : t ∈ [22, 35, 3] := by simpa using Array.mem_of_getElem? ht
        exact (show Tryz.prog.wantsStandIn t = false by simpa using List.all_eq_true.1 inclusionSums_stand t hm)⟩)
    inclusionSums_goes
end Go.Proofs.YtbkchheikkbebaaGreatDoor
