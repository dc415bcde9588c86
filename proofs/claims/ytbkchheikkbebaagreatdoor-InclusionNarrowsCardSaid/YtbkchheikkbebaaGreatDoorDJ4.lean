import Derived.Test.YtbkchheikkbebaaGreatDoorDI1
import Derived.Test.YtbkchheikkbebaaGreatDoorDI2
import Derived.Test.YtbkchheikkbebaaGreatDoorDI3
import Derived.Test.YtbkchheikkbebaaGreatDoorDI4
import Derived.Test.YtbkchheikkbebaaGreatDoorDI5
import Derived.Test.YtbkchheikkbebaaGreatDoorDI6
import Derived.Test.YtbkchheikkbebaaGreatDoorDI7
import Derived.Test.YtbkchheikkbebaaGreatDoorDI8
import Derived.Test.YtbkchheikkbebaaGreatDoorDI9
import Derived.Test.YtbkchheikkbebaaGreatDoorDI10
import Derived.Test.YtbkchheikkbebaaGreatDoorDI11
import Derived.Test.YtbkchheikkbebaaGreatDoorRows
import Derived.Test.YtbkchheikkbebaaGreatDoorChecked
import Derived.Test.YtbkchheikkbebaaGreatDoorCards
import Derived.Test.YtbkchheikkbebaaGreatDoorTie
import Derived.ProofKit
import Derived.OpenShut
import Derived.LaidMore
import Derived.Lay
import Derived.SevenTiedAt
import Derived.Stop.Joined
/-
  The law InclusionNarrows: its lift and its tied card.
-/
namespace Go.Proofs.YtbkchheikkbebaaGreatDoor
open Go.RowKit Go.ChangeShapes Go.WideShapes Go.ChangeAt

open Go.Joins Go.Deep
theorem inclusionNarrows_fact0 : (Rows.inclusionNarrowsRow.wf (OpenSpec.ofChange Rows.inclusionNarrowsSpec)) = true := by kernel_rfl
theorem inclusionNarrows_fact1 : (Tryz.f11.params.all (Tryz.prog.readableRec ·)) = true := by kernel_rfl
theorem inclusionNarrows_fact2 : (namedTie Tryz.prog Rows.inclusionNarrowsRow.named Rows.inclusionNarrowsSpec.vars) = true := by kernel_rfl
theorem inclusionNarrows_fact3 : ((Rows.inclusionNarrowsRow.stops == [])) = true := by kernel_rfl
theorem inclusionNarrows_fact4 : ((Rows.inclusionNarrowsRow.knobs == [])) = true := by kernel_rfl
theorem inclusionNarrows_fact5 : ((Rows.inclusionNarrowsRow.inPlace == Tryz.prog.inPlace 11)) = true := by kernel_rfl
theorem inclusionNarrows_fact6 : ((Rows.inclusionNarrowsRow.unfollowed == Tryz.prog.unfollowed 11)) = true := by kernel_rfl
theorem inclusionNarrows_fact7 : ((Rows.inclusionNarrowsRow.recurses == Tryz.prog.recurses 11)) = true := by kernel_rfl
theorem inclusionNarrows_fact8 : ((Rows.inclusionNarrowsRow.named == Tryz.prog.varsNamed 11)) = true := by kernel_rfl
theorem inclusionNarrows_fact9 : ((Rows.inclusionNarrowsRow.maps == (Tryz.f11.params.toList ++ Rows.inclusionNarrowsSpec.plain.varTypes Tryz.prog).any (Tryz.prog.mapsRec ·))) = true := by kernel_rfl
theorem inclusionNarrows_fact10 : ((Rows.inclusionNarrowsRow.ifaces == (Tryz.f11.params.toList ++ Rows.inclusionNarrowsSpec.plain.varTypes Tryz.prog).any (Tryz.prog.ifacesRec ·))) = true := by kernel_rfl
theorem inclusionNarrows_fact11 : ((Rows.inclusionNarrowsRow.mapsOut == Tryz.prog.mapsAmong Tryz.f11.resultTypes.toList)) = true := by kernel_rfl
theorem inclusionNarrows_fact12 : ((Rows.inclusionNarrowsRow.loops == (Tryz.f11.params.toList ++ Rows.inclusionNarrowsSpec.plain.varTypes Tryz.prog).any (Tryz.prog.loopsFrom ·))) = true := by kernel_rfl
theorem inclusionNarrows_fact13 : ((Rows.inclusionNarrowsRow.wideKeys == (Tryz.f11.params.toList ++ Rows.inclusionNarrowsSpec.plain.varTypes Tryz.prog ++ Tryz.f11.resultTypes.toList).any (Tryz.prog.wideKeysFrom ·))) = true := by kernel_rfl
theorem inclusionNarrows_fact14 : (Rows.inclusionNarrowsSpec.vars.all (Tryz.prog.varReadable ·)) = true := by kernel_rfl
theorem inclusionNarrows_fact15 : (Tryz.f11.resultTypes.all (fun t => Tryz.prog.readableRec t && decide (t < Tryz.prog.types.size))) = true := by kernel_rfl
theorem inclusionNarrows_fact16 : ((Rows.inclusionNarrowsRow.ifacesOut == Tryz.f11.resultTypes.toList.any (Tryz.prog.ifacesRec ·))) = true := by kernel_rfl
theorem inclusionNarrows_fact17 : ((Rows.inclusionNarrowsRow.loopsOut == Tryz.f11.resultTypes.toList.any (Tryz.prog.loopsFrom ·))) = true := by kernel_rfl
theorem inclusionNarrows_fact18 : ((Rows.inclusionNarrowsRow.plainKeys == Tryz.prog.plainKeys)) = true := by kernel_rfl
theorem inclusionNarrows_fact19 : (Rows.inclusionNarrowsRow.shortTexts.isNone) = true := by kernel_rfl
theorem inclusionNarrows_fact20 : ((Rows.inclusionNarrowsRow.lifted == Tryz.prog.liftsFinal)) = true := by rw [pf_final]; kernel_rfl
theorem inclusionNarrows_fact21 : ((Tryz.prog.make == some Rows.inclusionNarrowsRow.make)) = true := by rw [pf_make]; kernel_rfl
theorem inclusionNarrows_fact23 : ((Rows.inclusionNarrowsRow.pinned == Rows.inclusionNarrowsRow.pinnedBy)) = true := by kernel_rfl
theorem inclusionNarrows_fact24 : ((Rows.inclusionNarrowsRow.veiled == (Tryz.f11.params.toList ++ Rows.inclusionNarrowsSpec.plain.varTypes Tryz.prog ++ Tryz.f11.resultTypes.toList).any (Tryz.prog.veiledRec ·))) = true := by kernel_rfl
theorem inclusionNarrows_fact25 : (Rows.inclusionNarrowsRow.veiledFits Tryz.prog Tryz.f11.params.toList (Tryz.f11.params.toList ++ Rows.inclusionNarrowsSpec.plain.varTypes Tryz.prog ++ Tryz.f11.resultTypes.toList)) = true := by kernel_rfl
theorem inclusionNarrows_closed : joinedFacts Tryz.prog 11 Tryz.f11 Rows.inclusionNarrowsSpec Rows.inclusionNarrowsRow = true := by
  unfold joinedFacts
  rw [inclusionNarrows_fact0]
  rw [pf_laidout]
  rw [pf_mapsrowed]
  rw [inclusionNarrows_fact1]
  rw [inclusionNarrows_fact2]
  rw [inclusionNarrows_fact3]
  rw [pf_stops]
  rw [inclusionNarrows_fact4]
  rw [pf_knobs]
  rw [inclusionNarrows_fact5]
  rw [inclusionNarrows_fact6]
  rw [inclusionNarrows_fact7]
  rw [inclusionNarrows_fact8]
  rw [inclusionNarrows_fact9]
  rw [inclusionNarrows_fact10]
  rw [inclusionNarrows_fact11]
  rw [inclusionNarrows_fact12]
  rw [inclusionNarrows_fact13]
  rw [inclusionNarrows_fact14]
  rw [inclusionNarrows_fact15]
  rw [inclusionNarrows_fact16]
  rw [inclusionNarrows_fact17]
  rw [inclusionNarrows_fact18]
  rw [inclusionNarrows_fact19]
  rw [pf_heard]
  rw [pf_enter]
  rw [inclusionNarrows_fact20]
  rw [inclusionNarrows_fact21]
  rw [inclusionNarrows_fact23]
  rw [inclusionNarrows_fact24]
  rw [inclusionNarrows_fact25]
  simp only [Bool.and_true, Bool.true_and]
  kernel_rfl
theorem inclusionNarrows_fun : Tryz.pinned.checked.prog.funcNamed Rows.inclusionNarrowsRow.func = some 11 := by kernel_rfl
theorem inclusionNarrows_goes : false = Rows.inclusionNarrowsRow.goesBy Tryz.pinned.checked.prog := by kernel_rfl
theorem inclusionNarrows_text : Rows.inclusionNarrowsRow.wfByText (OpenSpec.ofChange Rows.inclusionNarrowsSpec) = true := by kernel_rfl
theorem inclusionNarrows_stand : ([22, 35].all fun u => !Tryz.prog.wantsStandIn u) = true := by kernel_rfl
set_option maxRecDepth 100000 in
theorem inclusionNarrows_lifted (os : Os) (started : os.Started) (H : Type) (enc : TypeId × Value → H) :
    ReturnsInHanded {} Tryz.checked os 11 .any (fun w args => (Rows.inclusionNarrowsSpec.pre enc Tryz.prog Tryz.f11 Rows.inclusionNarrowsRow.domain false w args ∧ laidMetH Tryz.prog Rows.inclusionNarrowsRow.laid w) ∧ sizedMet enc Tryz.prog Tryz.f11 (OpenSpec.ofChange Rows.inclusionNarrowsSpec) false w args)
      (Rows.inclusionNarrowsSpec.post enc Tryz.prog Tryz.f11 false true false false) := by
  refine returnsInHanded_of_change_and (C := Tryz.checked) (X := fun w _ => laidMetH Tryz.prog Rows.inclusionNarrowsRow.laid w) (fun _ _ _ hh h => h.of_heap hh) ownK started (by kernel_rfl) Tryz.func11
    (ChangeSpec.witness_shaped (enc := enc) (C := Tryz.checked) (os := os) (X := fun w _ => laidMetH Tryz.prog Rows.inclusionNarrowsRow.laid w) false (World.laidAll Tryz.prog os Rows.inclusionNarrowsRow.laid) #[.slice none 0 0, .slice none 0 0] 8 (World.laidAll_os _ _ _)
      (World.shaped_of_ZipB (by kernel_rfl) (by kernel_rfl)) (by kernel_rfl) (by kernel_rfl) (by kernel_rfl)
      (by rw [MakeChecks.laidMetH_plain _ _ _ (by kernel_rfl)]; exact laidMet_laidAll _ (by kernel_rfl) (by kernel_rfl))) ?_
  intro W base args ds gs before hval hW _ hsz _ _
  exact liftIR 11 Tryz.f11 rfl (fun _ _ _ => rfl) Tryz.params11 (by kernel_rfl) (fun W cv v xs ps h1 h2 => innarrow_true cv v xs ps W h1 h2) W base args ds gs before hval hW hsz
theorem inclusionNarrows_holds : Rows.InclusionNarrowsSaid :=
  OpenClaim.holds_of_wide 11 Tryz.f11 rfl rfl rfl rfl rfl rfl rfl ⟨rfl, rfl, rfl, rfl, rfl⟩ rfl rfl rfl rfl rfl inclusionNarrows_fun Tryz.func11 inclusionNarrows_closed
    (of_decide_eq_true (by kernel_rfl)) (by unfold Func.isWrapper; first | (rw [if_pos (by decide +kernel)]; kernel_rfl) | (rw [if_neg (by decide +kernel)]; exact ⟨rfl, rfl⟩))
    (fun os started H enc _ => inclusionNarrows_lifted os started H enc)
theorem inclusionNarrows_card : Rows.InclusionNarrowsCardSaid :=
  Claim7.holds_tied_plain_at .later [] [.data, .pinned] true (true, "3399edabd4861bf0e64f06564a9d90a90514eb3b736d995d6b03d2bf706bead7") true inclusionNarrows_holds (fun _ h => by cases h) inclusionNarrows_text (fun _ h => by cases h) inclusionNarrows_row_tie rfl ⟨rfl, rfl⟩ pf_main rfl
    (fun f fn hf hfn => by
      obtain rfl : f = 11 := Option.some.inj (inclusionNarrows_fun.symm.trans hf) |>.symm
      obtain rfl : fn = Tryz.f11 := (Option.some.inj (Tryz.func11.symm.trans hfn)).symm
      exact ⟨pf_looks, fun j t ht => by
        rw [Tryz.params11] at ht
        have hm : t ∈ [22, 35] := by simpa using Array.mem_of_getElem? ht
        exact (show Tryz.prog.wantsStandIn t = false by simpa using List.all_eq_true.1 inclusionNarrows_stand t hm)⟩)
    inclusionNarrows_goes
end Go.Proofs.YtbkchheikkbebaaGreatDoor
