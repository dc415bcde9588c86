import Derived.Test.YtbkchheikkbebaaGreatDoorDI1
import Derived.Test.YtbkchheikkbebaaGreatDoorDI2
import Derived.Test.YtbkchheikkbebaaGreatDoorDI3
import Derived.Test.YtbkchheikkbebaaGreatDoorDI4
import Derived.Test.YtbkchheikkbebaaGreatDoorDI5
import Derived.Test.YtbkchheikkbebaaGreatDoorDI6
import Derived.Test.YtbkchheikkbebaaGreatDoorDI7
import Derived.Test.YtbkchheikkbebaaGreatDoorDI8
import Derived.Test.YtbkchheikkbebaaGreatDoorDI9
import Derived.Test.YtbkchheikkbebaaGreatDoorDI10
import Derived.Test.YtbkchheikkbebaaGreatDoorDI11
import Derived.Test.YtbkchheikkbebaaGreatDoorRows
import Derived.Test.YtbkchheikkbebaaGreatDoorChecked
import Derived.Test.YtbkchheikkbebaaGreatDoorCards
import Derived.Test.YtbkchheikkbebaaGreatDoorTie
import Derived.ProofKit
import Derived.OpenShut
import Derived.LaidMore
import Derived.Lay
import Derived.SevenTiedAt
import Derived.Stop.Joined
/-
  The law InclusionAlternates: its lift and its tied card.
-/
namespace Go.Proofs.YtbkchheikkbebaaGreatDoor
open Go.RowKit Go.ChangeShapes Go.WideShapes Go.ChangeAt

open Go.Joins Go.Deep
theorem inclusionAlternates_fact0 : (Rows.inclusionAlternatesRow.wf (OpenSpec.ofChange Rows.inclusionAlternatesSpec)) = true := by kernel_rfl
theorem inclusionAlternates_fact1 : (Tryz.f8.params.all (Tryz.prog.readableRec ·)) = true := by kernel_rfl
theorem inclusionAlternates_fact2 : (namedTie Tryz.prog Rows.inclusionAlternatesRow.named Rows.inclusionAlternatesSpec.vars) = true := by kernel_rfl
theorem inclusionAlternates_fact3 : ((Rows.inclusionAlternatesRow.stops == [])) = true := by kernel_rfl
theorem inclusionAlternates_fact4 : ((Rows.inclusionAlternatesRow.knobs == [])) = true := by kernel_rfl
theorem inclusionAlternates_fact5 : ((Rows.inclusionAlternatesRow.inPlace == Tryz.prog.inPlace 8)) = true := by kernel_rfl
theorem inclusionAlternates_fact6 : ((Rows.inclusionAlternatesRow.unfollowed == Tryz.prog.unfollowed 8)) = true := by kernel_rfl
theorem inclusionAlternates_fact7 : ((Rows.inclusionAlternatesRow.recurses == Tryz.prog.recurses 8)) = true := by kernel_rfl
theorem inclusionAlternates_fact8 : ((Rows.inclusionAlternatesRow.named == Tryz.prog.varsNamed 8)) = true := by kernel_rfl
theorem inclusionAlternates_fact9 : ((Rows.inclusionAlternatesRow.maps == (Tryz.f8.params.toList ++ Rows.inclusionAlternatesSpec.plain.varTypes Tryz.prog).any (Tryz.prog.mapsRec ·))) = true := by kernel_rfl
theorem inclusionAlternates_fact10 : ((Rows.inclusionAlternatesRow.ifaces == (Tryz.f8.params.toList ++ Rows.inclusionAlternatesSpec.plain.varTypes Tryz.prog).any (Tryz.prog.ifacesRec ·))) = true := by kernel_rfl
theorem inclusionAlternates_fact11 : ((Rows.inclusionAlternatesRow.mapsOut == Tryz.prog.mapsAmong Tryz.f8.resultTypes.toList)) = true := by kernel_rfl
theorem inclusionAlternates_fact12 : ((Rows.inclusionAlternatesRow.loops == (Tryz.f8.params.toList ++ Rows.inclusionAlternatesSpec.plain.varTypes Tryz.prog).any (Tryz.prog.loopsFrom ·))) = true := by kernel_rfl
theorem inclusionAlternates_fact13 : ((Rows.inclusionAlternatesRow.wideKeys == (Tryz.f8.params.toList ++ Rows.inclusionAlternatesSpec.plain.varTypes Tryz.prog ++ Tryz.f8.resultTypes.toList).any (Tryz.prog.wideKeysFrom ·))) = true := by kernel_rfl
theorem inclusionAlternates_fact14 : (Rows.inclusionAlternatesSpec.vars.all (Tryz.prog.varReadable ·)) = true := by kernel_rfl
theorem inclusionAlternates_fact15 : (Tryz.f8.resultTypes.all (fun t => Tryz.prog.readableRec t && decide (t < Tryz.prog.types.size))) = true := by kernel_rfl
theorem inclusionAlternates_fact16 : ((Rows.inclusionAlternatesRow.ifacesOut == Tryz.f8.resultTypes.toList.any (Tryz.prog.ifacesRec ·))) = true := by kernel_rfl
theorem inclusionAlternates_fact17 : ((Rows.inclusionAlternatesRow.loopsOut == Tryz.f8.resultTypes.toList.any (Tryz.prog.loopsFrom ·))) = true := by kernel_rfl
theorem inclusionAlternates_fact18 : ((Rows.inclusionAlternatesRow.plainKeys == Tryz.prog.plainKeys)) = true := by kernel_rfl
theorem inclusionAlternates_fact19 : (Rows.inclusionAlternatesRow.shortTexts.isNone) = true := by kernel_rfl
theorem inclusionAlternates_fact20 : ((Rows.inclusionAlternatesRow.lifted == Tryz.prog.liftsFinal)) = true := by rw [pf_final]; kernel_rfl
theorem inclusionAlternates_fact21 : ((Tryz.prog.make == some Rows.inclusionAlternatesRow.make)) = true := by rw [pf_make]; kernel_rfl
theorem inclusionAlternates_fact23 : ((Rows.inclusionAlternatesRow.pinned == Rows.inclusionAlternatesRow.pinnedBy)) = true := by kernel_rfl
theorem inclusionAlternates_fact24 : ((Rows.inclusionAlternatesRow.veiled == (Tryz.f8.params.toList ++ Rows.inclusionAlternatesSpec.plain.varTypes Tryz.prog ++ Tryz.f8.resultTypes.toList).any (Tryz.prog.veiledRec ·))) = true := by kernel_rfl
theorem inclusionAlternates_fact25 : (Rows.inclusionAlternatesRow.veiledFits Tryz.prog Tryz.f8.params.toList (Tryz.f8.params.toList ++ Rows.inclusionAlternatesSpec.plain.varTypes Tryz.prog ++ Tryz.f8.resultTypes.toList)) = true := by kernel_rfl
theorem inclusionAlternates_closed : joinedFacts Tryz.prog 8 Tryz.f8 Rows.inclusionAlternatesSpec Rows.inclusionAlternatesRow = true := by
  unfold joinedFacts
  rw [inclusionAlternates_fact0]
  rw [pf_laidout]
  rw [pf_mapsrowed]
  rw [inclusionAlternates_fact1]
  rw [inclusionAlternates_fact2]
  rw [inclusionAlternates_fact3]
  rw [pf_stops]
  rw [inclusionAlternates_fact4]
  rw [pf_knobs]
  rw [inclusionAlternates_fact5]
  rw [inclusionAlternates_fact6]
  rw [inclusionAlternates_fact7]
  rw [inclusionAlternates_fact8]
  rw [inclusionAlternates_fact9]
  rw [inclusionAlternates_fact10]
  rw [inclusionAlternates_fact11]
  rw [inclusionAlternates_fact12]
  rw [inclusionAlternates_fact13]
  rw [inclusionAlternates_fact14]
  rw [inclusionAlternates_fact15]
  rw [inclusionAlternates_fact16]
  rw [inclusionAlternates_fact17]
  rw [inclusionAlternates_fact18]
  rw [inclusionAlternates_fact19]
  rw [pf_heard]
  rw [pf_enter]
  rw [inclusionAlternates_fact20]
  rw [inclusionAlternates_fact21]
  rw [inclusionAlternates_fact23]
  rw [inclusionAlternates_fact24]
  rw [inclusionAlternates_fact25]
  simp only [Bool.and_true, Bool.true_and]
  kernel_rfl
theorem inclusionAlternates_fun : Tryz.pinned.checked.prog.funcNamed Rows.inclusionAlternatesRow.func = some 8 := by kernel_rfl
theorem inclusionAlternates_goes : false = Rows.inclusionAlternatesRow.goesBy Tryz.pinned.checked.prog := by kernel_rfl
theorem inclusionAlternates_text : Rows.inclusionAlternatesRow.wfByText (OpenSpec.ofChange Rows.inclusionAlternatesSpec) = true := by kernel_rfl
theorem inclusionAlternates_stand : ([22, 35].all fun u => !Tryz.prog.wantsStandIn u) = true := by kernel_rfl
set_option maxRecDepth 100000 in
theorem inclusionAlternates_lifted (os : Os) (started : os.Started) (H : Type) (enc : TypeId × Value → H) :
    ReturnsInHanded {} Tryz.checked os 8 .any (fun w args => (Rows.inclusionAlternatesSpec.pre enc Tryz.prog Tryz.f8 Rows.inclusionAlternatesRow.domain false w args ∧ laidMetH Tryz.prog Rows.inclusionAlternatesRow.laid w) ∧ sizedMet enc Tryz.prog Tryz.f8 (OpenSpec.ofChange Rows.inclusionAlternatesSpec) false w args)
      (Rows.inclusionAlternatesSpec.post enc Tryz.prog Tryz.f8 false true false false) := by
  refine returnsInHanded_of_change_and (C := Tryz.checked) (X := fun w _ => laidMetH Tryz.prog Rows.inclusionAlternatesRow.laid w) (fun _ _ _ hh h => h.of_heap hh) ownK started (by kernel_rfl) Tryz.func8
    (ChangeSpec.witness_shaped (enc := enc) (C := Tryz.checked) (os := os) (X := fun w _ => laidMetH Tryz.prog Rows.inclusionAlternatesRow.laid w) false (World.laidAll Tryz.prog os Rows.inclusionAlternatesRow.laid) #[.slice none 0 0, .slice none 0 0] 8 (World.laidAll_os _ _ _)
      (World.shaped_of_ZipB (by kernel_rfl) (by kernel_rfl)) (by kernel_rfl) (by kernel_rfl) (by kernel_rfl)
      (by rw [MakeChecks.laidMetH_plain _ _ _ (by kernel_rfl)]; exact laidMet_laidAll _ (by kernel_rfl) (by kernel_rfl))) ?_
  intro W base args ds gs before hval hW _ hsz _ _
  exact liftIR 8 Tryz.f8 rfl (fun _ _ _ => rfl) Tryz.params8 (by kernel_rfl) (fun W cv v xs ps h1 h2 => inalt_true cv v xs ps W h1 h2) W base args ds gs before hval hW hsz
theorem inclusionAlternates_holds : Rows.InclusionAlternatesSaid :=
  OpenClaim.holds_of_wide 8 Tryz.f8 rfl rfl rfl rfl rfl rfl rfl ⟨rfl, rfl, rfl, rfl, rfl⟩ rfl rfl rfl rfl rfl inclusionAlternates_fun Tryz.func8 inclusionAlternates_closed
    (of_decide_eq_true (by kernel_rfl)) (by unfold Func.isWrapper; first | (rw [if_pos (by decide +kernel)]; kernel_rfl) | (rw [if_neg (by decide +kernel)]; exact ⟨rfl, rfl⟩))
    (fun os started H enc _ => inclusionAlternates_lifted os started H enc)
theorem inclusionAlternates_card : Rows.InclusionAlternatesCardSaid :=
  Claim7.holds_tied_plain_at .later [] [.data, .pinned] true (true, "3399edabd4861bf0e64f06564a9d90a90514eb3b736d995d6b03d2bf706bead7") true inclusionAlternates_holds (fun _ h => by cases h) inclusionAlternates_text (fun _ h => by cases h) inclusionAlternates_row_tie rfl ⟨rfl, rfl⟩ pf_main rfl
    (fun f fn hf hfn => by
      obtain rfl : f = 8 := Option.some.inj (inclusionAlternates_fun.symm.trans hf) |>.symm
      obtain rfl : fn = Tryz.f8 := (Option.some.inj (Tryz.func8.symm.trans hfn)).symm
      exact ⟨pf_looks, fun j t ht => by
        rw [Tryz.params8] at ht
        have hm : t ∈ [22, 35] := by simpa using Array.mem_of_getElem? ht
        exact (show Tryz.prog.wantsStandIn t = false by simpa using List.all_eq_true.1 inclusionAlternates_stand t hm)⟩)
    inclusionAlternates_goes
end Go.Proofs.YtbkchheikkbebaaGreatDoor
