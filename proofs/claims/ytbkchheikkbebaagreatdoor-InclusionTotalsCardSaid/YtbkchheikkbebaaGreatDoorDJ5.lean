import Derived.Test.YtbkchheikkbebaaGreatDoorDI1
import Derived.Test.YtbkchheikkbebaaGreatDoorDI2
import Derived.Test.YtbkchheikkbebaaGreatDoorDI3
import Derived.Test.YtbkchheikkbebaaGreatDoorDI4
import Derived.Test.YtbkchheikkbebaaGreatDoorDI5
import Derived.Test.YtbkchheikkbebaaGreatDoorDI6
import Derived.Test.YtbkchheikkbebaaGreatDoorDI7
import Derived.Test.YtbkchheikkbebaaGreatDoorDI8
import Derived.Test.YtbkchheikkbebaaGreatDoorDI9
import Derived.Test.YtbkchheikkbebaaGreatDoorDI10
import Derived.Test.YtbkchheikkbebaaGreatDoorDI11
import Derived.Test.YtbkchheikkbebaaGreatDoorRows
import Derived.Test.YtbkchheikkbebaaGreatDoorChecked
import Derived.Test.YtbkchheikkbebaaGreatDoorCards
import Derived.Test.YtbkchheikkbebaaGreatDoorTie
import Derived.ProofKit
import Derived.OpenShut
import Derived.LaidMore
import Derived.Lay
import Derived.SevenTiedAt
import Derived.Stop.Joined
/-
  The law InclusionTotals: its lift and its tied card.
-/
namespace Go.Proofs.YtbkchheikkbebaaGreatDoor
open Go.RowKit Go.ChangeShapes Go.WideShapes Go.ChangeAt

open Go.Joins Go.Deep
theorem inclusionTotals_fact0 : (Rows.inclusionTotalsRow.wf (OpenSpec.ofChange Rows.inclusionTotalsSpec)) = true := by kernel_rfl
theorem inclusionTotals_fact1 : (Tryz.f12.params.all (Tryz.prog.readableRec ·)) = true := by kernel_rfl
theorem inclusionTotals_fact2 : (namedTie Tryz.prog Rows.inclusionTotalsRow.named Rows.inclusionTotalsSpec.vars) = true := by kernel_rfl
theorem inclusionTotals_fact3 : ((Rows.inclusionTotalsRow.stops == [])) = true := by kernel_rfl
theorem inclusionTotals_fact4 : ((Rows.inclusionTotalsRow.knobs == [])) = true := by kernel_rfl
theorem inclusionTotals_fact5 : ((Rows.inclusionTotalsRow.inPlace == Tryz.prog.inPlace 12)) = true := by kernel_rfl
theorem inclusionTotals_fact6 : ((Rows.inclusionTotalsRow.unfollowed == Tryz.prog.unfollowed 12)) = true := by kernel_rfl
theorem inclusionTotals_fact7 : ((Rows.inclusionTotalsRow.recurses == Tryz.prog.recurses 12)) = true := by kernel_rfl
theorem inclusionTotals_fact8 : ((Rows.inclusionTotalsRow.named == Tryz.prog.varsNamed 12)) = true := by kernel_rfl
theorem inclusionTotals_fact9 : ((Rows.inclusionTotalsRow.maps == (Tryz.f12.params.toList ++ Rows.inclusionTotalsSpec.plain.varTypes Tryz.prog).any (Tryz.prog.mapsRec ·))) = true := by kernel_rfl
theorem inclusionTotals_fact10 : ((Rows.inclusionTotalsRow.ifaces == (Tryz.f12.params.toList ++ Rows.inclusionTotalsSpec.plain.varTypes Tryz.prog).any (Tryz.prog.ifacesRec ·))) = true := by kernel_rfl
theorem inclusionTotals_fact11 : ((Rows.inclusionTotalsRow.mapsOut == Tryz.prog.mapsAmong Tryz.f12.resultTypes.toList)) = true := by kernel_rfl
theorem inclusionTotals_fact12 : ((Rows.inclusionTotalsRow.loops == (Tryz.f12.params.toList ++ Rows.inclusionTotalsSpec.plain.varTypes Tryz.prog).any (Tryz.prog.loopsFrom ·))) = true := by kernel_rfl
theorem inclusionTotals_fact13 : ((Rows.inclusionTotalsRow.wideKeys == (Tryz.f12.params.toList ++ Rows.inclusionTotalsSpec.plain.varTypes Tryz.prog ++ Tryz.f12.resultTypes.toList).any (Tryz.prog.wideKeysFrom ·))) = true := by kernel_rfl
theorem inclusionTotals_fact14 : (Rows.inclusionTotalsSpec.vars.all (Tryz.prog.varReadable ·)) = true := by kernel_rfl
theorem inclusionTotals_fact15 : (Tryz.f12.resultTypes.all (fun t => Tryz.prog.readableRec t && decide (t < Tryz.prog.types.size))) = true := by kernel_rfl
theorem inclusionTotals_fact16 : ((Rows.inclusionTotalsRow.ifacesOut == Tryz.f12.resultTypes.toList.any (Tryz.prog.ifacesRec ·))) = true := by kernel_rfl
theorem inclusionTotals_fact17 : ((Rows.inclusionTotalsRow.loopsOut == Tryz.f12.resultTypes.toList.any (Tryz.prog.loopsFrom ·))) = true := by kernel_rfl
theorem inclusionTotals_fact18 : ((Rows.inclusionTotalsRow.plainKeys == Tryz.prog.plainKeys)) = true := by kernel_rfl
theorem inclusionTotals_fact19 : (Rows.inclusionTotalsRow.shortTexts.isNone) = true := by kernel_rfl
theorem inclusionTotals_fact20 : ((Rows.inclusionTotalsRow.lifted == Tryz.prog.liftsFinal)) = true := by rw [pf_final]; kernel_rfl
theorem inclusionTotals_fact21 : ((Tryz.prog.make == some Rows.inclusionTotalsRow.make)) = true := by rw [pf_make]; kernel_rfl
theorem inclusionTotals_fact23 : ((Rows.inclusionTotalsRow.pinned == Rows.inclusionTotalsRow.pinnedBy)) = true := by kernel_rfl
theorem inclusionTotals_fact24 : ((Rows.inclusionTotalsRow.veiled == (Tryz.f12.params.toList ++ Rows.inclusionTotalsSpec.plain.varTypes Tryz.prog ++ Tryz.f12.resultTypes.toList).any (Tryz.prog.veiledRec ·))) = true := by kernel_rfl
theorem inclusionTotals_fact25 : (Rows.inclusionTotalsRow.veiledFits Tryz.prog Tryz.f12.params.toList (Tryz.f12.params.toList ++ Rows.inclusionTotalsSpec.plain.varTypes Tryz.prog ++ Tryz.f12.resultTypes.toList)) = true := by kernel_rfl
theorem inclusionTotals_closed : joinedFacts Tryz.prog 12 Tryz.f12 Rows.inclusionTotalsSpec Rows.inclusionTotalsRow = true := by
  unfold joinedFacts
  rw [inclusionTotals_fact0]
  rw [pf_laidout]
  rw [pf_mapsrowed]
  rw [inclusionTotals_fact1]
  rw [inclusionTotals_fact2]
  rw [inclusionTotals_fact3]
  rw [pf_stops]
  rw [inclusionTotals_fact4]
  rw [pf_knobs]
  rw [inclusionTotals_fact5]
  rw [inclusionTotals_fact6]
  rw [inclusionTotals_fact7]
  rw [inclusionTotals_fact8]
  rw [inclusionTotals_fact9]
  rw [inclusionTotals_fact10]
  rw [inclusionTotals_fact11]
  rw [inclusionTotals_fact12]
  rw [inclusionTotals_fact13]
  rw [inclusionTotals_fact14]
  rw [inclusionTotals_fact15]
  rw [inclusionTotals_fact16]
  rw [inclusionTotals_fact17]
  rw [inclusionTotals_fact18]
  rw [inclusionTotals_fact19]
  rw [pf_heard]
  rw [pf_enter]
  rw [inclusionTotals_fact20]
  rw [inclusionTotals_fact21]
  rw [inclusionTotals_fact23]
  rw [inclusionTotals_fact24]
  rw [inclusionTotals_fact25]
  simp only [Bool.and_true, Bool.true_and]
  kernel_rfl
theorem inclusionTotals_fun : Tryz.pinned.checked.prog.funcNamed Rows.inclusionTotalsRow.func = some 12 := by kernel_rfl
theorem inclusionTotals_goes : false = Rows.inclusionTotalsRow.goesBy Tryz.pinned.checked.prog := by kernel_rfl
theorem inclusionTotals_text : Rows.inclusionTotalsRow.wfByText (OpenSpec.ofChange Rows.inclusionTotalsSpec) = true := by kernel_rfl
theorem inclusionTotals_stand : ([22, 35].all fun u => !Tryz.prog.wantsStandIn u) = true := by kernel_rfl
set_option maxRecDepth 100000 in
theorem inclusionTotals_lifted (os : Os) (started : os.Started) (H : Type) (enc : TypeId × Value → H) :
    ReturnsInHanded {} Tryz.checked os 12 .any (fun w args => (Rows.inclusionTotalsSpec.pre enc Tryz.prog Tryz.f12 Rows.inclusionTotalsRow.domain false w args ∧ laidMetH Tryz.prog Rows.inclusionTotalsRow.laid w) ∧ sizedMet enc Tryz.prog Tryz.f12 (OpenSpec.ofChange Rows.inclusionTotalsSpec) false w args)
      (Rows.inclusionTotalsSpec.post enc Tryz.prog Tryz.f12 false true false false) := by
  refine returnsInHanded_of_change_and (C := Tryz.checked) (X := fun w _ => laidMetH Tryz.prog Rows.inclusionTotalsRow.laid w) (fun _ _ _ hh h => h.of_heap hh) ownK started (by kernel_rfl) Tryz.func12
    (ChangeSpec.witness_shaped (enc := enc) (C := Tryz.checked) (os := os) (X := fun w _ => laidMetH Tryz.prog Rows.inclusionTotalsRow.laid w) false (World.laidAll Tryz.prog os Rows.inclusionTotalsRow.laid) #[.slice none 0 0, .slice none 0 0] 8 (World.laidAll_os _ _ _)
      (World.shaped_of_ZipB (by kernel_rfl) (by kernel_rfl)) (by kernel_rfl) (by kernel_rfl) (by kernel_rfl)
      (by rw [MakeChecks.laidMetH_plain _ _ _ (by kernel_rfl)]; exact laidMet_laidAll _ (by kernel_rfl) (by kernel_rfl))) ?_
  intro W base args ds gs before hval hW _ hsz _ _
  exact liftIR 12 Tryz.f12 rfl (fun _ _ _ => rfl) Tryz.params12 (by kernel_rfl) (fun W cv v xs ps h1 h2 => intotal_true cv v xs ps W h1 h2) W base args ds gs before hval hW hsz
theorem inclusionTotals_holds : Rows.InclusionTotalsSaid :=
  OpenClaim.holds_of_wide 12 Tryz.f12 rfl rfl rfl rfl rfl rfl rfl ⟨rfl, rfl, rfl, rfl, rfl⟩ rfl rfl rfl rfl rfl inclusionTotals_fun Tryz.func12 inclusionTotals_closed
    (of_decide_eq_true (by kernel_rfl)) (by unfold Func.isWrapper; first | (rw [if_pos (by decide +kernel)]; kernel_rfl) | (rw [if_neg (by decide +kernel)]; exact ⟨rfl, rfl⟩))
    (fun os started H enc _ => inclusionTotals_lifted os started H enc)
theorem inclusionTotals_card : Rows.InclusionTotalsCardSaid :=
  Claim7.holds_tied_plain_at .later [] [.data, .pinned] true (true, "3399edabd4861bf0e64f06564a9d90a90514eb3b736d995d6b03d2bf706bead7") true inclusionTotals_holds (fun _ h => by cases h) inclusionTotals_text (fun _ h => by cases h) inclusionTotals_row_tie rfl ⟨rfl, rfl⟩ pf_main rfl
    (fun f fn hf hfn => by
      obtain rfl : f = 12 := Option.some.inj (inclusionTotals_fun.symm.trans hf) |>.symm
      obtain rfl : fn = Tryz.f12 := (Option.some.inj (Tryz.func12.symm.trans hfn)).symm
      exact ⟨pf_looks, fun j t ht => by
        rw [Tryz.params12] at ht
        have hm : t ∈ [22, 35] := by simpa using Array.mem_of_getElem? ht
        exact (show Tryz.prog.wantsStandIn t = false by simpa using List.all_eq_true.1 inclusionTotals_stand t hm)⟩)
    inclusionTotals_goes
end Go.Proofs.YtbkchheikkbebaaGreatDoor
