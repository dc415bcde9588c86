import Derived.Test.YtbkchheikkbebaaGreatDoorDD1
import Derived.Test.YtbkchheikkbebaaGreatDoorDD2
import Derived.Test.YtbkchheikkbebaaGreatDoorDD3
import Derived.Test.YtbkchheikkbebaaGreatDoorDD4
import Derived.Test.YtbkchheikkbebaaGreatDoorDD5
import Derived.Test.YtbkchheikkbebaaGreatDoorDD6
import Derived.Test.YtbkchheikkbebaaGreatDoorDD7
import Derived.Test.YtbkchheikkbebaaGreatDoorDD8
import Derived.Test.YtbkchheikkbebaaGreatDoorDD9
import Derived.Test.YtbkchheikkbebaaGreatDoorRows
import Derived.Test.YtbkchheikkbebaaGreatDoorChecked
import Derived.Test.YtbkchheikkbebaaGreatDoorCards
import Derived.Test.YtbkchheikkbebaaGreatDoorTie
import Derived.ProofKit
import Derived.OpenShut
import Derived.LaidMore
import Derived.Lay
import Derived.SevenTiedAt
import Derived.Stop.Joined
/-
  The law DisjointProbs: its lift and its tied card.
-/
namespace Go.Proofs.YtbkchheikkbebaaGreatDoor
open Go.RowKit Go.ChangeShapes Go.WideShapes Go.ChangeAt

open Go.Joins Go.Deep
theorem disjointProbs_fact0 : (Rows.disjointProbsRow.wf (OpenSpec.ofChange Rows.disjointProbsSpec)) = true := by kernel_rfl
theorem disjointProbs_fact1 : (Tryz.f4.params.all (Tryz.prog.readableRec ·)) = true := by kernel_rfl
theorem disjointProbs_fact2 : (namedTie Tryz.prog Rows.disjointProbsRow.named Rows.disjointProbsSpec.vars) = true := by kernel_rfl
theorem disjointProbs_fact3 : ((Rows.disjointProbsRow.stops == [])) = true := by kernel_rfl
theorem disjointProbs_fact4 : ((Rows.disjointProbsRow.knobs == [])) = true := by kernel_rfl
theorem disjointProbs_fact5 : ((Rows.disjointProbsRow.inPlace == Tryz.prog.inPlace 4)) = true := by kernel_rfl
theorem disjointProbs_fact6 : ((Rows.disjointProbsRow.unfollowed == Tryz.prog.unfollowed 4)) = true := by kernel_rfl
theorem disjointProbs_fact7 : ((Rows.disjointProbsRow.recurses == Tryz.prog.recurses 4)) = true := by kernel_rfl
theorem disjointProbs_fact8 : ((Rows.disjointProbsRow.named == Tryz.prog.varsNamed 4)) = true := by kernel_rfl
theorem disjointProbs_fact9 : ((Rows.disjointProbsRow.maps == (Tryz.f4.params.toList ++ Rows.disjointProbsSpec.plain.varTypes Tryz.prog).any (Tryz.prog.mapsRec ·))) = true := by kernel_rfl
theorem disjointProbs_fact10 : ((Rows.disjointProbsRow.ifaces == (Tryz.f4.params.toList ++ Rows.disjointProbsSpec.plain.varTypes Tryz.prog).any (Tryz.prog.ifacesRec ·))) = true := by kernel_rfl
theorem disjointProbs_fact11 : ((Rows.disjointProbsRow.mapsOut == Tryz.prog.mapsAmong Tryz.f4.resultTypes.toList)) = true := by kernel_rfl
theorem disjointProbs_fact12 : ((Rows.disjointProbsRow.loops == (Tryz.f4.params.toList ++ Rows.disjointProbsSpec.plain.varTypes Tryz.prog).any (Tryz.prog.loopsFrom ·))) = true := by kernel_rfl
theorem disjointProbs_fact13 : ((Rows.disjointProbsRow.wideKeys == (Tryz.f4.params.toList ++ Rows.disjointProbsSpec.plain.varTypes Tryz.prog ++ Tryz.f4.resultTypes.toList).any (Tryz.prog.wideKeysFrom ·))) = true := by kernel_rfl
theorem disjointProbs_fact14 : (Rows.disjointProbsSpec.vars.all (Tryz.prog.varReadable ·)) = true := by kernel_rfl
theorem disjointProbs_fact15 : (Tryz.f4.resultTypes.all (fun t => Tryz.prog.readableRec t && decide (t < Tryz.prog.types.size))) = true := by kernel_rfl
theorem disjointProbs_fact16 : ((Rows.disjointProbsRow.ifacesOut == Tryz.f4.resultTypes.toList.any (Tryz.prog.ifacesRec ·))) = true := by kernel_rfl
theorem disjointProbs_fact17 : ((Rows.disjointProbsRow.loopsOut == Tryz.f4.resultTypes.toList.any (Tryz.prog.loopsFrom ·))) = true := by kernel_rfl
theorem disjointProbs_fact18 : ((Rows.disjointProbsRow.plainKeys == Tryz.prog.plainKeys)) = true := by kernel_rfl
theorem disjointProbs_fact19 : (Rows.disjointProbsRow.shortTexts.isNone) = true := by kernel_rfl
theorem disjointProbs_fact20 : ((Rows.disjointProbsRow.lifted == Tryz.prog.liftsFinal)) = true := by rw [pf_final]; kernel_rfl
theorem disjointProbs_fact21 : ((Tryz.prog.make == some Rows.disjointProbsRow.make)) = true := by rw [pf_make]; kernel_rfl
theorem disjointProbs_fact23 : ((Rows.disjointProbsRow.pinned == Rows.disjointProbsRow.pinnedBy)) = true := by kernel_rfl
theorem disjointProbs_fact24 : ((Rows.disjointProbsRow.veiled == (Tryz.f4.params.toList ++ Rows.disjointProbsSpec.plain.varTypes Tryz.prog ++ Tryz.f4.resultTypes.toList).any (Tryz.prog.veiledRec ·))) = true := by kernel_rfl
theorem disjointProbs_fact25 : (Rows.disjointProbsRow.veiledFits Tryz.prog Tryz.f4.params.toList (Tryz.f4.params.toList ++ Rows.disjointProbsSpec.plain.varTypes Tryz.prog ++ Tryz.f4.resultTypes.toList)) = true := by kernel_rfl
theorem disjointProbs_closed : joinedFacts Tryz.prog 4 Tryz.f4 Rows.disjointProbsSpec Rows.disjointProbsRow = true := by
  unfold joinedFacts
  rw [disjointProbs_fact0]
  rw [pf_laidout]
  rw [pf_mapsrowed]
  rw [disjointProbs_fact1]
  rw [disjointProbs_fact2]
  rw [disjointProbs_fact3]
  rw [pf_stops]
  rw [disjointProbs_fact4]
  rw [pf_knobs]
  rw [disjointProbs_fact5]
  rw [disjointProbs_fact6]
  rw [disjointProbs_fact7]
  rw [disjointProbs_fact8]
  rw [disjointProbs_fact9]
  rw [disjointProbs_fact10]
  rw [disjointProbs_fact11]
  rw [disjointProbs_fact12]
  rw [disjointProbs_fact13]
  rw [disjointProbs_fact14]
  rw [disjointProbs_fact15]
  rw [disjointProbs_fact16]
  rw [disjointProbs_fact17]
  rw [disjointProbs_fact18]
  rw [disjointProbs_fact19]
  rw [pf_heard]
  rw [pf_enter]
  rw [disjointProbs_fact20]
  rw [disjointProbs_fact21]
  rw [disjointProbs_fact23]
  rw [disjointProbs_fact24]
  rw [disjointProbs_fact25]
  simp only [Bool.and_true, Bool.true_and]
  kernel_rfl
theorem disjointProbs_fun : Tryz.pinned.checked.prog.funcNamed Rows.disjointProbsRow.func = some 4 := by kernel_rfl
theorem disjointProbs_goes : false = Rows.disjointProbsRow.goesBy Tryz.pinned.checked.prog := by kernel_rfl
theorem disjointProbs_text : Rows.disjointProbsRow.wfByText (OpenSpec.ofChange Rows.disjointProbsSpec) = true := by kernel_rfl
theorem disjointProbs_stand : ([25, 35].all fun u => !Tryz.prog.wantsStandIn u) = true := by kernel_rfl
set_option maxRecDepth 100000 in
theorem disjointProbs_lifted (os : Os) (started : os.Started) (H : Type) (enc : TypeId × Value → H) :
    ReturnsInHanded {} Tryz.checked os 4 .any (fun w args => (Rows.disjointProbsSpec.pre enc Tryz.prog Tryz.f4 Rows.disjointProbsRow.domain false w args ∧ laidMetH Tryz.prog Rows.disjointProbsRow.laid w) ∧ sizedMet enc Tryz.prog Tryz.f4 (OpenSpec.ofChange Rows.disjointProbsSpec) false w args)
      (Rows.disjointProbsSpec.post enc Tryz.prog Tryz.f4 false true false false) := by
  refine returnsInHanded_of_change_and (C := Tryz.checked) (X := fun w _ => laidMetH Tryz.prog Rows.disjointProbsRow.laid w) (fun _ _ _ hh h => h.of_heap hh) ownK started (by kernel_rfl) Tryz.func4
    (ChangeSpec.witness_shaped (enc := enc) (C := Tryz.checked) (os := os) (X := fun w _ => laidMetH Tryz.prog Rows.disjointProbsRow.laid w) false (World.laidAll Tryz.prog os Rows.disjointProbsRow.laid) #[.slice none 0 0, .slice none 0 0] 8 (World.laidAll_os _ _ _)
      (World.shaped_of_ZipB (by kernel_rfl) (by kernel_rfl)) (by kernel_rfl) (by kernel_rfl) (by kernel_rfl)
      (by rw [MakeChecks.laidMetH_plain _ _ _ (by kernel_rfl)]; exact laidMet_laidAll _ (by kernel_rfl) (by kernel_rfl))) ?_
  intro W base args ds gs before hval hW _ hsz _ _
  exact liftCR 4 Tryz.f4 rfl (fun _ _ _ => rfl) Tryz.params4 (by kernel_rfl) (fun W cv v xs ps h1 h2 => dprobs_true cv v xs ps W h1 h2) W base args ds gs before hval hW hsz
theorem disjointProbs_holds : Rows.DisjointProbsSaid :=
  OpenClaim.holds_of_wide 4 Tryz.f4 rfl rfl rfl rfl rfl rfl rfl ⟨rfl, rfl, rfl, rfl, rfl⟩ rfl rfl rfl rfl rfl disjointProbs_fun Tryz.func4 disjointProbs_closed
    (of_decide_eq_true (by kernel_rfl)) (by unfold Func.isWrapper; first | (rw [if_pos (by decide +kernel)]; kernel_rfl) | (rw [if_neg (by decide +kernel)]; exact ⟨rfl, rfl⟩))
    (fun os started H enc _ => disjointProbs_lifted os started H enc)
theorem disjointProbs_card : Rows.DisjointProbsCardSaid :=
  Claim7.holds_tied_plain_at .later [] [.data, .pinned] true (true, "3399edabd4861bf0e64f06564a9d90a90514eb3b736d995d6b03d2bf706bead7") true disjointProbs_holds (fun _ h => by cases h) disjointProbs_text (fun _ h => by cases h) disjointProbs_row_tie rfl ⟨rfl, rfl⟩ pf_main rfl
    (fun f fn hf hfn => by
      obtain rfl : f = 4 := Option.some.inj (disjointProbs_fun.symm.trans hf) |>.symm
      obtain rfl : fn = Tryz.f4 := (Option.some.inj (Tryz.func4.symm.trans hfn)).symm
      exact ⟨pf_looks, fun j t ht => by
        rw [Tryz.params4] at ht
        have hm : t ∈ [25, 35] := by simpa using Array.mem_of_getElem? ht
        exact (show Tryz.prog.wantsStandIn t = false by simpa using List.all_eq_true.1 disjointProbs_stand t hm)⟩)
    disjointProbs_goes
end Go.Proofs.YtbkchheikkbebaaGreatDoor
