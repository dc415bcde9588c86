import Derived.Test.YtbkchheikkbebaaGreatDoorDD1
import Derived.Test.YtbkchheikkbebaaGreatDoorDD2
import Derived.Test.YtbkchheikkbebaaGreatDoorDD3
import Derived.Test.YtbkchheikkbebaaGreatDoorDD4
import Derived.Test.YtbkchheikkbebaaGreatDoorDD5
import Derived.Test.YtbkchheikkbebaaGreatDoorDD6
import Derived.Test.YtbkchheikkbebaaGreatDoorDD7
import Derived.Test.YtbkchheikkbebaaGreatDoorDD8
import Derived.Test.YtbkchheikkbebaaGreatDoorDD9
import Derived.Test.YtbkchheikkbebaaGreatDoorRows
import Derived.Test.YtbkchheikkbebaaGreatDoorChecked
import Derived.Test.YtbkchheikkbebaaGreatDoorCards
import Derived.Test.YtbkchheikkbebaaGreatDoorTie
import Derived.ProofKit
import Derived.OpenShut
import Derived.LaidMore
import Derived.Lay
import Derived.SevenTiedAt
import Derived.Stop.Joined
/-
  The law DisjointStates: its lift and its tied card.
-/
namespace Go.Proofs.YtbkchheikkbebaaGreatDoor
open Go.RowKit Go.ChangeShapes Go.WideShapes Go.ChangeAt

open Go.Joins Go.Deep
theorem disjointStates_fact0 : (Rows.disjointStatesRow.wf (OpenSpec.ofChange Rows.disjointStatesSpec)) = true := by kernel_rfl
theorem disjointStates_fact1 : (Tryz.f5.params.all (Tryz.prog.readableRec ·)) = true := by kernel_rfl
theorem disjointStates_fact2 : (namedTie Tryz.prog Rows.disjointStatesRow.named Rows.disjointStatesSpec.vars) = true := by kernel_rfl
theorem disjointStates_fact3 : ((Rows.disjointStatesRow.stops == [])) = true := by kernel_rfl
theorem disjointStates_fact4 : ((Rows.disjointStatesRow.knobs == [])) = true := by kernel_rfl
theorem disjointStates_fact5 : ((Rows.disjointStatesRow.inPlace == Tryz.prog.inPlace 5)) = true := by kernel_rfl
theorem disjointStates_fact6 : ((Rows.disjointStatesRow.unfollowed == Tryz.prog.unfollowed 5)) = true := by kernel_rfl
theorem disjointStates_fact7 : ((Rows.disjointStatesRow.recurses == Tryz.prog.recurses 5)) = true := by kernel_rfl
theorem disjointStates_fact8 : ((Rows.disjointStatesRow.named == Tryz.prog.varsNamed 5)) = true := by kernel_rfl
theorem disjointStates_fact9 : ((Rows.disjointStatesRow.maps == (Tryz.f5.params.toList ++ Rows.disjointStatesSpec.plain.varTypes Tryz.prog).any (Tryz.prog.mapsRec ·))) = true := by kernel_rfl
theorem disjointStates_fact10 : ((Rows.disjointStatesRow.ifaces == (Tryz.f5.params.toList ++ Rows.disjointStatesSpec.plain.varTypes Tryz.prog).any (Tryz.prog.ifacesRec ·))) = true := by kernel_rfl
theorem disjointStates_fact11 : ((Rows.disjointStatesRow.mapsOut == Tryz.prog.mapsAmong Tryz.f5.resultTypes.toList)) = true := by kernel_rfl
theorem disjointStates_fact12 : ((Rows.disjointStatesRow.loops == (Tryz.f5.params.toList ++ Rows.disjointStatesSpec.plain.varTypes Tryz.prog).any (Tryz.prog.loopsFrom ·))) = true := by kernel_rfl
theorem disjointStates_fact13 : ((Rows.disjointStatesRow.wideKeys == (Tryz.f5.params.toList ++ Rows.disjointStatesSpec.plain.varTypes Tryz.prog ++ Tryz.f5.resultTypes.toList).any (Tryz.prog.wideKeysFrom ·))) = true := by kernel_rfl
theorem disjointStates_fact14 : (Rows.disjointStatesSpec.vars.all (Tryz.prog.varReadable ·)) = true := by kernel_rfl
theorem disjointStates_fact15 : (Tryz.f5.resultTypes.all (fun t => Tryz.prog.readableRec t && decide (t < Tryz.prog.types.size))) = true := by kernel_rfl
theorem disjointStates_fact16 : ((Rows.disjointStatesRow.ifacesOut == Tryz.f5.resultTypes.toList.any (Tryz.prog.ifacesRec ·))) = true := by kernel_rfl
theorem disjointStates_fact17 : ((Rows.disjointStatesRow.loopsOut == Tryz.f5.resultTypes.toList.any (Tryz.prog.loopsFrom ·))) = true := by kernel_rfl
theorem disjointStates_fact18 : ((Rows.disjointStatesRow.plainKeys == Tryz.prog.plainKeys)) = true := by kernel_rfl
theorem disjointStates_fact19 : (Rows.disjointStatesRow.shortTexts.isNone) = true := by kernel_rfl
theorem disjointStates_fact20 : ((Rows.disjointStatesRow.lifted == Tryz.prog.liftsFinal)) = true := by rw [pf_final]; kernel_rfl
theorem disjointStates_fact21 : ((Tryz.prog.make == some Rows.disjointStatesRow.make)) = true := by rw [pf_make]; kernel_rfl
theorem disjointStates_fact23 : ((Rows.disjointStatesRow.pinned == Rows.disjointStatesRow.pinnedBy)) = true := by kernel_rfl
theorem disjointStates_fact24 : ((Rows.disjointStatesRow.veiled == (Tryz.f5.params.toList ++ Rows.disjointStatesSpec.plain.varTypes Tryz.prog ++ Tryz.f5.resultTypes.toList).any (Tryz.prog.veiledRec ·))) = true := by kernel_rfl
theorem disjointStates_fact25 : (Rows.disjointStatesRow.veiledFits Tryz.prog Tryz.f5.params.toList (Tryz.f5.params.toList ++ Rows.disjointStatesSpec.plain.varTypes Tryz.prog ++ Tryz.f5.resultTypes.toList)) = true := by kernel_rfl
theorem disjointStates_closed : joinedFacts Tryz.prog 5 Tryz.f5 Rows.disjointStatesSpec Rows.disjointStatesRow = true := by
  unfold joinedFacts
  rw [disjointStates_fact0]
  rw [pf_laidout]
  rw [pf_mapsrowed]
  rw [disjointStates_fact1]
  rw [disjointStates_fact2]
  rw [disjointStates_fact3]
  rw [pf_stops]
  rw [disjointStates_fact4]
  rw [pf_knobs]
  rw [disjointStates_fact5]
  rw [disjointStates_fact6]
  rw [disjointStates_fact7]
  rw [disjointStates_fact8]
  rw [disjointStates_fact9]
  rw [disjointStates_fact10]
  rw [disjointStates_fact11]
  rw [disjointStates_fact12]
  rw [disjointStates_fact13]
  rw [disjointStates_fact14]
  rw [disjointStates_fact15]
  rw [disjointStates_fact16]
  rw [disjointStates_fact17]
  rw [disjointStates_fact18]
  rw [disjointStates_fact19]
  rw [pf_heard]
  rw [pf_enter]
  rw [disjointStates_fact20]
  rw [disjointStates_fact21]
  rw [disjointStates_fact23]
  rw [disjointStates_fact24]
  rw [disjointStates_fact25]
  simp only [Bool.and_true, Bool.true_and]
  kernel_rfl
theorem disjointStates_fun : Tryz.pinned.checked.prog.funcNamed Rows.disjointStatesRow.func = some 5 := by kernel_rfl
theorem disjointStates_goes : false = Rows.disjointStatesRow.goesBy Tryz.pinned.checked.prog := by kernel_rfl
theorem disjointStates_text : Rows.disjointStatesRow.wfByText (OpenSpec.ofChange Rows.disjointStatesSpec) = true := by kernel_rfl
theorem disjointStates_stand : ([22, 48].all fun u => !Tryz.prog.wantsStandIn u) = true := by kernel_rfl
set_option maxRecDepth 100000 in
theorem disjointStates_lifted (os : Os) (started : os.Started) (H : Type) (enc : TypeId × Value → H) :
    ReturnsInHanded {} Tryz.checked os 5 .any (fun w args => (Rows.disjointStatesSpec.pre enc Tryz.prog Tryz.f5 Rows.disjointStatesRow.domain false w args ∧ laidMetH Tryz.prog Rows.disjointStatesRow.laid w) ∧ sizedMet enc Tryz.prog Tryz.f5 (OpenSpec.ofChange Rows.disjointStatesSpec) false w args)
      (Rows.disjointStatesSpec.post enc Tryz.prog Tryz.f5 false true false false) := by
  refine returnsInHanded_of_change_and (C := Tryz.checked) (X := fun w _ => laidMetH Tryz.prog Rows.disjointStatesRow.laid w) (fun _ _ _ hh h => h.of_heap hh) ownK started (by kernel_rfl) Tryz.func5
    (ChangeSpec.witness_shaped (enc := enc) (C := Tryz.checked) (os := os) (X := fun w _ => laidMetH Tryz.prog Rows.disjointStatesRow.laid w) false (World.laidAll Tryz.prog os Rows.disjointStatesRow.laid) #[.slice none 0 0, .int .u32 0] 8 (World.laidAll_os _ _ _)
      (World.shaped_of_ZipB (by kernel_rfl) (by kernel_rfl)) (by kernel_rfl) (by kernel_rfl) (by kernel_rfl)
      (by rw [MakeChecks.laidMetH_plain _ _ _ (by kernel_rfl)]; exact laidMet_laidAll _ (by kernel_rfl) (by kernel_rfl))) ?_
  intro W base args ds gs before hval hW _ hsz _ _
  exact liftIN 5 Tryz.f5 48 .u32 Tryz.underlying48 (by kernel_rfl) (of_decide_eq_true (by kernel_rfl)) rfl (fun _ _ _ => rfl) Tryz.params5 (by kernel_rfl) (fun W v xs x h hx => dstates_true v xs x W h hx) W base args ds gs before hval hW hsz
theorem disjointStates_holds : Rows.DisjointStatesSaid :=
  OpenClaim.holds_of_wide 5 Tryz.f5 rfl rfl rfl rfl rfl rfl rfl ⟨rfl, rfl, rfl, rfl, rfl⟩ rfl rfl rfl rfl rfl disjointStates_fun Tryz.func5 disjointStates_closed
    (of_decide_eq_true (by kernel_rfl)) (by unfold Func.isWrapper; first | (rw [if_pos (by decide +kernel)]; kernel_rfl) | (rw [if_neg (by decide +kernel)]; exact ⟨rfl, rfl⟩))
    (fun os started H enc _ => disjointStates_lifted os started H enc)
theorem disjointStates_card : Rows.DisjointStatesCardSaid :=
  Claim7.holds_tied_plain_at .later [] [.data, .pinned] true (true, "3399edabd4861bf0e64f06564a9d90a90514eb3b736d995d6b03d2bf706bead7") true disjointStates_holds (fun _ h => by cases h) disjointStates_text (fun _ h => by cases h) disjointStates_row_tie rfl ⟨rfl, rfl⟩ pf_main rfl
    (fun f fn hf hfn => by
      obtain rfl : f = 5 := Option.some.inj (disjointStates_fun.symm.trans hf) |>.symm
      obtain rfl : fn = Tryz.f5 := (Option.some.inj (Tryz.func5.symm.trans hfn)).symm
      exact ⟨pf_looks, fun j t ht => by
        rw [Tryz.params5] at ht
        have hm : t ∈ [22, 48] := by simpa using Array.mem_of_getElem? ht
        exact (show Tryz.prog.wantsStandIn t = false by simpa using List.all_eq_true.1 disjointStates_stand t hm)⟩)
    disjointStates_goes
end Go.Proofs.YtbkchheikkbebaaGreatDoor
