import Derived.Test.YtbkchheikkbebaaGreatDoorDD1
import Derived.Test.YtbkchheikkbebaaGreatDoorDD2
import Derived.Test.YtbkchheikkbebaaGreatDoorDD3
import Derived.Test.YtbkchheikkbebaaGreatDoorDD4
import Derived.Test.YtbkchheikkbebaaGreatDoorDD5
import Derived.Test.YtbkchheikkbebaaGreatDoorDD6
import Derived.Test.YtbkchheikkbebaaGreatDoorDD7
import Derived.Test.YtbkchheikkbebaaGreatDoorDD8
import Derived.Test.YtbkchheikkbebaaGreatDoorDD9
import Derived.Test.YtbkchheikkbebaaGreatDoorRows
import Derived.Test.YtbkchheikkbebaaGreatDoorChecked
import Derived.Test.YtbkchheikkbebaaGreatDoorCards
import Derived.Test.YtbkchheikkbebaaGreatDoorTie
import Derived.ProofKit
import Derived.OpenShut
import Derived.LaidMore
import Derived.Lay
import Derived.SevenTiedAt
import Derived.Stop.Joined
/-
  The law DisjointCubes: for every list of ints the call returns true, and the list reads as before; its tied card.
-/
namespace Go.Proofs.YtbkchheikkbebaaGreatDoor
open Go.RowKit Go.ChangeShapes Go.WideShapes Go.ChangeAt

open Go.Joins Go.Deep
theorem disjointCubes_fact0 : (Rows.disjointCubesRow.wf (OpenSpec.ofChange Rows.disjointCubesSpec)) = true := by kernel_rfl
theorem disjointCubes_fact1 : (Tryz.f3.params.all (Tryz.prog.readableRec ·)) = true := by kernel_rfl
theorem disjointCubes_fact2 : (namedTie Tryz.prog Rows.disjointCubesRow.named Rows.disjointCubesSpec.vars) = true := by kernel_rfl
theorem disjointCubes_fact3 : ((Rows.disjointCubesRow.stops == [])) = true := by kernel_rfl
theorem disjointCubes_fact4 : ((Rows.disjointCubesRow.knobs == [])) = true := by kernel_rfl
theorem disjointCubes_fact5 : ((Rows.disjointCubesRow.inPlace == Tryz.prog.inPlace 3)) = true := by kernel_rfl
theorem disjointCubes_fact6 : ((Rows.disjointCubesRow.unfollowed == Tryz.prog.unfollowed 3)) = true := by kernel_rfl
theorem disjointCubes_fact7 : ((Rows.disjointCubesRow.recurses == Tryz.prog.recurses 3)) = true := by kernel_rfl
theorem disjointCubes_fact8 : ((Rows.disjointCubesRow.named == Tryz.prog.varsNamed 3)) = true := by kernel_rfl
theorem disjointCubes_fact9 : ((Rows.disjointCubesRow.maps == (Tryz.f3.params.toList ++ Rows.disjointCubesSpec.plain.varTypes Tryz.prog).any (Tryz.prog.mapsRec ·))) = true := by kernel_rfl
theorem disjointCubes_fact10 : ((Rows.disjointCubesRow.ifaces == (Tryz.f3.params.toList ++ Rows.disjointCubesSpec.plain.varTypes Tryz.prog).any (Tryz.prog.ifacesRec ·))) = true := by kernel_rfl
theorem disjointCubes_fact11 : ((Rows.disjointCubesRow.mapsOut == Tryz.prog.mapsAmong Tryz.f3.resultTypes.toList)) = true := by kernel_rfl
theorem disjointCubes_fact12 : ((Rows.disjointCubesRow.loops == (Tryz.f3.params.toList ++ Rows.disjointCubesSpec.plain.varTypes Tryz.prog).any (Tryz.prog.loopsFrom ·))) = true := by kernel_rfl
theorem disjointCubes_fact13 : ((Rows.disjointCubesRow.wideKeys == (Tryz.f3.params.toList ++ Rows.disjointCubesSpec.plain.varTypes Tryz.prog ++ Tryz.f3.resultTypes.toList).any (Tryz.prog.wideKeysFrom ·))) = true := by kernel_rfl
theorem disjointCubes_fact14 : (Rows.disjointCubesSpec.vars.all (Tryz.prog.varReadable ·)) = true := by kernel_rfl
theorem disjointCubes_fact15 : (Tryz.f3.resultTypes.all (fun t => Tryz.prog.readableRec t && decide (t < Tryz.prog.types.size))) = true := by kernel_rfl
theorem disjointCubes_fact16 : ((Rows.disjointCubesRow.ifacesOut == Tryz.f3.resultTypes.toList.any (Tryz.prog.ifacesRec ·))) = true := by kernel_rfl
theorem disjointCubes_fact17 : ((Rows.disjointCubesRow.loopsOut == Tryz.f3.resultTypes.toList.any (Tryz.prog.loopsFrom ·))) = true := by kernel_rfl
theorem disjointCubes_fact18 : ((Rows.disjointCubesRow.plainKeys == Tryz.prog.plainKeys)) = true := by kernel_rfl
theorem disjointCubes_fact19 : (Rows.disjointCubesRow.shortTexts.isNone) = true := by kernel_rfl
theorem disjointCubes_fact20 : ((Rows.disjointCubesRow.lifted == Tryz.prog.liftsFinal)) = true := by rw [pf_final]; kernel_rfl
theorem disjointCubes_fact21 : ((Tryz.prog.make == some Rows.disjointCubesRow.make)) = true := by rw [pf_make]; kernel_rfl
theorem disjointCubes_fact23 : ((Rows.disjointCubesRow.pinned == Rows.disjointCubesRow.pinnedBy)) = true := by kernel_rfl
theorem disjointCubes_fact24 : ((Rows.disjointCubesRow.veiled == (Tryz.f3.params.toList ++ Rows.disjointCubesSpec.plain.varTypes Tryz.prog ++ Tryz.f3.resultTypes.toList).any (Tryz.prog.veiledRec ·))) = true := by kernel_rfl
theorem disjointCubes_fact25 : (Rows.disjointCubesRow.veiledFits Tryz.prog Tryz.f3.params.toList (Tryz.f3.params.toList ++ Rows.disjointCubesSpec.plain.varTypes Tryz.prog ++ Tryz.f3.resultTypes.toList)) = true := by kernel_rfl
theorem disjointCubes_closed : joinedFacts Tryz.prog 3 Tryz.f3 Rows.disjointCubesSpec Rows.disjointCubesRow = true := by
  unfold joinedFacts
  rw [disjointCubes_fact0]
  rw [pf_laidout]
  rw [pf_mapsrowed]
  rw [disjointCubes_fact1]
  rw [disjointCubes_fact2]
  rw [disjointCubes_fact3]
  rw [pf_stops]
  rw [disjointCubes_fact4]
  rw [pf_knobs]
  rw [disjointCubes_fact5]
  rw [disjointCubes_fact6]
  rw [disjointCubes_fact7]
  rw [disjointCubes_fact8]
  rw [disjointCubes_fact9]
  rw [disjointCubes_fact10]
  rw [disjointCubes_fact11]
  rw [disjointCubes_fact12]
  rw [disjointCubes_fact13]
  rw [disjointCubes_fact14]
  rw [disjointCubes_fact15]
  rw [disjointCubes_fact16]
  rw [disjointCubes_fact17]
  rw [disjointCubes_fact18]
  rw [disjointCubes_fact19]
  rw [pf_heard]
  rw [pf_enter]
  rw [disjointCubes_fact20]
  rw [disjointCubes_fact21]
  rw [disjointCubes_fact23]
  rw [disjointCubes_fact24]
  rw [disjointCubes_fact25]
  simp only [Bool.and_true, Bool.true_and]
  kernel_rfl
theorem disjointCubes_fun : Tryz.pinned.checked.prog.funcNamed Rows.disjointCubesRow.func = some 3 := by kernel_rfl
theorem disjointCubes_goes : false = Rows.disjointCubesRow.goesBy Tryz.pinned.checked.prog := by kernel_rfl
theorem disjointCubes_text : Rows.disjointCubesRow.wfByText (OpenSpec.ofChange Rows.disjointCubesSpec) = true := by kernel_rfl
theorem disjointCubes_stand : ([22].all fun u => !Tryz.prog.wantsStandIn u) = true := by kernel_rfl
set_option maxRecDepth 100000 in
theorem disjointCubes_lifted (os : Os) (started : os.Started) (H : Type) (enc : TypeId × Value → H) :
    ReturnsInHanded {} Tryz.checked os 3 .any (fun w args => (Rows.disjointCubesSpec.pre enc Tryz.prog Tryz.f3 Rows.disjointCubesRow.domain false w args ∧ laidMetH Tryz.prog Rows.disjointCubesRow.laid w) ∧ sizedMet enc Tryz.prog Tryz.f3 (OpenSpec.ofChange Rows.disjointCubesSpec) false w args)
      (Rows.disjointCubesSpec.post enc Tryz.prog Tryz.f3 false true false false) := by
  refine returnsInHanded_of_change_and (C := Tryz.checked) (X := fun w _ => laidMetH Tryz.prog Rows.disjointCubesRow.laid w) (fun _ _ _ hh h => h.of_heap hh) ownK started (by kernel_rfl) Tryz.func3
    (ChangeSpec.witness_shaped (enc := enc) (C := Tryz.checked) (os := os) (X := fun w _ => laidMetH Tryz.prog Rows.disjointCubesRow.laid w) false (World.laidAll Tryz.prog os Rows.disjointCubesRow.laid) #[.slice none 0 0] 8 (World.laidAll_os _ _ _)
      (World.shaped_of_ZipB (by kernel_rfl) (by kernel_rfl)) (by kernel_rfl) (by kernel_rfl) (by kernel_rfl)
      (by rw [MakeChecks.laidMetH_plain _ _ _ (by kernel_rfl)]; exact laidMet_laidAll _ (by kernel_rfl) (by kernel_rfl))) ?_
  intro W base args ds gs before hval hW _ hsz _ _
  exact liftI 3 Tryz.f3 rfl (fun _ _ => rfl) Tryz.params3 (by kernel_rfl) (fun W v xs h => dcubes_true v xs W h) W base args ds gs before hval hW hsz
theorem disjointCubes_holds : Rows.DisjointCubesSaid :=
  OpenClaim.holds_of_wide 3 Tryz.f3 rfl rfl rfl rfl rfl rfl rfl ⟨rfl, rfl, rfl, rfl, rfl⟩ rfl rfl rfl rfl rfl disjointCubes_fun Tryz.func3 disjointCubes_closed
    (of_decide_eq_true (by kernel_rfl)) (by unfold Func.isWrapper; first | (rw [if_pos (by decide +kernel)]; kernel_rfl) | (rw [if_neg (by decide +kernel)]; exact ⟨rfl, rfl⟩))
    (fun os started H enc _ => disjointCubes_lifted os started H enc)
theorem disjointCubes_card : Rows.DisjointCubesCardSaid :=
  Claim7.holds_tied_plain_at .later [] [.data, .pinned] true (true, "3399edabd4861bf0e64f06564a9d90a90514eb3b736d995d6b03d2bf706bead7") true disjointCubes_holds (fun _ h => by cases h) disjointCubes_text (fun _ h => by cases h) disjointCubes_row_tie rfl ⟨rfl, rfl⟩ pf_main rfl
    (fun f fn hf hfn => by
      obtain rfl : f = 3 := Option.some.inj (disjointCubes_fun.symm.trans hf) |>.symm
      obtain rfl : fn = Tryz.f3 := (Option.some.inj (Tryz.func3.symm.trans hfn)).symm
      exact ⟨pf_looks, fun j t ht => by
        rw [Tryz.params3] at ht
        have hm : t ∈ [22] := by simpa using Array.mem_of_getElem? ht
        exact (show Tryz.prog.wantsStandIn t = false by simpa using List.all_eq_true.1 disjointCubes_stand t hm)⟩)
    disjointCubes_goes
end Go.Proofs.YtbkchheikkbebaaGreatDoor
