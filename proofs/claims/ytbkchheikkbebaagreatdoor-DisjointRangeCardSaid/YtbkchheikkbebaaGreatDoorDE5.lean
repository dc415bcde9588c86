import Derived.Test.YtbkchheikkbebaaGreatDoorDD1
import Derived.Test.YtbkchheikkbebaaGreatDoorDD2
import Derived.Test.YtbkchheikkbebaaGreatDoorDD3
import Derived.Test.YtbkchheikkbebaaGreatDoorDD4
import Derived.Test.YtbkchheikkbebaaGreatDoorDD5
import Derived.Test.YtbkchheikkbebaaGreatDoorDD6
import Derived.Test.YtbkchheikkbebaaGreatDoorDD7
import Derived.Test.YtbkchheikkbebaaGreatDoorDD8
import Derived.Test.YtbkchheikkbebaaGreatDoorDD9
import Derived.Test.YtbkchheikkbebaaGreatDoorDF3
import Derived.Test.YtbkchheikkbebaaGreatDoorRows
import Derived.Test.YtbkchheikkbebaaGreatDoorChecked
import Derived.Test.YtbkchheikkbebaaGreatDoorCards
import Derived.Test.YtbkchheikkbebaaGreatDoorTie
import Derived.ProofKit
import Derived.OpenShut
import Derived.LaidMore
import Derived.Lay
import Derived.SevenTiedAt
import Derived.Stop.Joined
/-
  The law DisjointRange: its lift and its tied card.
-/
namespace Go.Proofs.YtbkchheikkbebaaGreatDoor
open Go.RowKit Go.ChangeShapes Go.WideShapes Go.ChangeAt

open Go.Joins Go.Deep
theorem disjointRange_fact0 : (Rows.disjointRangeRow.wf (OpenSpec.ofChange Rows.disjointRangeSpec)) = true := by kernel_rfl
theorem disjointRange_fact1 : (Tryz.f9.params.all (Tryz.prog.readableRec ·)) = true := by kernel_rfl
theorem disjointRange_fact2 : (namedTie Tryz.prog Rows.disjointRangeRow.named Rows.disjointRangeSpec.vars) = true := by kernel_rfl
theorem disjointRange_fact3 : ((Rows.disjointRangeRow.stops == [])) = true := by kernel_rfl
theorem disjointRange_fact4 : ((Rows.disjointRangeRow.knobs == [])) = true := by kernel_rfl
theorem disjointRange_fact5 : ((Rows.disjointRangeRow.inPlace == Tryz.prog.inPlace 9)) = true := by kernel_rfl
theorem disjointRange_fact6 : ((Rows.disjointRangeRow.unfollowed == Tryz.prog.unfollowed 9)) = true := by kernel_rfl
theorem disjointRange_fact7 : ((Rows.disjointRangeRow.recurses == Tryz.prog.recurses 9)) = true := by kernel_rfl
theorem disjointRange_fact8 : ((Rows.disjointRangeRow.named == Tryz.prog.varsNamed 9)) = true := by kernel_rfl
theorem disjointRange_fact9 : ((Rows.disjointRangeRow.maps == (Tryz.f9.params.toList ++ Rows.disjointRangeSpec.plain.varTypes Tryz.prog).any (Tryz.prog.mapsRec ·))) = true := by kernel_rfl
theorem disjointRange_fact10 : ((Rows.disjointRangeRow.ifaces == (Tryz.f9.params.toList ++ Rows.disjointRangeSpec.plain.varTypes Tryz.prog).any (Tryz.prog.ifacesRec ·))) = true := by kernel_rfl
theorem disjointRange_fact11 : ((Rows.disjointRangeRow.mapsOut == Tryz.prog.mapsAmong Tryz.f9.resultTypes.toList)) = true := by kernel_rfl
theorem disjointRange_fact12 : ((Rows.disjointRangeRow.loops == (Tryz.f9.params.toList ++ Rows.disjointRangeSpec.plain.varTypes Tryz.prog).any (Tryz.prog.loopsFrom ·))) = true := by kernel_rfl
theorem disjointRange_fact13 : ((Rows.disjointRangeRow.wideKeys == (Tryz.f9.params.toList ++ Rows.disjointRangeSpec.plain.varTypes Tryz.prog ++ Tryz.f9.resultTypes.toList).any (Tryz.prog.wideKeysFrom ·))) = true := by kernel_rfl
theorem disjointRange_fact14 : (Rows.disjointRangeSpec.vars.all (Tryz.prog.varReadable ·)) = true := by kernel_rfl
theorem disjointRange_fact15 : (Tryz.f9.resultTypes.all (fun t => Tryz.prog.readableRec t && decide (t < Tryz.prog.types.size))) = true := by kernel_rfl
theorem disjointRange_fact16 : ((Rows.disjointRangeRow.ifacesOut == Tryz.f9.resultTypes.toList.any (Tryz.prog.ifacesRec ·))) = true := by kernel_rfl
theorem disjointRange_fact17 : ((Rows.disjointRangeRow.loopsOut == Tryz.f9.resultTypes.toList.any (Tryz.prog.loopsFrom ·))) = true := by kernel_rfl
theorem disjointRange_fact18 : ((Rows.disjointRangeRow.plainKeys == Tryz.prog.plainKeys)) = true := by kernel_rfl
theorem disjointRange_fact19 : (Rows.disjointRangeRow.shortTexts.isNone) = true := by kernel_rfl
theorem disjointRange_fact20 : ((Rows.disjointRangeRow.lifted == Tryz.prog.liftsFinal)) = true := by rw [pf_final]; kernel_rfl
theorem disjointRange_fact21 : ((Tryz.prog.make == some Rows.disjointRangeRow.make)) = true := by rw [pf_make]; kernel_rfl
theorem disjointRange_fact23 : ((Rows.disjointRangeRow.pinned == Rows.disjointRangeRow.pinnedBy)) = true := by kernel_rfl
theorem disjointRange_fact24 : ((Rows.disjointRangeRow.veiled == (Tryz.f9.params.toList ++ Rows.disjointRangeSpec.plain.varTypes Tryz.prog ++ Tryz.f9.resultTypes.toList).any (Tryz.prog.veiledRec ·))) = true := by kernel_rfl
theorem disjointRange_fact25 : (Rows.disjointRangeRow.veiledFits Tryz.prog Tryz.f9.params.toList (Tryz.f9.params.toList ++ Rows.disjointRangeSpec.plain.varTypes Tryz.prog ++ Tryz.f9.resultTypes.toList)) = true := by kernel_rfl
theorem disjointRange_closed : joinedFacts Tryz.prog 9 Tryz.f9 Rows.disjointRangeSpec Rows.disjointRangeRow = true := by
  unfold joinedFacts
  rw [disjointRange_fact0]
  rw [pf_laidout]
  rw [pf_mapsrowed]
  rw [disjointRange_fact1]
  rw [disjointRange_fact2]
  rw [disjointRange_fact3]
  rw [pf_stops]
  rw [disjointRange_fact4]
  rw [pf_knobs]
  rw [disjointRange_fact5]
  rw [disjointRange_fact6]
  rw [disjointRange_fact7]
  rw [disjointRange_fact8]
  rw [disjointRange_fact9]
  rw [disjointRange_fact10]
  rw [disjointRange_fact11]
  rw [disjointRange_fact12]
  rw [disjointRange_fact13]
  rw [disjointRange_fact14]
  rw [disjointRange_fact15]
  rw [disjointRange_fact16]
  rw [disjointRange_fact17]
  rw [disjointRange_fact18]
  rw [disjointRange_fact19]
  rw [pf_heard]
  rw [pf_enter]
  rw [disjointRange_fact20]
  rw [disjointRange_fact21]
  rw [disjointRange_fact23]
  rw [disjointRange_fact24]
  rw [disjointRange_fact25]
  simp only [Bool.and_true, Bool.true_and]
  kernel_rfl
theorem disjointRange_fun : Tryz.pinned.checked.prog.funcNamed Rows.disjointRangeRow.func = some 9 := by kernel_rfl
theorem disjointRange_goes : false = Rows.disjointRangeRow.goesBy Tryz.pinned.checked.prog := by kernel_rfl
theorem disjointRange_text : Rows.disjointRangeRow.wfByText (OpenSpec.ofChange Rows.disjointRangeSpec) = true := by kernel_rfl
theorem disjointRange_stand : ([25, 35].all fun u => !Tryz.prog.wantsStandIn u) = true := by kernel_rfl
set_option maxRecDepth 100000 in
theorem disjointRange_lifted (os : Os) (started : os.Started) (H : Type) (enc : TypeId × Value → H) :
    ReturnsInHanded {} Tryz.checked os 9 .any (fun w args => (Rows.disjointRangeSpec.pre enc Tryz.prog Tryz.f9 Rows.disjointRangeRow.domain false w args ∧ laidMetH Tryz.prog Rows.disjointRangeRow.laid w) ∧ sizedMet enc Tryz.prog Tryz.f9 (OpenSpec.ofChange Rows.disjointRangeSpec) false w args)
      (Rows.disjointRangeSpec.post enc Tryz.prog Tryz.f9 false true false false) := by
  refine returnsInHanded_of_change_and (C := Tryz.checked) (X := fun w _ => laidMetH Tryz.prog Rows.disjointRangeRow.laid w) (fun _ _ _ hh h => h.of_heap hh) ownK started (by kernel_rfl) Tryz.func9
    (ChangeSpec.witness_shaped (enc := enc) (C := Tryz.checked) (os := os) (X := fun w _ => laidMetH Tryz.prog Rows.disjointRangeRow.laid w) false (World.laidAll Tryz.prog os Rows.disjointRangeRow.laid) #[.slice none 0 0, .slice none 0 0] 8 (World.laidAll_os _ _ _)
      (World.shaped_of_ZipB (by kernel_rfl) (by kernel_rfl)) (by kernel_rfl) (by kernel_rfl) (by kernel_rfl)
      (by rw [MakeChecks.laidMetH_plain _ _ _ (by kernel_rfl)]; exact laidMet_laidAll _ (by kernel_rfl) (by kernel_rfl))) ?_
  intro W base args ds gs before hval hW _ hsz _ _
  exact liftCR 9 Tryz.f9 rfl (fun _ _ _ => rfl) Tryz.params9 (by kernel_rfl) (fun W cv v xs ps h1 h2 => drange_true cv v xs ps W h1 h2) W base args ds gs before hval hW hsz
theorem disjointRange_holds : Rows.DisjointRangeSaid :=
  OpenClaim.holds_of_wide 9 Tryz.f9 rfl rfl rfl rfl rfl rfl rfl ⟨rfl, rfl, rfl, rfl, rfl⟩ rfl rfl rfl rfl rfl disjointRange_fun Tryz.func9 disjointRange_closed
    (of_decide_eq_true (by kernel_rfl)) (by unfold Func.isWrapper; first | (rw [if_pos (by decide +kernel)]; kernel_rfl) | (rw [if_neg (by decide +kernel)]; exact ⟨rfl, rfl⟩))
    (fun os started H enc _ => disjointRange_lifted os started H enc)
theorem disjointRange_card : Rows.DisjointRangeCardSaid :=
  Claim7.holds_tied_plain_at .later [] [.data, .pinned] true (true, "3399edabd4861bf0e64f06564a9d90a90514eb3b736d995d6b03d2bf706bead7") true disjointRange_holds (fun _ h => by cases h) disjointRange_text (fun _ h => by cases h) disjointRange_row_tie rfl ⟨rfl, rfl⟩ pf_main rfl
    (fun f fn hf hfn => by
      obtain rfl : f = 9 := Option.some.inj (disjointRange_fun.symm.trans hf) |>.symm
      obtain rfl : fn = Tryz.f9 := (Option.some.inj (Tryz.func9.symm.trans hfn)).symm
      exact ⟨pf_looks, fun j t ht => by
        rw [Tryz.params9] at ht
        have hm : t ∈ [25, 35] := by simpa using Array.mem_of_getElem? ht
        exact (show Tryz.prog.wantsStandIn t = false by simpa using List.all_eq_true.1 disjointRange_stand t hm)⟩)
    disjointRange_goes
end Go.Proofs.YtbkchheikkbebaaGreatDoor
