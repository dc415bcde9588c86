import Derived.Test.YtbkchheikkbebaaGreatDoorDD1
import Derived.Test.YtbkchheikkbebaaGreatDoorDD2
import Derived.Test.YtbkchheikkbebaaGreatDoorDD3
import Derived.Test.YtbkchheikkbebaaGreatDoorDD4
import Derived.Test.YtbkchheikkbebaaGreatDoorDD5
import Derived.Test.YtbkchheikkbebaaGreatDoorDD6
import Derived.Test.YtbkchheikkbebaaGreatDoorDD7
import Derived.Test.YtbkchheikkbebaaGreatDoorDD8
import Derived.Test.YtbkchheikkbebaaGreatDoorDD9
import Derived.Test.YtbkchheikkbebaaGreatDoorDF1
import Derived.Test.YtbkchheikkbebaaGreatDoorRows
import Derived.Test.YtbkchheikkbebaaGreatDoorChecked
import Derived.Test.YtbkchheikkbebaaGreatDoorCards
import Derived.Test.YtbkchheikkbebaaGreatDoorTie
import Derived.ProofKit
import Derived.OpenShut
import Derived.LaidMore
import Derived.Lay
import Derived.SevenTiedAt
import Derived.Stop.Joined
/-
  The law DisjointBefore: its lift and its tied card.
-/
namespace Go.Proofs.YtbkchheikkbebaaGreatDoor
open Go.RowKit Go.ChangeShapes Go.WideShapes Go.ChangeAt

open Go.Joins Go.Deep
theorem disjointBefore_fact0 : (Rows.disjointBeforeRow.wf (OpenSpec.ofChange Rows.disjointBeforeSpec)) = true := by kernel_rfl
theorem disjointBefore_fact1 : (Tryz.f6.params.all (Tryz.prog.readableRec ·)) = true := by kernel_rfl
theorem disjointBefore_fact2 : (namedTie Tryz.prog Rows.disjointBeforeRow.named Rows.disjointBeforeSpec.vars) = true := by kernel_rfl
theorem disjointBefore_fact3 : ((Rows.disjointBeforeRow.stops == [])) = true := by kernel_rfl
theorem disjointBefore_fact4 : ((Rows.disjointBeforeRow.knobs == [])) = true := by kernel_rfl
theorem disjointBefore_fact5 : ((Rows.disjointBeforeRow.inPlace == Tryz.prog.inPlace 6)) = true := by kernel_rfl
theorem disjointBefore_fact6 : ((Rows.disjointBeforeRow.unfollowed == Tryz.prog.unfollowed 6)) = true := by kernel_rfl
theorem disjointBefore_fact7 : ((Rows.disjointBeforeRow.recurses == Tryz.prog.recurses 6)) = true := by kernel_rfl
theorem disjointBefore_fact8 : ((Rows.disjointBeforeRow.named == Tryz.prog.varsNamed 6)) = true := by kernel_rfl
theorem disjointBefore_fact9 : ((Rows.disjointBeforeRow.maps == (Tryz.f6.params.toList ++ Rows.disjointBeforeSpec.plain.varTypes Tryz.prog).any (Tryz.prog.mapsRec ·))) = true := by kernel_rfl
theorem disjointBefore_fact10 : ((Rows.disjointBeforeRow.ifaces == (Tryz.f6.params.toList ++ Rows.disjointBeforeSpec.plain.varTypes Tryz.prog).any (Tryz.prog.ifacesRec ·))) = true := by kernel_rfl
theorem disjointBefore_fact11 : ((Rows.disjointBeforeRow.mapsOut == Tryz.prog.mapsAmong Tryz.f6.resultTypes.toList)) = true := by kernel_rfl
theorem disjointBefore_fact12 : ((Rows.disjointBeforeRow.loops == (Tryz.f6.params.toList ++ Rows.disjointBeforeSpec.plain.varTypes Tryz.prog).any (Tryz.prog.loopsFrom ·))) = true := by kernel_rfl
theorem disjointBefore_fact13 : ((Rows.disjointBeforeRow.wideKeys == (Tryz.f6.params.toList ++ Rows.disjointBeforeSpec.plain.varTypes Tryz.prog ++ Tryz.f6.resultTypes.toList).any (Tryz.prog.wideKeysFrom ·))) = true := by kernel_rfl
theorem disjointBefore_fact14 : (Rows.disjointBeforeSpec.vars.all (Tryz.prog.varReadable ·)) = true := by kernel_rfl
theorem disjointBefore_fact15 : (Tryz.f6.resultTypes.all (fun t => Tryz.prog.readableRec t && decide (t < Tryz.prog.types.size))) = true := by kernel_rfl
theorem disjointBefore_fact16 : ((Rows.disjointBeforeRow.ifacesOut == Tryz.f6.resultTypes.toList.any (Tryz.prog.ifacesRec ·))) = true := by kernel_rfl
theorem disjointBefore_fact17 : ((Rows.disjointBeforeRow.loopsOut == Tryz.f6.resultTypes.toList.any (Tryz.prog.loopsFrom ·))) = true := by kernel_rfl
theorem disjointBefore_fact18 : ((Rows.disjointBeforeRow.plainKeys == Tryz.prog.plainKeys)) = true := by kernel_rfl
theorem disjointBefore_fact19 : (Rows.disjointBeforeRow.shortTexts.isNone) = true := by kernel_rfl
theorem disjointBefore_fact20 : ((Rows.disjointBeforeRow.lifted == Tryz.prog.liftsFinal)) = true := by rw [pf_final]; kernel_rfl
theorem disjointBefore_fact21 : ((Tryz.prog.make == some Rows.disjointBeforeRow.make)) = true := by rw [pf_make]; kernel_rfl
theorem disjointBefore_fact23 : ((Rows.disjointBeforeRow.pinned == Rows.disjointBeforeRow.pinnedBy)) = true := by kernel_rfl
theorem disjointBefore_fact24 : ((Rows.disjointBeforeRow.veiled == (Tryz.f6.params.toList ++ Rows.disjointBeforeSpec.plain.varTypes Tryz.prog ++ Tryz.f6.resultTypes.toList).any (Tryz.prog.veiledRec ·))) = true := by kernel_rfl
theorem disjointBefore_fact25 : (Rows.disjointBeforeRow.veiledFits Tryz.prog Tryz.f6.params.toList (Tryz.f6.params.toList ++ Rows.disjointBeforeSpec.plain.varTypes Tryz.prog ++ Tryz.f6.resultTypes.toList)) = true := by kernel_rfl
theorem disjointBefore_closed : joinedFacts Tryz.prog 6 Tryz.f6 Rows.disjointBeforeSpec Rows.disjointBeforeRow = true := by
  unfold joinedFacts
  rw [disjointBefore_fact0]
  rw [pf_laidout]
  rw [pf_mapsrowed]
  rw [disjointBefore_fact1]
  rw [disjointBefore_fact2]
  rw [disjointBefore_fact3]
  rw [pf_stops]
  rw [disjointBefore_fact4]
  rw [pf_knobs]
  rw [disjointBefore_fact5]
  rw [disjointBefore_fact6]
  rw [disjointBefore_fact7]
  rw [disjointBefore_fact8]
  rw [disjointBefore_fact9]
  rw [disjointBefore_fact10]
  rw [disjointBefore_fact11]
  rw [disjointBefore_fact12]
  rw [disjointBefore_fact13]
  rw [disjointBefore_fact14]
  rw [disjointBefore_fact15]
  rw [disjointBefore_fact16]
  rw [disjointBefore_fact17]
  rw [disjointBefore_fact18]
  rw [disjointBefore_fact19]
  rw [pf_heard]
  rw [pf_enter]
  rw [disjointBefore_fact20]
  rw [disjointBefore_fact21]
  rw [disjointBefore_fact23]
  rw [disjointBefore_fact24]
  rw [disjointBefore_fact25]
  simp only [Bool.and_true, Bool.true_and]
  kernel_rfl
theorem disjointBefore_fun : Tryz.pinned.checked.prog.funcNamed Rows.disjointBeforeRow.func = some 6 := by kernel_rfl
theorem disjointBefore_goes : false = Rows.disjointBeforeRow.goesBy Tryz.pinned.checked.prog := by kernel_rfl
theorem disjointBefore_text : Rows.disjointBeforeRow.wfByText (OpenSpec.ofChange Rows.disjointBeforeSpec) = true := by kernel_rfl
theorem disjointBefore_stand : ([22, 5].all fun u => !Tryz.prog.wantsStandIn u) = true := by kernel_rfl
set_option maxRecDepth 100000 in
theorem disjointBefore_lifted (os : Os) (started : os.Started) (H : Type) (enc : TypeId × Value → H) :
    ReturnsInHanded {} Tryz.checked os 6 .any (fun w args => (Rows.disjointBeforeSpec.pre enc Tryz.prog Tryz.f6 Rows.disjointBeforeRow.domain false w args ∧ laidMetH Tryz.prog Rows.disjointBeforeRow.laid w) ∧ sizedMet enc Tryz.prog Tryz.f6 (OpenSpec.ofChange Rows.disjointBeforeSpec) false w args)
      (Rows.disjointBeforeSpec.post enc Tryz.prog Tryz.f6 false true false false) := by
  refine returnsInHanded_of_change_and (C := Tryz.checked) (X := fun w _ => laidMetH Tryz.prog Rows.disjointBeforeRow.laid w) (fun _ _ _ hh h => h.of_heap hh) ownK started (by kernel_rfl) Tryz.func6
    (ChangeSpec.witness_shaped (enc := enc) (C := Tryz.checked) (os := os) (X := fun w _ => laidMetH Tryz.prog Rows.disjointBeforeRow.laid w) false (World.laidAll Tryz.prog os Rows.disjointBeforeRow.laid) #[.slice none 0 0, .int .u8 0] 8 (World.laidAll_os _ _ _)
      (World.shaped_of_ZipB (by kernel_rfl) (by kernel_rfl)) (by kernel_rfl) (by kernel_rfl) (by kernel_rfl)
      (by rw [MakeChecks.laidMetH_plain _ _ _ (by kernel_rfl)]; exact laidMet_laidAll _ (by kernel_rfl) (by kernel_rfl))) ?_
  intro W base args ds gs before hval hW _ hsz _ _
  exact liftIN 6 Tryz.f6 5 .u8 Tryz.underlying5 (by kernel_rfl) (of_decide_eq_true (by kernel_rfl)) rfl (fun _ _ _ => rfl) Tryz.params6 (by kernel_rfl) (fun W v xs x h hx => dbefore_true v xs x W h hx) W base args ds gs before hval hW hsz
theorem disjointBefore_holds : Rows.DisjointBeforeSaid :=
  OpenClaim.holds_of_wide 6 Tryz.f6 rfl rfl rfl rfl rfl rfl rfl ⟨rfl, rfl, rfl, rfl, rfl⟩ rfl rfl rfl rfl rfl disjointBefore_fun Tryz.func6 disjointBefore_closed
    (of_decide_eq_true (by kernel_rfl)) (by unfold Func.isWrapper; first | (rw [if_pos (by decide +kernel)]; kernel_rfl) | (rw [if_neg (by decide +kernel)]; exact ⟨rfl, rfl⟩))
    (fun os started H enc _ => disjointBefore_lifted os started H enc)
theorem disjointBefore_card : Rows.DisjointBeforeCardSaid :=
  Claim7.holds_tied_plain_at .later [] [.data, .pinned] true (true, "3399edabd4861bf0e64f06564a9d90a90514eb3b736d995d6b03d2bf706bead7") true disjointBefore_holds (fun _ h => by cases h) disjointBefore_text (fun _ h => by cases h) disjointBefore_row_tie rfl ⟨rfl, rfl⟩ pf_main rfl
    (fun f fn hf hfn => by
      obtain rfl : f = 6 := Option.some.inj (disjointBefore_fun.symm.trans hf) |>.symm
      obtain rfl : fn = Tryz.f6 := (Option.some.inj (Tryz.func6.symm.trans hfn)).symm
      exact ⟨pf_looks, fun j t ht => by
        rw [Tryz.params6] at ht
        have hm : t ∈ [22, 5] := by simpa using Array.mem_of_getElem? ht
        exact (show Tryz.prog.wantsStandIn t = false by simpa using List.all_eq_true.1 disjointBefore_stand t hm)⟩)
    disjointBefore_goes
end Go.Proofs.YtbkchheikkbebaaGreatDoor
