import Derived.Test.YtpaedhlacbpmpaaGreatDoorPX1
import Derived.Test.YtpaedhlacbpmpaaGreatDoorPX2
import Derived.Test.YtpaedhlacbpmpaaGreatDoorPX3
import Derived.Test.YtpaedhlacbpmpaaGreatDoorPX4
import Derived.Test.YtpaedhlacbpmpaaGreatDoorPX5
import Derived.Test.YtpaedhlacbpmpaaGreatDoorPX6
import Derived.Test.YtpaedhlacbpmpaaGreatDoorPX7
import Derived.Test.YtpaedhlacbpmpaaGreatDoorPX8
import Derived.Test.YtpaedhlacbpmpaaGreatDoorPZ1
import Derived.Test.YtpaedhlacbpmpaaGreatDoorPZ2
import Derived.Test.YtpaedhlacbpmpaaGreatDoorPZ3
import Derived.Test.YtpaedhlacbpmpaaGreatDoorPZ4
import Derived.Test.YtpaedhlacbpmpaaGreatDoorPZ5
import Derived.Test.YtpaedhlacbpmpaaGreatDoorRows
import Derived.Test.YtpaedhlacbpmpaaGreatDoorChecked
import Derived.Test.YtpaedhlacbpmpaaGreatDoorCards
import Derived.Test.YtpaedhlacbpmpaaGreatDoorTie
import Derived.ProofKit
import Derived.OpenShut
import Derived.LaidMore
import Derived.Lay
import Derived.SevenTiedAt
import Derived.Stop.Joined
/-
  The law PolynomialSums: its lift and its tied card.
-/
namespace Go.Proofs.YtpaedhlacbpmpaaGreatDoor
open Go.RowKit Go.ChangeShapes Go.WideShapes Go.ChangeAt

open Go.Joins Go.Deep
theorem polynomialSums_fact0 : (Rows.polynomialSumsRow.wf (OpenSpec.ofChange Rows.polynomialSumsSpec)) = true := by kernel_rfl
theorem polynomialSums_fact1 : (Tryz.f3.params.all (Tryz.prog.readableRec ·)) = true := by kernel_rfl
theorem polynomialSums_fact2 : (namedTie Tryz.prog Rows.polynomialSumsRow.named Rows.polynomialSumsSpec.vars) = true := by kernel_rfl
theorem polynomialSums_fact3 : ((Rows.polynomialSumsRow.stops == [])) = true := by kernel_rfl
theorem polynomialSums_fact4 : ((Rows.polynomialSumsRow.knobs == [])) = true := by kernel_rfl
theorem polynomialSums_fact5 : ((Rows.polynomialSumsRow.inPlace == Tryz.prog.inPlace 3)) = true := by kernel_rfl
theorem polynomialSums_fact6 : ((Rows.polynomialSumsRow.unfollowed == Tryz.prog.unfollowed 3)) = true := by kernel_rfl
theorem polynomialSums_fact7 : ((Rows.polynomialSumsRow.recurses == Tryz.prog.recurses 3)) = true := by kernel_rfl
theorem polynomialSums_fact8 : ((Rows.polynomialSumsRow.named == Tryz.prog.varsNamed 3)) = true := by kernel_rfl
theorem polynomialSums_fact9 : ((Rows.polynomialSumsRow.maps == (Tryz.f3.params.toList ++ Rows.polynomialSumsSpec.plain.varTypes Tryz.prog).any (Tryz.prog.mapsRec ·))) = true := by kernel_rfl
theorem polynomialSums_fact10 : ((Rows.polynomialSumsRow.ifaces == (Tryz.f3.params.toList ++ Rows.polynomialSumsSpec.plain.varTypes Tryz.prog).any (Tryz.prog.ifacesRec ·))) = true := by kernel_rfl
theorem polynomialSums_fact11 : ((Rows.polynomialSumsRow.mapsOut == Tryz.prog.mapsAmong Tryz.f3.resultTypes.toList)) = true := by kernel_rfl
theorem polynomialSums_fact12 : ((Rows.polynomialSumsRow.loops == (Tryz.f3.params.toList ++ Rows.polynomialSumsSpec.plain.varTypes Tryz.prog).any (Tryz.prog.loopsFrom ·))) = true := by kernel_rfl
theorem polynomialSums_fact13 : ((Rows.polynomialSumsRow.wideKeys == (Tryz.f3.params.toList ++ Rows.polynomialSumsSpec.plain.varTypes Tryz.prog ++ Tryz.f3.resultTypes.toList).any (Tryz.prog.wideKeysFrom ·))) = true := by kernel_rfl
theorem polynomialSums_fact14 : (Rows.polynomialSumsSpec.vars.all (Tryz.prog.varReadable ·)) = true := by kernel_rfl
theorem polynomialSums_fact15 : (Tryz.f3.resultTypes.all (fun t => Tryz.prog.readableRec t && decide (t < Tryz.prog.types.size))) = true := by kernel_rfl
theorem polynomialSums_fact16 : ((Rows.polynomialSumsRow.ifacesOut == Tryz.f3.resultTypes.toList.any (Tryz.prog.ifacesRec ·))) = true := by kernel_rfl
theorem polynomialSums_fact17 : ((Rows.polynomialSumsRow.loopsOut == Tryz.f3.resultTypes.toList.any (Tryz.prog.loopsFrom ·))) = true := by kernel_rfl
theorem polynomialSums_fact18 : ((Rows.polynomialSumsRow.plainKeys == Tryz.prog.plainKeys)) = true := by kernel_rfl
theorem polynomialSums_fact19 : (Rows.polynomialSumsRow.shortTexts.isNone) = true := by kernel_rfl
theorem polynomialSums_fact20 : ((Rows.polynomialSumsRow.lifted == Tryz.prog.liftsFinal)) = true := by rw [pf_final]; kernel_rfl
theorem polynomialSums_fact21 : ((Tryz.prog.make == some Rows.polynomialSumsRow.make)) = true := by rw [pf_make]; kernel_rfl
theorem polynomialSums_fact23 : ((Rows.polynomialSumsRow.pinned == Rows.polynomialSumsRow.pinnedBy)) = true := by kernel_rfl
theorem polynomialSums_fact24 : ((Rows.polynomialSumsRow.veiled == (Tryz.f3.params.toList ++ Rows.polynomialSumsSpec.plain.varTypes Tryz.prog ++ Tryz.f3.resultTypes.toList).any (Tryz.prog.veiledRec ·))) = true := by kernel_rfl
theorem polynomialSums_fact25 : (Rows.polynomialSumsRow.veiledFits Tryz.prog Tryz.f3.params.toList (Tryz.f3.params.toList ++ Rows.polynomialSumsSpec.plain.varTypes Tryz.prog ++ Tryz.f3.resultTypes.toList)) = true := by kernel_rfl
theorem polynomialSums_closed : joinedFacts Tryz.prog 3 Tryz.f3 Rows.polynomialSumsSpec Rows.polynomialSumsRow = true := by
  unfold joinedFacts
  rw [polynomialSums_fact0]
  rw [pf_laidout]
  rw [pf_mapsrowed]
  rw [polynomialSums_fact1]
  rw [polynomialSums_fact2]
  rw [polynomialSums_fact3]
  rw [pf_stops]
  rw [polynomialSums_fact4]
  rw [pf_knobs]
  rw [polynomialSums_fact5]
  rw [polynomialSums_fact6]
  rw [polynomialSums_fact7]
  rw [polynomialSums_fact8]
  rw [polynomialSums_fact9]
  rw [polynomialSums_fact10]
  rw [polynomialSums_fact11]
  rw [polynomialSums_fact12]
  rw [polynomialSums_fact13]
  rw [polynomialSums_fact14]
  rw [polynomialSums_fact15]
  rw [polynomialSums_fact16]
  rw [polynomialSums_fact17]
  rw [polynomialSums_fact18]
  rw [polynomialSums_fact19]
  rw [pf_heard]
  rw [pf_enter]
  rw [polynomialSums_fact20]
  rw [polynomialSums_fact21]
  rw [polynomialSums_fact23]
  rw [polynomialSums_fact24]
  rw [polynomialSums_fact25]
  simp only [Bool.and_true, Bool.true_and]
  kernel_rfl
theorem polynomialSums_fun : Tryz.pinned.checked.prog.funcNamed Rows.polynomialSumsRow.func = some 3 := by kernel_rfl
theorem polynomialSums_goes : false = Rows.polynomialSumsRow.goesBy Tryz.pinned.checked.prog := by kernel_rfl
theorem polynomialSums_text : Rows.polynomialSumsRow.wfByText (OpenSpec.ofChange Rows.polynomialSumsSpec) = true := by kernel_rfl
theorem polynomialSums_stand : ([22, 22].all fun u => !Tryz.prog.wantsStandIn u) = true := by kernel_rfl
set_option maxRecDepth 100000 in
theorem polynomialSums_lifted (os : Os) (started : os.Started) (H : Type) (enc : TypeId × Value → H) :
    ReturnsInHanded {} Tryz.checked os 3 .any (fun w args => (Rows.polynomialSumsSpec.pre enc Tryz.prog Tryz.f3 Rows.polynomialSumsRow.domain false w args ∧ laidMetH Tryz.prog Rows.polynomialSumsRow.laid w) ∧ sizedMet enc Tryz.prog Tryz.f3 (OpenSpec.ofChange Rows.polynomialSumsSpec) false w args)
      (Rows.polynomialSumsSpec.post enc Tryz.prog Tryz.f3 false true false false) := by
  refine returnsInHanded_of_change_and (C := Tryz.checked) (X := fun w _ => laidMetH Tryz.prog Rows.polynomialSumsRow.laid w) (fun _ _ _ hh h => h.of_heap hh) ownK started (by kernel_rfl) Tryz.func3
    (ChangeSpec.witness_shaped (enc := enc) (C := Tryz.checked) (os := os) (X := fun w _ => laidMetH Tryz.prog Rows.polynomialSumsRow.laid w) false (World.laidAll Tryz.prog os Rows.polynomialSumsRow.laid) #[.slice none 0 0, .slice none 0 0] 8 (World.laidAll_os _ _ _)
      (World.shaped_of_ZipB (by kernel_rfl) (by kernel_rfl)) (by kernel_rfl) (by kernel_rfl) (by kernel_rfl)
      (by rw [MakeChecks.laidMetH_plain _ _ _ (by kernel_rfl)]; exact laidMet_laidAll _ (by kernel_rfl) (by kernel_rfl))) ?_
  intro W base args ds gs before hval hW _ hsz _ _
  exact liftTT 3 Tryz.f3 rfl (fun _ _ _ => rfl) Tryz.params3 (by kernel_rfl) (fun W v0 x0 v1 x1 g0 g1 => psums_true v0 v1 x0 x1 W g0 g1) W base args ds gs before hval hW hsz
theorem polynomialSums_holds : Rows.PolynomialSumsSaid :=
  OpenClaim.holds_of_wide 3 Tryz.f3 rfl rfl rfl rfl rfl rfl rfl ⟨rfl, rfl, rfl, rfl, rfl⟩ rfl rfl rfl rfl rfl polynomialSums_fun Tryz.func3 polynomialSums_closed
    (of_decide_eq_true (by kernel_rfl)) (by unfold Func.isWrapper; first | (rw [if_pos (by decide +kernel)]; kernel_rfl) | (rw [if_neg (by decide +kernel)]; exact ⟨rfl, rfl⟩))
    (fun os started H enc _ => polynomialSums_lifted os started H enc)
theorem polynomialSums_card : Rows.PolynomialSumsCardSaid :=
  Claim7.holds_tied_plain_at .later [] [.data, .pinned] true (true, "b50c0405a417493d467c38e237fe321c6520711c9b70ad2d04880b9d125055bd") true polynomialSums_holds (fun _ h => by cases h) polynomialSums_text (fun _ h => by cases h) polynomialSums_row_tie rfl ⟨rfl, rfl⟩ pf_main rfl
    (fun f fn hf hfn => by
      obtain rfl : f = 3 := Option.some.inj (polynomialSums_fun.symm.trans hf) |>.symm
      obtain rfl : fn = Tryz.f3 := (Option.some.inj (Tryz.func3.symm.trans hfn)).symm
      exact ⟨pf_looks, fun j t ht => by
        rw [Tryz.params3] at ht
        have hm : t ∈ [22, 22] := by simpa using Array.mem_of_getElem? ht
        exact (show Tryz.prog.wantsStandIn t = false by simpa using List.all_eq_true.1 polynomialSums_stand t hm)⟩)
    polynomialSums_goes
end Go.Proofs.YtpaedhlacbpmpaaGreatDoor
