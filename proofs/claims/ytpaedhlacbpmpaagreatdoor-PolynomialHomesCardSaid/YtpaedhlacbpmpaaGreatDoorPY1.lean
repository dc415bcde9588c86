import Derived.Test.YtpaedhlacbpmpaaGreatDoorPX1
import Derived.Test.YtpaedhlacbpmpaaGreatDoorPX2
import Derived.Test.YtpaedhlacbpmpaaGreatDoorPX3
import Derived.Test.YtpaedhlacbpmpaaGreatDoorPX4
import Derived.Test.YtpaedhlacbpmpaaGreatDoorPX5
import Derived.Test.YtpaedhlacbpmpaaGreatDoorPX6
import Derived.Test.YtpaedhlacbpmpaaGreatDoorPX7
import Derived.Test.YtpaedhlacbpmpaaGreatDoorPX8
import Derived.Test.YtpaedhlacbpmpaaGreatDoorRows
import Derived.Test.YtpaedhlacbpmpaaGreatDoorChecked
import Derived.Test.YtpaedhlacbpmpaaGreatDoorCards
import Derived.Test.YtpaedhlacbpmpaaGreatDoorTie
import Derived.ProofKit
import Derived.OpenShut
import Derived.LaidMore
import Derived.Lay
import Derived.SevenTiedAt
import Derived.Stop.Joined
/-
  The law PolynomialHomes: its lift and its tied card.
-/
namespace Go.Proofs.YtpaedhlacbpmpaaGreatDoor
open Go.RowKit Go.ChangeShapes Go.WideShapes Go.ChangeAt

open Go.Joins Go.Deep
theorem polynomialHomes_fact0 : (Rows.polynomialHomesRow.wf (OpenSpec.ofChange Rows.polynomialHomesSpec)) = true := by kernel_rfl
theorem polynomialHomes_fact1 : (Tryz.f4.params.all (Tryz.prog.readableRec ·)) = true := by kernel_rfl
theorem polynomialHomes_fact2 : (namedTie Tryz.prog Rows.polynomialHomesRow.named Rows.polynomialHomesSpec.vars) = true := by kernel_rfl
theorem polynomialHomes_fact3 : ((Rows.polynomialHomesRow.stops == [])) = true := by kernel_rfl
theorem polynomialHomes_fact4 : ((Rows.polynomialHomesRow.knobs == [])) = true := by kernel_rfl
theorem polynomialHomes_fact5 : ((Rows.polynomialHomesRow.inPlace == Tryz.prog.inPlace 4)) = true := by kernel_rfl
theorem polynomialHomes_fact6 : ((Rows.polynomialHomesRow.unfollowed == Tryz.prog.unfollowed 4)) = true := by kernel_rfl
theorem polynomialHomes_fact7 : ((Rows.polynomialHomesRow.recurses == Tryz.prog.recurses 4)) = true := by kernel_rfl
theorem polynomialHomes_fact8 : ((Rows.polynomialHomesRow.named == Tryz.prog.varsNamed 4)) = true := by kernel_rfl
theorem polynomialHomes_fact9 : ((Rows.polynomialHomesRow.maps == (Tryz.f4.params.toList ++ Rows.polynomialHomesSpec.plain.varTypes Tryz.prog).any (Tryz.prog.mapsRec ·))) = true := by kernel_rfl
theorem polynomialHomes_fact10 : ((Rows.polynomialHomesRow.ifaces == (Tryz.f4.params.toList ++ Rows.polynomialHomesSpec.plain.varTypes Tryz.prog).any (Tryz.prog.ifacesRec ·))) = true := by kernel_rfl
theorem polynomialHomes_fact11 : ((Rows.polynomialHomesRow.mapsOut == Tryz.prog.mapsAmong Tryz.f4.resultTypes.toList)) = true := by kernel_rfl
theorem polynomialHomes_fact12 : ((Rows.polynomialHomesRow.loops == (Tryz.f4.params.toList ++ Rows.polynomialHomesSpec.plain.varTypes Tryz.prog).any (Tryz.prog.loopsFrom ·))) = true := by kernel_rfl
theorem polynomialHomes_fact13 : ((Rows.polynomialHomesRow.wideKeys == (Tryz.f4.params.toList ++ Rows.polynomialHomesSpec.plain.varTypes Tryz.prog ++ Tryz.f4.resultTypes.toList).any (Tryz.prog.wideKeysFrom ·))) = true := by kernel_rfl
theorem polynomialHomes_fact14 : (Rows.polynomialHomesSpec.vars.all (Tryz.prog.varReadable ·)) = true := by kernel_rfl
theorem polynomialHomes_fact15 : (Tryz.f4.resultTypes.all (fun t => Tryz.prog.readableRec t && decide (t < Tryz.prog.types.size))) = true := by kernel_rfl
theorem polynomialHomes_fact16 : ((Rows.polynomialHomesRow.ifacesOut == Tryz.f4.resultTypes.toList.any (Tryz.prog.ifacesRec ·))) = true := by kernel_rfl
theorem polynomialHomes_fact17 : ((Rows.polynomialHomesRow.loopsOut == Tryz.f4.resultTypes.toList.any (Tryz.prog.loopsFrom ·))) = true := by kernel_rfl
theorem polynomialHomes_fact18 : ((Rows.polynomialHomesRow.plainKeys == Tryz.prog.plainKeys)) = true := by kernel_rfl
theorem polynomialHomes_fact19 : (Rows.polynomialHomesRow.shortTexts.isNone) = true := by kernel_rfl
theorem polynomialHomes_fact20 : ((Rows.polynomialHomesRow.lifted == Tryz.prog.liftsFinal)) = true := by rw [pf_final]; kernel_rfl
theorem polynomialHomes_fact21 : ((Tryz.prog.make == some Rows.polynomialHomesRow.make)) = true := by rw [pf_make]; kernel_rfl
theorem polynomialHomes_fact23 : ((Rows.polynomialHomesRow.pinned == Rows.polynomialHomesRow.pinnedBy)) = true := by kernel_rfl
theorem polynomialHomes_fact24 : ((Rows.polynomialHomesRow.veiled == (Tryz.f4.params.toList ++ Rows.polynomialHomesSpec.plain.varTypes Tryz.prog ++ Tryz.f4.resultTypes.toList).any (Tryz.prog.veiledRec ·))) = true := by kernel_rfl
theorem polynomialHomes_fact25 : (Rows.polynomialHomesRow.veiledFits Tryz.prog Tryz.f4.params.toList (Tryz.f4.params.toList ++ Rows.polynomialHomesSpec.plain.varTypes Tryz.prog ++ Tryz.f4.resultTypes.toList)) = true := by kernel_rfl
theorem polynomialHomes_closed : joinedFacts Tryz.prog 4 Tryz.f4 Rows.polynomialHomesSpec Rows.polynomialHomesRow = true := by
  unfold joinedFacts
  rw [polynomialHomes_fact0]
  rw [pf_laidout]
  rw [pf_mapsrowed]
  rw [polynomialHomes_fact1]
  rw [polynomialHomes_fact2]
  rw [polynomialHomes_fact3]
  rw [pf_stops]
  rw [polynomialHomes_fact4]
  rw [pf_knobs]
  rw [polynomialHomes_fact5]
  rw [polynomialHomes_fact6]
  rw [polynomialHomes_fact7]
  rw [polynomialHomes_fact8]
  rw [polynomialHomes_fact9]
  rw [polynomialHomes_fact10]
  rw [polynomialHomes_fact11]
  rw [polynomialHomes_fact12]
  rw [polynomialHomes_fact13]
  rw [polynomialHomes_fact14]
  rw [polynomialHomes_fact15]
  rw [polynomialHomes_fact16]
  rw [polynomialHomes_fact17]
  rw [polynomialHomes_fact18]
  rw [polynomialHomes_fact19]
  rw [pf_heard]
  rw [pf_enter]
  rw [polynomialHomes_fact20]
  rw [polynomialHomes_fact21]
  rw [polynomialHomes_fact23]
  rw [polynomialHomes_fact24]
  rw [polynomialHomes_fact25]
  simp only [Bool.and_true, Bool.true_and]
  kernel_rfl
theorem polynomialHomes_fun : Tryz.pinned.checked.prog.funcNamed Rows.polynomialHomesRow.func = some 4 := by kernel_rfl
theorem polynomialHomes_goes : false = Rows.polynomialHomesRow.goesBy Tryz.pinned.checked.prog := by kernel_rfl
theorem polynomialHomes_text : Rows.polynomialHomesRow.wfByText (OpenSpec.ofChange Rows.polynomialHomesSpec) = true := by kernel_rfl
theorem polynomialHomes_stand : ([22, 22, 34].all fun u => !Tryz.prog.wantsStandIn u) = true := by kernel_rfl
set_option maxRecDepth 100000 in
theorem polynomialHomes_lifted (os : Os) (started : os.Started) (H : Type) (enc : TypeId × Value → H) :
    ReturnsInHanded {} Tryz.checked os 4 .any (fun w args => (Rows.polynomialHomesSpec.pre enc Tryz.prog Tryz.f4 Rows.polynomialHomesRow.domain false w args ∧ laidMetH Tryz.prog Rows.polynomialHomesRow.laid w) ∧ sizedMet enc Tryz.prog Tryz.f4 (OpenSpec.ofChange Rows.polynomialHomesSpec) false w args)
      (Rows.polynomialHomesSpec.post enc Tryz.prog Tryz.f4 false true false false) := by
  refine returnsInHanded_of_change_and (C := Tryz.checked) (X := fun w _ => laidMetH Tryz.prog Rows.polynomialHomesRow.laid w) (fun _ _ _ hh h => h.of_heap hh) ownK started (by kernel_rfl) Tryz.func4
    (ChangeSpec.witness_shaped (enc := enc) (C := Tryz.checked) (os := os) (X := fun w _ => laidMetH Tryz.prog Rows.polynomialHomesRow.laid w) false (World.laidAll Tryz.prog os Rows.polynomialHomesRow.laid) #[.slice none 0 0, .slice none 0 0, .int .u32 0] 8 (World.laidAll_os _ _ _)
      (World.shaped_of_ZipB (by kernel_rfl) (by kernel_rfl)) (by kernel_rfl) (by kernel_rfl) (by kernel_rfl)
      (by rw [MakeChecks.laidMetH_plain _ _ _ (by kernel_rfl)]; exact laidMet_laidAll _ (by kernel_rfl) (by kernel_rfl))) ?_
  intro W base args ds gs before hval hW _ hsz _ _
  exact liftTTN 4 Tryz.f4 rfl (fun _ _ _ _ => rfl) Tryz.params4 (by kernel_rfl) (fun W v0 x0 v1 x1 x2 g0 g1 g2 => phomes_true v0 v1 x0 x1 x2 W g0 g1 g2) W base args ds gs before hval hW hsz
theorem polynomialHomes_holds : Rows.PolynomialHomesSaid :=
  OpenClaim.holds_of_wide 4 Tryz.f4 rfl rfl rfl rfl rfl rfl rfl ⟨rfl, rfl, rfl, rfl, rfl⟩ rfl rfl rfl rfl rfl polynomialHomes_fun Tryz.func4 polynomialHomes_closed
    (of_decide_eq_true (by kernel_rfl)) (by unfold Func.isWrapper; first | (rw [if_pos (by decide +kernel)]; kernel_rfl) | (rw [if_neg (by decide +kernel)]; exact ⟨rfl, rfl⟩))
    (fun os started H enc _ => polynomialHomes_lifted os started H enc)
theorem polynomialHomes_card : Rows.PolynomialHomesCardSaid :=
  Claim7.holds_tied_plain_at .later [] [.data, .pinned] true (true, "b50c0405a417493d467c38e237fe321c6520711c9b70ad2d04880b9d125055bd") true polynomialHomes_holds (fun _ h => by cases h) polynomialHomes_text (fun _ h => by cases h) polynomialHomes_row_tie rfl ⟨rfl, rfl⟩ pf_main rfl
    (fun f fn hf hfn => by
      obtain rfl : f = 4 := Option.some.inj (polynomialHomes_fun.symm.trans hf) |>.symm
      obtain rfl : fn = Tryz.f4 := (Option.some.inj (Tryz.func4.symm.trans hfn)).symm
      exact ⟨pf_looks, fun j t ht => by
        rw [Tryz.params4] at ht
        have hm : t ∈ [22, 22, 34] := by simpa using Array.mem_of_getElem? ht
        exact (show Tryz.prog.wantsStandIn t = false by simpa using List.all_eq_true.1 polynomialHomes_stand t hm)⟩)
    polynomialHomes_goes
end Go.Proofs.YtpaedhlacbpmpaaGreatDoor
