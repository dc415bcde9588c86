import Derived.Test.YtpaedhlacbpmpaaGreatDoorPX1
import Derived.Test.YtpaedhlacbpmpaaGreatDoorPX2
import Derived.Test.YtpaedhlacbpmpaaGreatDoorPX3
import Derived.Test.YtpaedhlacbpmpaaGreatDoorPX4
import Derived.Test.YtpaedhlacbpmpaaGreatDoorPX5
import Derived.Test.YtpaedhlacbpmpaaGreatDoorPX6
import Derived.Test.YtpaedhlacbpmpaaGreatDoorPX7
import Derived.Test.YtpaedhlacbpmpaaGreatDoorPX8
import Derived.Test.YtpaedhlacbpmpaaGreatDoorPZ6
import Derived.Test.YtpaedhlacbpmpaaGreatDoorRows
import Derived.Test.YtpaedhlacbpmpaaGreatDoorChecked
import Derived.Test.YtpaedhlacbpmpaaGreatDoorCards
import Derived.Test.YtpaedhlacbpmpaaGreatDoorTie
import Derived.ProofKit
import Derived.OpenShut
import Derived.LaidMore
import Derived.Lay
import Derived.SevenTiedAt
import Derived.Stop.Joined
/-
  The law PolynomialTrue: its lift and its tied card.
-/
namespace Go.Proofs.YtpaedhlacbpmpaaGreatDoor
open Go.RowKit Go.ChangeShapes Go.WideShapes Go.ChangeAt

open Go.Joins Go.Deep
theorem polynomialTrue_fact0 : (Rows.polynomialTrueRow.wf (OpenSpec.ofChange Rows.polynomialTrueSpec)) = true := by kernel_rfl
theorem polynomialTrue_fact1 : (Tryz.f9.params.all (Tryz.prog.readableRec ·)) = true := by kernel_rfl
theorem polynomialTrue_fact2 : (namedTie Tryz.prog Rows.polynomialTrueRow.named Rows.polynomialTrueSpec.vars) = true := by kernel_rfl
theorem polynomialTrue_fact3 : ((Rows.polynomialTrueRow.stops == [])) = true := by kernel_rfl
theorem polynomialTrue_fact4 : ((Rows.polynomialTrueRow.knobs == [])) = true := by kernel_rfl
theorem polynomialTrue_fact5 : ((Rows.polynomialTrueRow.inPlace == Tryz.prog.inPlace 9)) = true := by kernel_rfl
theorem polynomialTrue_fact6 : ((Rows.polynomialTrueRow.unfollowed == Tryz.prog.unfollowed 9)) = true := by kernel_rfl
theorem polynomialTrue_fact7 : ((Rows.polynomialTrueRow.recurses == Tryz.prog.recurses 9)) = true := by kernel_rfl
theorem polynomialTrue_fact8 : ((Rows.polynomialTrueRow.named == Tryz.prog.varsNamed 9)) = true := by kernel_rfl
theorem polynomialTrue_fact9 : ((Rows.polynomialTrueRow.maps == (Tryz.f9.params.toList ++ Rows.polynomialTrueSpec.plain.varTypes Tryz.prog).any (Tryz.prog.mapsRec ·))) = true := by kernel_rfl
theorem polynomialTrue_fact10 : ((Rows.polynomialTrueRow.ifaces == (Tryz.f9.params.toList ++ Rows.polynomialTrueSpec.plain.varTypes Tryz.prog).any (Tryz.prog.ifacesRec ·))) = true := by kernel_rfl
theorem polynomialTrue_fact11 : ((Rows.polynomialTrueRow.mapsOut == Tryz.prog.mapsAmong Tryz.f9.resultTypes.toList)) = true := by kernel_rfl
theorem polynomialTrue_fact12 : ((Rows.polynomialTrueRow.loops == (Tryz.f9.params.toList ++ Rows.polynomialTrueSpec.plain.varTypes Tryz.prog).any (Tryz.prog.loopsFrom ·))) = true := by kernel_rfl
theorem polynomialTrue_fact13 : ((Rows.polynomialTrueRow.wideKeys == (Tryz.f9.params.toList ++ Rows.polynomialTrueSpec.plain.varTypes Tryz.prog ++ Tryz.f9.resultTypes.toList).any (Tryz.prog.wideKeysFrom ·))) = true := by kernel_rfl
theorem polynomialTrue_fact14 : (Rows.polynomialTrueSpec.vars.all (Tryz.prog.varReadable ·)) = true := by kernel_rfl
theorem polynomialTrue_fact15 : (Tryz.f9.resultTypes.all (fun t => Tryz.prog.readableRec t && decide (t < Tryz.prog.types.size))) = true := by kernel_rfl
theorem polynomialTrue_fact16 : ((Rows.polynomialTrueRow.ifacesOut == Tryz.f9.resultTypes.toList.any (Tryz.prog.ifacesRec ·))) = true := by kernel_rfl
theorem polynomialTrue_fact17 : ((Rows.polynomialTrueRow.loopsOut == Tryz.f9.resultTypes.toList.any (Tryz.prog.loopsFrom ·))) = true := by kernel_rfl
theorem polynomialTrue_fact18 : ((Rows.polynomialTrueRow.plainKeys == Tryz.prog.plainKeys)) = true := by kernel_rfl
theorem polynomialTrue_fact19 : (Rows.polynomialTrueRow.shortTexts.isNone) = true := by kernel_rfl
theorem polynomialTrue_fact20 : ((Rows.polynomialTrueRow.lifted == Tryz.prog.liftsFinal)) = true := by rw [pf_final]; kernel_rfl
theorem polynomialTrue_fact21 : ((Tryz.prog.make == some Rows.polynomialTrueRow.make)) = true := by rw [pf_make]; kernel_rfl
theorem polynomialTrue_fact23 : ((Rows.polynomialTrueRow.pinned == Rows.polynomialTrueRow.pinnedBy)) = true := by kernel_rfl
theorem polynomialTrue_fact24 : ((Rows.polynomialTrueRow.veiled == (Tryz.f9.params.toList ++ Rows.polynomialTrueSpec.plain.varTypes Tryz.prog ++ Tryz.f9.resultTypes.toList).any (Tryz.prog.veiledRec ·))) = true := by kernel_rfl
theorem polynomialTrue_fact25 : (Rows.polynomialTrueRow.veiledFits Tryz.prog Tryz.f9.params.toList (Tryz.f9.params.toList ++ Rows.polynomialTrueSpec.plain.varTypes Tryz.prog ++ Tryz.f9.resultTypes.toList)) = true := by kernel_rfl
theorem polynomialTrue_closed : joinedFacts Tryz.prog 9 Tryz.f9 Rows.polynomialTrueSpec Rows.polynomialTrueRow = true := by
  unfold joinedFacts
  rw [polynomialTrue_fact0]
  rw [pf_laidout]
  rw [pf_mapsrowed]
  rw [polynomialTrue_fact1]
  rw [polynomialTrue_fact2]
  rw [polynomialTrue_fact3]
  rw [pf_stops]
  rw [polynomialTrue_fact4]
  rw [pf_knobs]
  rw [polynomialTrue_fact5]
  rw [polynomialTrue_fact6]
  rw [polynomialTrue_fact7]
  rw [polynomialTrue_fact8]
  rw [polynomialTrue_fact9]
  rw [polynomialTrue_fact10]
  rw [polynomialTrue_fact11]
  rw [polynomialTrue_fact12]
  rw [polynomialTrue_fact13]
  rw [polynomialTrue_fact14]
  rw [polynomialTrue_fact15]
  rw [polynomialTrue_fact16]
  rw [polynomialTrue_fact17]
  rw [polynomialTrue_fact18]
  rw [polynomialTrue_fact19]
  rw [pf_heard]
  rw [pf_enter]
  rw [polynomialTrue_fact20]
  rw [polynomialTrue_fact21]
  rw [polynomialTrue_fact23]
  rw [polynomialTrue_fact24]
  rw [polynomialTrue_fact25]
  simp only [Bool.and_true, Bool.true_and]
  kernel_rfl
theorem polynomialTrue_fun : Tryz.pinned.checked.prog.funcNamed Rows.polynomialTrueRow.func = some 9 := by kernel_rfl
theorem polynomialTrue_goes : false = Rows.polynomialTrueRow.goesBy Tryz.pinned.checked.prog := by kernel_rfl
theorem polynomialTrue_text : Rows.polynomialTrueRow.wfByText (OpenSpec.ofChange Rows.polynomialTrueSpec) = true := by kernel_rfl
theorem polynomialTrue_stand : ([67, 76].all fun u => !Tryz.prog.wantsStandIn u) = true := by kernel_rfl
set_option maxRecDepth 100000 in
theorem polynomialTrue_lifted (os : Os) (started : os.Started) (H : Type) (enc : TypeId × Value → H) :
    ReturnsInHanded {} Tryz.checked os 9 .any (fun w args => (Rows.polynomialTrueSpec.pre enc Tryz.prog Tryz.f9 Rows.polynomialTrueRow.domain false w args ∧ laidMetH Tryz.prog Rows.polynomialTrueRow.laid w) ∧ sizedMet enc Tryz.prog Tryz.f9 (OpenSpec.ofChange Rows.polynomialTrueSpec) false w args)
      (Rows.polynomialTrueSpec.post enc Tryz.prog Tryz.f9 false true false false) := by
  refine returnsInHanded_of_change_and (C := Tryz.checked) (X := fun w _ => laidMetH Tryz.prog Rows.polynomialTrueRow.laid w) (fun _ _ _ hh h => h.of_heap hh) ownK started (by kernel_rfl) Tryz.func9
    (ChangeSpec.witness_shaped (enc := enc) (C := Tryz.checked) (os := os) (X := fun w _ => laidMetH Tryz.prog Rows.polynomialTrueRow.laid w) false (World.laidAll Tryz.prog os Rows.polynomialTrueRow.laid) #[.agg #[.int .i64 0, .slice none 0 0, .int .i64 0], .int .u16 0] 8 (World.laidAll_os _ _ _)
      (World.shaped_of_ZipB (by kernel_rfl) (by kernel_rfl)) (by kernel_rfl) (by kernel_rfl) (by kernel_rfl)
      (by rw [MakeChecks.laidMetH_plain _ _ _ (by kernel_rfl)]; exact laidMet_laidAll _ (by kernel_rfl) (by kernel_rfl))) ?_
  intro W base args ds gs before hval hW _ hsz _ _
  exact lift2 9 Tryz.f9 76 .u16 Tryz.underlying76 (by kernel_rfl) (of_decide_eq_true (by kernel_rfl)) rfl (fun _ _ _ => rfl) Tryz.params9 (by kernel_rfl) (fun W u f x h1 h2 h3 => ptrue_true u f x W h1 h2 h3) W base args ds gs before hval hW hsz
theorem polynomialTrue_holds : Rows.PolynomialTrueSaid :=
  OpenClaim.holds_of_wide 9 Tryz.f9 rfl rfl rfl rfl rfl rfl rfl ⟨rfl, rfl, rfl, rfl, rfl⟩ rfl rfl rfl rfl rfl polynomialTrue_fun Tryz.func9 polynomialTrue_closed
    (of_decide_eq_true (by kernel_rfl)) (by unfold Func.isWrapper; first | (rw [if_pos (by decide +kernel)]; kernel_rfl) | (rw [if_neg (by decide +kernel)]; exact ⟨rfl, rfl⟩))
    (fun os started H enc _ => polynomialTrue_lifted os started H enc)
theorem polynomialTrue_card : Rows.PolynomialTrueCardSaid :=
  Claim7.holds_tied_plain_at .later [] [.data, .pinned] true (true, "b50c0405a417493d467c38e237fe321c6520711c9b70ad2d04880b9d125055bd") true polynomialTrue_holds (fun _ h => by cases h) polynomialTrue_text (fun _ h => by cases h) polynomialTrue_row_tie rfl ⟨rfl, rfl⟩ pf_main rfl
    (fun f fn hf hfn => by
      obtain rfl : f = 9 := Option.some.inj (polynomialTrue_fun.symm.trans hf) |>.symm
      obtain rfl : fn = Tryz.f9 := (Option.some.inj (Tryz.func9.symm.trans hfn)).symm
      exact ⟨pf_looks, fun j t ht => by
        rw [Tryz.params9] at ht
        have hm : t ∈ [67, 76] := by simpa using Array.mem_of_getElem? ht
        exact (show Tryz.prog.wantsStandIn t = false by simpa using List.all_eq_true.1 polynomialTrue_stand t hm)⟩)
    polynomialTrue_goes
end Go.Proofs.YtpaedhlacbpmpaaGreatDoor
