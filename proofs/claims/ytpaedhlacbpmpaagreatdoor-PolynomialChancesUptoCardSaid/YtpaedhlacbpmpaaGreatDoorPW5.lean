import Derived.Test.YtpaedhlacbpmpaaGreatDoorPX1
import Derived.Test.YtpaedhlacbpmpaaGreatDoorPX2
import Derived.Test.YtpaedhlacbpmpaaGreatDoorPX3
import Derived.Test.YtpaedhlacbpmpaaGreatDoorPX4
import Derived.Test.YtpaedhlacbpmpaaGreatDoorPX5
import Derived.Test.YtpaedhlacbpmpaaGreatDoorPX6
import Derived.Test.YtpaedhlacbpmpaaGreatDoorPX7
import Derived.Test.YtpaedhlacbpmpaaGreatDoorPX8
import Derived.Test.YtpaedhlacbpmpaaGreatDoorPW1
import Derived.Test.YtpaedhlacbpmpaaGreatDoorPW3
import Derived.Test.YtpaedhlacbpmpaaGreatDoorPW4
import Derived.Test.YtpaedhlacbpmpaaGreatDoorRows
import Derived.Test.YtpaedhlacbpmpaaGreatDoorChecked
import Derived.Test.YtpaedhlacbpmpaaGreatDoorCards
import Derived.Test.YtpaedhlacbpmpaaGreatDoorTie
import Derived.ProofKit
import Derived.OpenShut
import Derived.LaidMore
import Derived.Lay
import Derived.SevenTiedAt
import Derived.Stop.Joined
import Derived.Deep.DeepHandedRow
/-
  The law PolynomialChances: its lift and its tied card.
-/
namespace Go.Proofs.YtpaedhlacbpmpaaGreatDoor
open Go.RowKit Go.ChangeShapes Go.WideShapes Go.ChangeAt

open Go.Joins Go.Deep
theorem polynomialChancesUpto_fact0 : (Rows.polynomialChancesUptoRow.wf (OpenSpec.ofChange Rows.polynomialChancesSpec)) = true := by kernel_rfl
theorem polynomialChancesUpto_fact1 : (Tryz.f8.params.all (Tryz.prog.readableRec ·)) = true := by kernel_rfl
theorem polynomialChancesUpto_fact2 : (namedTie Tryz.prog Rows.polynomialChancesUptoRow.named Rows.polynomialChancesSpec.vars) = true := by kernel_rfl
theorem polynomialChancesUpto_fact3 : ((Rows.polynomialChancesUptoRow.stops == [])) = true := by kernel_rfl
theorem polynomialChancesUpto_fact4 : ((Rows.polynomialChancesUptoRow.knobs == [])) = true := by kernel_rfl
theorem polynomialChancesUpto_fact5 : ((Rows.polynomialChancesUptoRow.inPlace == Tryz.prog.inPlace 8)) = true := by kernel_rfl
theorem polynomialChancesUpto_fact6 : ((Rows.polynomialChancesUptoRow.unfollowed == Tryz.prog.unfollowed 8)) = true := by kernel_rfl
theorem polynomialChancesUpto_fact7 : ((Rows.polynomialChancesUptoRow.recurses == Tryz.prog.recurses 8)) = true := by kernel_rfl
theorem polynomialChancesUpto_fact8 : ((Rows.polynomialChancesUptoRow.named == Tryz.prog.varsNamed 8)) = true := by kernel_rfl
theorem polynomialChancesUpto_fact9 : ((Rows.polynomialChancesUptoRow.maps == (Tryz.f8.params.toList ++ Rows.polynomialChancesSpec.plain.varTypes Tryz.prog).any (Tryz.prog.mapsRec ·))) = true := by kernel_rfl
theorem polynomialChancesUpto_fact10 : ((Rows.polynomialChancesUptoRow.ifaces == (Tryz.f8.params.toList ++ Rows.polynomialChancesSpec.plain.varTypes Tryz.prog).any (Tryz.prog.ifacesRec ·))) = true := by kernel_rfl
theorem polynomialChancesUpto_fact11 : ((Rows.polynomialChancesUptoRow.mapsOut == Tryz.prog.mapsAmong Tryz.f8.resultTypes.toList)) = true := by kernel_rfl
theorem polynomialChancesUpto_fact12 : ((Rows.polynomialChancesUptoRow.loops == (Tryz.f8.params.toList ++ Rows.polynomialChancesSpec.plain.varTypes Tryz.prog).any (Tryz.prog.loopsFrom ·))) = true := by kernel_rfl
theorem polynomialChancesUpto_fact13 : ((Rows.polynomialChancesUptoRow.wideKeys == (Tryz.f8.params.toList ++ Rows.polynomialChancesSpec.plain.varTypes Tryz.prog ++ Tryz.f8.resultTypes.toList).any (Tryz.prog.wideKeysFrom ·))) = true := by kernel_rfl
theorem polynomialChancesUpto_fact14 : (Rows.polynomialChancesSpec.vars.all (Tryz.prog.varReadable ·)) = true := by kernel_rfl
theorem polynomialChancesUpto_fact15 : (Tryz.f8.resultTypes.all (fun t => Tryz.prog.readableRec t && decide (t < Tryz.prog.types.size))) = true := by kernel_rfl
theorem polynomialChancesUpto_fact16 : ((Rows.polynomialChancesUptoRow.ifacesOut == Tryz.f8.resultTypes.toList.any (Tryz.prog.ifacesRec ·))) = true := by kernel_rfl
theorem polynomialChancesUpto_fact17 : ((Rows.polynomialChancesUptoRow.loopsOut == Tryz.f8.resultTypes.toList.any (Tryz.prog.loopsFrom ·))) = true := by kernel_rfl
theorem polynomialChancesUpto_fact18 : ((Rows.polynomialChancesUptoRow.plainKeys == Tryz.prog.plainKeys)) = true := by kernel_rfl
theorem polynomialChancesUpto_fact19 : (Rows.polynomialChancesUptoRow.shortTexts.isNone) = true := by kernel_rfl
theorem polynomialChancesUpto_fact20 : ((Rows.polynomialChancesUptoRow.lifted == Tryz.prog.liftsFinal)) = true := by rw [pf_final]; kernel_rfl
theorem polynomialChancesUpto_fact21 : ((Tryz.prog.make == some Rows.polynomialChancesUptoRow.make)) = true := by rw [pf_make]; kernel_rfl
theorem polynomialChancesUpto_fact23 : ((Rows.polynomialChancesUptoRow.pinned == Rows.polynomialChancesUptoRow.pinnedBy)) = true := by kernel_rfl
theorem polynomialChancesUpto_fact24 : ((Rows.polynomialChancesUptoRow.veiled == (Tryz.f8.params.toList ++ Rows.polynomialChancesSpec.plain.varTypes Tryz.prog ++ Tryz.f8.resultTypes.toList).any (Tryz.prog.veiledRec ·))) = true := by kernel_rfl
theorem polynomialChancesUpto_fact25 : (Rows.polynomialChancesUptoRow.veiledFits Tryz.prog Tryz.f8.params.toList (Tryz.f8.params.toList ++ Rows.polynomialChancesSpec.plain.varTypes Tryz.prog ++ Tryz.f8.resultTypes.toList)) = true := by kernel_rfl
theorem polynomialChancesUpto_closed : joinedFacts Tryz.prog 8 Tryz.f8 Rows.polynomialChancesSpec Rows.polynomialChancesUptoRow = true := by
  unfold joinedFacts
  rw [polynomialChancesUpto_fact0]
  rw [pf_laidout]
  rw [pf_mapsrowed]
  rw [polynomialChancesUpto_fact1]
  rw [polynomialChancesUpto_fact2]
  rw [polynomialChancesUpto_fact3]
  rw [pf_stops]
  rw [polynomialChancesUpto_fact4]
  rw [pf_knobs]
  rw [polynomialChancesUpto_fact5]
  rw [polynomialChancesUpto_fact6]
  rw [polynomialChancesUpto_fact7]
  rw [polynomialChancesUpto_fact8]
  rw [polynomialChancesUpto_fact9]
  rw [polynomialChancesUpto_fact10]
  rw [polynomialChancesUpto_fact11]
  rw [polynomialChancesUpto_fact12]
  rw [polynomialChancesUpto_fact13]
  rw [polynomialChancesUpto_fact14]
  rw [polynomialChancesUpto_fact15]
  rw [polynomialChancesUpto_fact16]
  rw [polynomialChancesUpto_fact17]
  rw [polynomialChancesUpto_fact18]
  rw [polynomialChancesUpto_fact19]
  rw [pf_heard]
  rw [pf_enter]
  rw [polynomialChancesUpto_fact20]
  rw [polynomialChancesUpto_fact21]
  rw [polynomialChancesUpto_fact23]
  rw [polynomialChancesUpto_fact24]
  rw [polynomialChancesUpto_fact25]
  simp only [Bool.and_true, Bool.true_and]
  kernel_rfl
theorem polynomialChancesUpto_fun : Tryz.pinned.checked.prog.funcNamed Rows.polynomialChancesUptoRow.func = some 8 := by kernel_rfl
theorem polynomialChancesUpto_goes : false = Rows.polynomialChancesUptoRow.goesBy Tryz.pinned.checked.prog := by kernel_rfl
theorem polynomialChancesUpto_text : Rows.polynomialChancesUptoRow.wfByText (OpenSpec.ofChange Rows.polynomialChancesSpec) = true := by kernel_rfl
theorem polynomialChancesUpto_stand : ([67, 55].all fun u => !Tryz.prog.wantsStandIn u) = true := by kernel_rfl
/-- A world for the witness. -/
noncomputable def laidWU (os : Os) : World := World.laidAll Tryz.prog os Rows.polynomialChancesUptoRow.laid
set_option maxRecDepth 100000 in
theorem polynomialChancesUpto_reads (os : Os) {H : Type} (enc : TypeId × Value → H) : ∃ x, DataW.whole enc Tryz.prog ((laidWU os).forCall (fun _ _ => 0) ⟨#[], #[.agg #[.int .i64 0, .slice none 0 0, .int .i64 0], .slice none 0 0], []⟩).memory Tryz.f8.params.toList Rows.polynomialChancesSpec.vars false (#[.agg #[.int .i64 0, .slice none 0 0, .int .i64 0], .slice none 0 0] : Array Value).toList 8 = some x ∧ Rows.uptoSmall H (x.1 ++ x.2.1) = true :=
  ⟨([.agg [.lit (.int .i64 0), .nil, .lit (.int .i64 0)], .nil], [], []), by kernel_rfl, by kernel_rfl⟩
set_option maxRecDepth 100000 in
theorem polynomialChancesUpto_lifted (os : Os) (started : os.Started) (H : Type) (enc : TypeId × Value → H) (F : Stop.Interp) :
    ReturnsInHanded {} Tryz.checked os 8 .any ((Rows.OpenSpec.upto Rows.polynomialChancesSpec).preRow enc Tryz.prog Tryz.f8 Rows.polynomialChancesUptoRow.domain false Rows.polynomialChancesUptoRow.laid)
      (((Rows.OpenSpec.upto Rows.polynomialChancesSpec).at F).post enc Tryz.prog Tryz.f8 false true false false) := by
  obtain ⟨x, hx, hxk⟩ := polynomialChancesUpto_reads os enc
  refine returnsInHanded_of_row (C := Tryz.checked) (s := Rows.OpenSpec.upto Rows.polynomialChancesSpec) ownK started (by kernel_rfl) Tryz.func8
    ⟨laidWU os, fun _ _ => 0, ⟨#[], #[.agg #[.int .i64 0, .slice none 0 0, .int .i64 0], .slice none 0 0], []⟩, World.laidAll_os _ _ _, World.shaped_of_ZipB (by kernel_rfl) (by kernel_rfl), rfl, (Input.okWide_of_okWideB (by kernel_rfl)).2,
      OpenSpec.preRow_of_cond 8 hx (by kernel_rfl) (fun k hk => by cases hk; exact hxk) (by kernel_rfl) (by rw [MakeChecks.laidMetH_plain _ _ _ (by kernel_rfl)]; exact laidMet_laidAll _ (by kernel_rfl) (by kernel_rfl)), by
      simp only [Assume.holds]
      exact ⟨by simp, by simp, fun _ => Modest.zero, by simp, by simp⟩⟩ ?_
  intro W base args ds gs before hval hW _ hk hsz _ _ _
  exact liftFRU 8 Tryz.f8 rfl (fun _ _ _ => rfl) Tryz.params8 (by kernel_rfl) (fun W u v f ps h1 h2 h3 h4 => pchances_true u v f ps W h1 h2 h3 h4) W base args ds gs before hval hW hsz (hk _ rfl)
set_option maxRecDepth 100000 in
theorem polynomialChancesUpto_holds : Rows.PolynomialChancesUptoSaid :=
  OpenClaim.holds_of_cond 8 Tryz.f8 rfl rfl rfl rfl rfl rfl rfl ⟨rfl, rfl, rfl, rfl, rfl⟩ rfl rfl rfl rfl rfl polynomialChancesUpto_fun Tryz.func8 polynomialChancesUpto_closed
    (of_decide_eq_true (by kernel_rfl)) (by unfold Func.isWrapper; first | (rw [if_pos (by decide +kernel)]; kernel_rfl) | (rw [if_neg (by decide +kernel)]; exact ⟨rfl, rfl⟩))
    (fun os started H enc _ F => by rw [OpenClaim.pre_eq_preRow]; exact polynomialChancesUpto_lifted os started H enc F)
theorem polynomialChancesUpto_card : Rows.PolynomialChancesUptoCardSaid :=
  Claim7.holds_tied_plain_at .later [] [.data, .pinned] true (true, "b50c0405a417493d467c38e237fe321c6520711c9b70ad2d04880b9d125055bd") true polynomialChancesUpto_holds (fun _ h => by cases h) polynomialChancesUpto_text (fun _ h => by cases h) polynomialChancesUpto_row_tie rfl ⟨rfl, rfl⟩ pf_main rfl
    (fun f fn hf hfn => by
      obtain rfl : f = 8 := Option.some.inj (polynomialChancesUpto_fun.symm.trans hf) |>.symm
      obtain rfl : fn = Tryz.f8 := (Option.some.inj (Tryz.func8.symm.trans hfn)).symm
      exact ⟨pf_looks, fun j t ht => by
        rw [Tryz.params8] at ht
        have hm : t ∈ [67, 55] := by simpa using Array.mem_of_getElem? ht
        exact (show Tryz.prog.wantsStandIn t = false by simpa using List.all_eq_true.1 polynomialChancesUpto_stand t hm)⟩)
    polynomialChancesUpto_goes
end Go.Proofs.YtpaedhlacbpmpaaGreatDoor
