import Derived.Test.YthiemjodcklejaaGreatDoorDX1
import Derived.Test.YthiemjodcklejaaGreatDoorDX2
import Derived.Test.YthiemjodcklejaaGreatDoorDX3
import Derived.Test.YthiemjodcklejaaGreatDoorDX4
import Derived.Test.YthiemjodcklejaaGreatDoorDX5
import Derived.Test.YthiemjodcklejaaGreatDoorDX6
import Derived.Test.YthiemjodcklejaaGreatDoorDX7
import Derived.Test.YthiemjodcklejaaGreatDoorDX8
import Derived.Test.YthiemjodcklejaaGreatDoorDX9
import Derived.Test.YthiemjodcklejaaGreatDoorDX10
import Derived.Test.YthiemjodcklejaaGreatDoorDX11
import Derived.Test.YthiemjodcklejaaGreatDoorDX12
import Derived.Test.YthiemjodcklejaaGreatDoorRows
import Derived.Test.YthiemjodcklejaaGreatDoorChecked
import Derived.Test.YthiemjodcklejaaGreatDoorCards
import Derived.Test.YthiemjodcklejaaGreatDoorTie
import Derived.ProofKit
import Derived.OpenShut
import Derived.LaidMore
import Derived.Lay
import Derived.SevenTiedAt
import Derived.Stop.Joined
/-
  The law DisjointExact: its lift and its tied card.
-/
namespace Go.Proofs.YthiemjodcklejaaGreatDoor
open Go.RowKit Go.ChangeShapes Go.WideShapes Go.ChangeAt

open Go.Joins Go.Deep
theorem disjointExact_fact0 : (Rows.disjointExactRow.wf (OpenSpec.ofChange Rows.disjointExactSpec)) = true := by kernel_rfl
theorem disjointExact_fact1 : (Tryz.f4.params.all (Tryz.prog.readableRec ·)) = true := by kernel_rfl
theorem disjointExact_fact2 : (namedTie Tryz.prog Rows.disjointExactRow.named Rows.disjointExactSpec.vars) = true := by kernel_rfl
theorem disjointExact_fact3 : ((Rows.disjointExactRow.stops == [])) = true := by kernel_rfl
theorem disjointExact_fact4 : ((Rows.disjointExactRow.knobs == [])) = true := by kernel_rfl
theorem disjointExact_fact5 : ((Rows.disjointExactRow.inPlace == Tryz.prog.inPlace 4)) = true := by kernel_rfl
theorem disjointExact_fact6 : ((Rows.disjointExactRow.unfollowed == Tryz.prog.unfollowed 4)) = true := by kernel_rfl
theorem disjointExact_fact7 : ((Rows.disjointExactRow.recurses == Tryz.prog.recurses 4)) = true := by kernel_rfl
theorem disjointExact_fact8 : ((Rows.disjointExactRow.named == Tryz.prog.varsNamed 4)) = true := by kernel_rfl
theorem disjointExact_fact9 : ((Rows.disjointExactRow.maps == (Tryz.f4.params.toList ++ Rows.disjointExactSpec.plain.varTypes Tryz.prog).any (Tryz.prog.mapsRec ·))) = true := by kernel_rfl
theorem disjointExact_fact10 : ((Rows.disjointExactRow.ifaces == (Tryz.f4.params.toList ++ Rows.disjointExactSpec.plain.varTypes Tryz.prog).any (Tryz.prog.ifacesRec ·))) = true := by kernel_rfl
theorem disjointExact_fact11 : ((Rows.disjointExactRow.mapsOut == Tryz.prog.mapsAmong Tryz.f4.resultTypes.toList)) = true := by kernel_rfl
theorem disjointExact_fact12 : ((Rows.disjointExactRow.loops == (Tryz.f4.params.toList ++ Rows.disjointExactSpec.plain.varTypes Tryz.prog).any (Tryz.prog.loopsFrom ·))) = true := by kernel_rfl
theorem disjointExact_fact13 : ((Rows.disjointExactRow.wideKeys == (Tryz.f4.params.toList ++ Rows.disjointExactSpec.plain.varTypes Tryz.prog ++ Tryz.f4.resultTypes.toList).any (Tryz.prog.wideKeysFrom ·))) = true := by kernel_rfl
theorem disjointExact_fact14 : (Rows.disjointExactSpec.vars.all (Tryz.prog.varReadable ·)) = true := by kernel_rfl
theorem disjointExact_fact15 : (Tryz.f4.resultTypes.all (fun t => Tryz.prog.readableRec t && decide (t < Tryz.prog.types.size))) = true := by kernel_rfl
theorem disjointExact_fact16 : ((Rows.disjointExactRow.ifacesOut == Tryz.f4.resultTypes.toList.any (Tryz.prog.ifacesRec ·))) = true := by kernel_rfl
theorem disjointExact_fact17 : ((Rows.disjointExactRow.loopsOut == Tryz.f4.resultTypes.toList.any (Tryz.prog.loopsFrom ·))) = true := by kernel_rfl
theorem disjointExact_fact18 : ((Rows.disjointExactRow.plainKeys == Tryz.prog.plainKeys)) = true := by kernel_rfl
theorem disjointExact_fact19 : (Rows.disjointExactRow.shortTexts.isNone) = true := by kernel_rfl
theorem disjointExact_fact20 : ((Rows.disjointExactRow.lifted == Tryz.prog.liftsFinal)) = true := by rw [pf_final]; kernel_rfl
theorem disjointExact_fact21 : ((Tryz.prog.make == some Rows.disjointExactRow.make)) = true := by rw [pf_make]; kernel_rfl
theorem disjointExact_fact23 : ((Rows.disjointExactRow.pinned == Rows.disjointExactRow.pinnedBy)) = true := by kernel_rfl
theorem disjointExact_fact24 : ((Rows.disjointExactRow.veiled == (Tryz.f4.params.toList ++ Rows.disjointExactSpec.plain.varTypes Tryz.prog ++ Tryz.f4.resultTypes.toList).any (Tryz.prog.veiledRec ·))) = true := by kernel_rfl
theorem disjointExact_fact25 : (Rows.disjointExactRow.veiledFits Tryz.prog Tryz.f4.params.toList (Tryz.f4.params.toList ++ Rows.disjointExactSpec.plain.varTypes Tryz.prog ++ Tryz.f4.resultTypes.toList)) = true := by kernel_rfl
theorem disjointExact_closed : joinedFacts Tryz.prog 4 Tryz.f4 Rows.disjointExactSpec Rows.disjointExactRow = true := by
  unfold joinedFacts
  rw [disjointExact_fact0]
  rw [pf_laidout]
  rw [pf_mapsrowed]
  rw [disjointExact_fact1]
  rw [disjointExact_fact2]
  rw [disjointExact_fact3]
  rw [pf_stops]
  rw [disjointExact_fact4]
  rw [pf_knobs]
  rw [disjointExact_fact5]
  rw [disjointExact_fact6]
  rw [disjointExact_fact7]
  rw [disjointExact_fact8]
  rw [disjointExact_fact9]
  rw [disjointExact_fact10]
  rw [disjointExact_fact11]
  rw [disjointExact_fact12]
  rw [disjointExact_fact13]
  rw [disjointExact_fact14]
  rw [disjointExact_fact15]
  rw [disjointExact_fact16]
  rw [disjointExact_fact17]
  rw [disjointExact_fact18]
  rw [disjointExact_fact19]
  rw [pf_heard]
  rw [pf_enter]
  rw [disjointExact_fact20]
  rw [disjointExact_fact21]
  rw [disjointExact_fact23]
  rw [disjointExact_fact24]
  rw [disjointExact_fact25]
  simp only [Bool.and_true, Bool.true_and]
  kernel_rfl
theorem disjointExact_fun : Tryz.pinned.checked.prog.funcNamed Rows.disjointExactRow.func = some 4 := by kernel_rfl
theorem disjointExact_goes : false = Rows.disjointExactRow.goesBy Tryz.pinned.checked.prog := by kernel_rfl
theorem disjointExact_text : Rows.disjointExactRow.wfByText (OpenSpec.ofChange Rows.disjointExactSpec) = true := by kernel_rfl
theorem disjointExact_stand : ([24, 25].all fun u => !Tryz.prog.wantsStandIn u) = true := by kernel_rfl
set_option maxRecDepth 100000 in
theorem disjointExact_lifted (os : Os) (started : os.Started) (H : Type) (enc : TypeId × Value → H) :
    ReturnsInHanded {} Tryz.checked os 4 .any (fun w args => (Rows.disjointExactSpec.pre enc Tryz.prog Tryz.f4 Rows.disjointExactRow.domain false w args ∧ laidMetH Tryz.prog Rows.disjointExactRow.laid w) ∧ sizedMet enc Tryz.prog Tryz.f4 (OpenSpec.ofChange Rows.disjointExactSpec) false w args)
      (Rows.disjointExactSpec.post enc Tryz.prog Tryz.f4 false true false false) := by
  refine returnsInHanded_of_change_and (C := Tryz.checked) (X := fun w _ => laidMetH Tryz.prog Rows.disjointExactRow.laid w) (fun _ _ _ hh h => h.of_heap hh) ownK started (by kernel_rfl) Tryz.func4
    (ChangeSpec.witness_shaped (enc := enc) (C := Tryz.checked) (os := os) (X := fun w _ => laidMetH Tryz.prog Rows.disjointExactRow.laid w) false (World.laidAll Tryz.prog os Rows.disjointExactRow.laid) #[.agg #[.int .i64 0, .slice none 0 0, .int .i64 0], .slice none 0 0] 8 (World.laidAll_os _ _ _)
      (World.shaped_of_ZipB (by kernel_rfl) (by kernel_rfl)) (by kernel_rfl) (by kernel_rfl) (by kernel_rfl)
      (by rw [MakeChecks.laidMetH_plain _ _ _ (by kernel_rfl)]; exact laidMet_laidAll _ (by kernel_rfl) (by kernel_rfl))) ?_
  intro W base args ds gs before hval hW _ hsz _ _
  exact liftFR 4 Tryz.f4 rfl (fun _ _ _ => rfl) Tryz.params4 (by kernel_rfl) (fun W u v f ps h1 h2 h3 => dexact_true u v f ps W h1 h2 h3) W base args ds gs before hval hW hsz
theorem disjointExact_holds : Rows.DisjointExactSaid :=
  OpenClaim.holds_of_wide 4 Tryz.f4 rfl rfl rfl rfl rfl rfl rfl ⟨rfl, rfl, rfl, rfl, rfl⟩ rfl rfl rfl rfl rfl disjointExact_fun Tryz.func4 disjointExact_closed
    (of_decide_eq_true (by kernel_rfl)) (by unfold Func.isWrapper; first | (rw [if_pos (by decide +kernel)]; kernel_rfl) | (rw [if_neg (by decide +kernel)]; exact ⟨rfl, rfl⟩))
    (fun os started H enc _ => disjointExact_lifted os started H enc)
theorem disjointExact_card : Rows.DisjointExactCardSaid :=
  Claim7.holds_tied_plain_at .later [] [.data, .pinned] true (true, "15fa4e283220c08cf23231c388907d69b12503eb061f69d36aab2e182cf8ee0f") true disjointExact_holds (fun _ h => by cases h) disjointExact_text (fun _ h => by cases h) disjointExact_row_tie rfl ⟨rfl, rfl⟩ pf_main rfl
    (fun f fn hf hfn => by
      obtain rfl : f = 4 := Option.some.inj (disjointExact_fun.symm.trans hf) |>.symm
      obtain rfl : fn = Tryz.f4 := (Option.some.inj (Tryz.func4.symm.trans hfn)).symm
      exact ⟨pf_looks, fun j t ht => by
        rw [Tryz.params4] at ht
        have hm : t ∈ [24, 25] := by simpa using Array.mem_of_getElem? ht
        exact (show Tryz.prog.wantsStandIn t = false by simpa using List.all_eq_true.1 disjointExact_stand t hm)⟩)
    disjointExact_goes
end Go.Proofs.YthiemjodcklejaaGreatDoor
