import Derived.Test.YtofibjflkebkpaaGreatDoorEX1
import Derived.Test.YtofibjflkebkpaaGreatDoorEX2
import Derived.Test.YtofibjflkebkpaaGreatDoorEX3
import Derived.Test.YtofibjflkebkpaaGreatDoorEX4
import Derived.Test.YtofibjflkebkpaaGreatDoorEX5
import Derived.Test.YtofibjflkebkpaaGreatDoorEX6
import Derived.Test.YtofibjflkebkpaaGreatDoorEX7
import Derived.Test.YtofibjflkebkpaaGreatDoorEX8
import Derived.Test.YtofibjflkebkpaaGreatDoorEX9
import Derived.Test.YtofibjflkebkpaaGreatDoorEX10
import Derived.Test.YtofibjflkebkpaaGreatDoorEX11
import Derived.Test.YtofibjflkebkpaaGreatDoorRows
import Derived.Test.YtofibjflkebkpaaGreatDoorChecked
import Derived.Test.YtofibjflkebkpaaGreatDoorCards
import Derived.Test.YtofibjflkebkpaaGreatDoorTie
import Derived.ProofKit
import Derived.OpenShut
import Derived.LaidMore
import Derived.Lay
import Derived.SevenTiedAt
import Derived.Stop.Joined
set_option maxRecDepth 100000
set_option maxHeartbeats 16000000
namespace Go.Proofs.YtofibjflkebkpaaGreatDoor
open Go.RowKit
section
open Go.RowKit Go.ChangeShapes Go.WideShapes Go.ChangeAt
open Go.Joins Go.Deep
theorem jT:(Rows.esaryProductsRow.wf (OpenSpec.ofChange Rows.esaryProductsSpec))=true:=by kernel_rfl
theorem jU:(Tryz.f3.params.all (Tryz.prog.readableRec ·))=true:=by kernel_rfl
theorem jV:(namedTie Tryz.prog Rows.esaryProductsRow.named Rows.esaryProductsSpec.vars)=true:=by kernel_rfl
theorem jW:((Rows.esaryProductsRow.stops == []))=true:=by kernel_rfl
theorem jX:((Rows.esaryProductsRow.knobs == []))=true:=by kernel_rfl
theorem jY:((Rows.esaryProductsRow.inPlace == Tryz.prog.inPlace 3))=true:=by kernel_rfl
theorem jZ:((Rows.esaryProductsRow.unfollowed == Tryz.prog.unfollowed 3))=true:=by kernel_rfl
theorem j_:((Rows.esaryProductsRow.recurses == Tryz.prog.recurses 3))=true:=by kernel_rfl
theorem j':((Rows.esaryProductsRow.named == Tryz.prog.varsNamed 3))=true:=by kernel_rfl
theorem ke:((Rows.esaryProductsRow.maps == (Tryz.f3.params.toList++Rows.esaryProductsSpec.plain.varTypes Tryz.prog).any (Tryz.prog.mapsRec ·)))=true:=by kernel_rfl
theorem iM:((Rows.esaryProductsRow.ifaces == (Tryz.f3.params.toList++Rows.esaryProductsSpec.plain.varTypes Tryz.prog).any (Tryz.prog.ifacesRec ·)))=true:=by kernel_rfl
theorem iN:((Rows.esaryProductsRow.mapsOut == Tryz.prog.mapsAmong Tryz.f3.resultTypes.toList))=true:=by kernel_rfl
theorem iO:((Rows.esaryProductsRow.loops == (Tryz.f3.params.toList++Rows.esaryProductsSpec.plain.varTypes Tryz.prog).any (Tryz.prog.loopsFrom ·)))=true:=by kernel_rfl
theorem iP:((Rows.esaryProductsRow.wideKeys == (Tryz.f3.params.toList++Rows.esaryProductsSpec.plain.varTypes Tryz.prog++Tryz.f3.resultTypes.toList).any (Tryz.prog.wideKeysFrom ·)))=true:=by kernel_rfl
theorem iQ:(Rows.esaryProductsSpec.vars.all (Tryz.prog.varReadable ·))=true:=by kernel_rfl
theorem iR:(Tryz.f3.resultTypes.all (fun t=>Tryz.prog.readableRec t&&decide (t<Tryz.prog.types.size)))=true:=by kernel_rfl
theorem iS:((Rows.esaryProductsRow.ifacesOut == Tryz.f3.resultTypes.toList.any (Tryz.prog.ifacesRec ·)))=true:=by kernel_rfl
theorem iT:((Rows.esaryProductsRow.loopsOut == Tryz.f3.resultTypes.toList.any (Tryz.prog.loopsFrom ·)))=true:=by kernel_rfl
theorem iU:((Rows.esaryProductsRow.plainKeys == Tryz.prog.plainKeys))=true:=by kernel_rfl
theorem iV:(Rows.esaryProductsRow.shortTexts.isNone)=true:=by kernel_rfl
theorem iW:((Rows.esaryProductsRow.lifted == Tryz.prog.liftsFinal))=true:=by rw [oY];kernel_rfl
theorem iX:((Tryz.prog.make == some Rows.esaryProductsRow.make))=true:=by rw [rG];kernel_rfl
theorem iY:((Rows.esaryProductsRow.pinned == Rows.esaryProductsRow.pinnedBy))=true:=by kernel_rfl
theorem iZ:((Rows.esaryProductsRow.veiled == (Tryz.f3.params.toList++Rows.esaryProductsSpec.plain.varTypes Tryz.prog++Tryz.f3.resultTypes.toList).any (Tryz.prog.veiledRec ·)))=true:=by kernel_rfl
theorem i_:(Rows.esaryProductsRow.veiledFits Tryz.prog Tryz.f3.params.toList (Tryz.f3.params.toList++Rows.esaryProductsSpec.plain.varTypes Tryz.prog++Tryz.f3.resultTypes.toList))=true:=by kernel_rfl
theorem iL:joinedFacts Tryz.prog 3 Tryz.f3 Rows.esaryProductsSpec Rows.esaryProductsRow=true:=by
 unfold joinedFacts;rw [jT];rw [kK];rw [gM];rw [jU];rw [jV];rw [jW];rw [pe];rw [jX];rw [o_];rw [jY];rw [jZ];rw [j_];rw [j'];rw [ke];rw [iM];rw [iN];rw [iO];rw [iP];rw [iQ];rw [iR];rw [iS];rw [iT];rw [iU];rw [iV];rw [oZ];rw [oX];rw [iW];rw [iX];rw [iY];rw [iZ];rw [i_];simp only [Bool.and_true,Bool.true_and]
 kernel_rfl
theorem fx:Tryz.pinned.checked.prog.funcNamed Rows.esaryProductsRow.func=some 3:=by kernel_rfl
theorem kA:false=Rows.esaryProductsRow.goesBy Tryz.pinned.checked.prog:=by kernel_rfl
theorem kB:Rows.esaryProductsRow.wfByText (OpenSpec.ofChange Rows.esaryProductsSpec)=true:=by kernel_rfl
theorem kg:([22,23].all fun u=>!Tryz.prog.wantsStandIn u)=true:=by kernel_rfl
theorem i' (os:Os) (started:os.Started) (H:Type) (enc:TypeId × Value->H) :
  ReturnsInHanded {} Tryz.checked os 3 .any (fun w args=>(Rows.esaryProductsSpec.pre enc Tryz.prog Tryz.f3 Rows.esaryProductsRow.domain false w args/\laidMetH Tryz.prog Rows.esaryProductsRow.laid w)/\sizedMet enc Tryz.prog Tryz.f3 (OpenSpec.ofChange Rows.esaryProductsSpec) false w args)
   (Rows.esaryProductsSpec.post enc Tryz.prog Tryz.f3 false true false false):=by
 refine returnsInHanded_of_change_and (C:=Tryz.checked) (X:=fun w _=>laidMetH Tryz.prog Rows.esaryProductsRow.laid w) (fun _ _ _ hh h=>h.of_heap hh) DV started (by kernel_rfl) Tryz.func3
  (ChangeSpec.witness_shaped (enc:=enc) (C:=Tryz.checked) (os:=os) (X:=fun w _=>laidMetH Tryz.prog Rows.esaryProductsRow.laid w) false (World.laidAll Tryz.prog os Rows.esaryProductsRow.laid) #[.slice none 0 0,.slice none 0 0] 8 (World.laidAll_os _ _ _)
   (World.shaped_of_ZipB (by kernel_rfl) (by kernel_rfl)) (by kernel_rfl) (by kernel_rfl) (by kernel_rfl)
   (by rw [MakeChecks.laidMetH_plain _ _ _ (by kernel_rfl)];exact laidMet_laidAll _ (by kernel_rfl) (by kernel_rfl))) ?_
 intro W base args ds gs before hval hW _ hsz _ _;exact Ap 3 Tryz.f3 rfl (fun _ _ _=>rfl) Tryz.params3 (by kernel_rfl) (fun W cv v xs ps h1 h2=>nO cv v xs ps W h1 h2) W base args ds gs before hval hW hsz
theorem kf:Rows.EsaryProductsSaid :=
 OpenClaim.holds_of_wide 3 Tryz.f3 rfl rfl rfl rfl rfl rfl rfl ⟨rfl,rfl,rfl,rfl,rfl⟩ rfl rfl rfl rfl rfl fx Tryz.func3 iL
  (of_decide_eq_true (by kernel_rfl)) (by unfold Func.isWrapper;first | (rw [if_pos (by decide +kernel)];kernel_rfl) | (rw [if_neg (by decide +kernel)];exact ⟨rfl,rfl⟩))
  (fun os started H enc _=>i' os started H enc)
theorem esaryProducts_card:Rows.EsaryProductsCardSaid :=
 Claim7.holds_tied_plain_at .later [] [.data,.pinned] true (true,"9a52619a5498904b8df2e98de87d31084b44bcf71aba10a5c83eb1a1b135aa30") true kf (fun _ h=>by cases h) kB (fun _ h=>by cases h) esaryProducts_row_tie rfl ⟨rfl,rfl⟩ rF rfl
  (fun f fn hf hfn=>by
   obtain rfl:f=3:=Option.some.inj (fx.symm.trans hf) |>.symm
   obtain rfl:fn=Tryz.f3:=(Option.some.inj (Tryz.func3.symm.trans hfn)).symm
   exact ⟨pd,fun j t ht=>by
    rw [Tryz.params3] at ht;have hm:t∈[22,23]:=by simpa using Array.mem_of_getElem? ht
    exact (show Tryz.prog.wantsStandIn t=false by simpa using List.all_eq_true.1 kg t hm)⟩)
  kA
end
end Go.Proofs.YtofibjflkebkpaaGreatDoor
