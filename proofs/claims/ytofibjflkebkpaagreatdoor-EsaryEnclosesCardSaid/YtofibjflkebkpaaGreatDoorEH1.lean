import Derived.Test.YtofibjflkebkpaaGreatDoorEG1
import Derived.Test.YtofibjflkebkpaaGreatDoorEG2
import Derived.Test.YtofibjflkebkpaaGreatDoorEG3
import Derived.Test.YtofibjflkebkpaaGreatDoorEG4
import Derived.Test.YtofibjflkebkpaaGreatDoorEG5
import Derived.Test.YtofibjflkebkpaaGreatDoorEG6
import Derived.Test.YtofibjflkebkpaaGreatDoorEG7
import Derived.Test.YtofibjflkebkpaaGreatDoorEG8
import Derived.Test.YtofibjflkebkpaaGreatDoorEG9
import Derived.Test.YtofibjflkebkpaaGreatDoorEG10
import Derived.Test.YtofibjflkebkpaaGreatDoorEG11
import Derived.Test.YtofibjflkebkpaaGreatDoorRows
import Derived.Test.YtofibjflkebkpaaGreatDoorChecked
import Derived.Test.YtofibjflkebkpaaGreatDoorCards
import Derived.Test.YtofibjflkebkpaaGreatDoorTie
import Derived.ProofKit
import Derived.OpenShut
import Derived.LaidMore
import Derived.Lay
import Derived.SevenTiedAt
import Derived.Stop.Joined
set_option maxRecDepth 100000
set_option maxHeartbeats 16000000
namespace Go.Proofs.YtofibjflkebkpaaGreatDoor
open Go.RowKit
section
open Go.RowKit Go.ChangeShapes Go.WideShapes Go.ChangeAt
open Go.Joins Go.Deep
theorem jB:(Rows.esaryEnclosesRow.wf (OpenSpec.ofChange Rows.esaryEnclosesSpec))=true:=by kernel_rfl
theorem jC:(Tryz.f8.params.all (Tryz.prog.readableRec ·))=true:=by kernel_rfl
theorem jD:(namedTie Tryz.prog Rows.esaryEnclosesRow.named Rows.esaryEnclosesSpec.vars)=true:=by kernel_rfl
theorem jE:((Rows.esaryEnclosesRow.stops == []))=true:=by kernel_rfl
theorem jF:((Rows.esaryEnclosesRow.knobs == []))=true:=by kernel_rfl
theorem jG:((Rows.esaryEnclosesRow.inPlace == Tryz.prog.inPlace 8))=true:=by kernel_rfl
theorem jH:((Rows.esaryEnclosesRow.unfollowed == Tryz.prog.unfollowed 8))=true:=by kernel_rfl
theorem jI:((Rows.esaryEnclosesRow.recurses == Tryz.prog.recurses 8))=true:=by kernel_rfl
theorem jJ:((Rows.esaryEnclosesRow.named == Tryz.prog.varsNamed 8))=true:=by kernel_rfl
theorem jK:((Rows.esaryEnclosesRow.maps == (Tryz.f8.params.toList++Rows.esaryEnclosesSpec.plain.varTypes Tryz.prog).any (Tryz.prog.mapsRec ·)))=true:=by kernel_rfl
theorem iu:((Rows.esaryEnclosesRow.ifaces == (Tryz.f8.params.toList++Rows.esaryEnclosesSpec.plain.varTypes Tryz.prog).any (Tryz.prog.ifacesRec ·)))=true:=by kernel_rfl
theorem iv:((Rows.esaryEnclosesRow.mapsOut == Tryz.prog.mapsAmong Tryz.f8.resultTypes.toList))=true:=by kernel_rfl
theorem iw:((Rows.esaryEnclosesRow.loops == (Tryz.f8.params.toList++Rows.esaryEnclosesSpec.plain.varTypes Tryz.prog).any (Tryz.prog.loopsFrom ·)))=true:=by kernel_rfl
theorem ix:((Rows.esaryEnclosesRow.wideKeys == (Tryz.f8.params.toList++Rows.esaryEnclosesSpec.plain.varTypes Tryz.prog++Tryz.f8.resultTypes.toList).any (Tryz.prog.wideKeysFrom ·)))=true:=by kernel_rfl
theorem iy:(Rows.esaryEnclosesSpec.vars.all (Tryz.prog.varReadable ·))=true:=by kernel_rfl
theorem iz:(Tryz.f8.resultTypes.all (fun t=>Tryz.prog.readableRec t&&decide (t<Tryz.prog.types.size)))=true:=by kernel_rfl
theorem iA:((Rows.esaryEnclosesRow.ifacesOut == Tryz.f8.resultTypes.toList.any (Tryz.prog.ifacesRec ·)))=true:=by kernel_rfl
theorem iB:((Rows.esaryEnclosesRow.loopsOut == Tryz.f8.resultTypes.toList.any (Tryz.prog.loopsFrom ·)))=true:=by kernel_rfl
theorem iC:((Rows.esaryEnclosesRow.plainKeys == Tryz.prog.plainKeys))=true:=by kernel_rfl
theorem iD:(Rows.esaryEnclosesRow.shortTexts.isNone)=true:=by kernel_rfl
theorem iE:((Rows.esaryEnclosesRow.lifted == Tryz.prog.liftsFinal))=true:=by rw [tm];kernel_rfl
theorem iF:((Tryz.prog.make == some Rows.esaryEnclosesRow.make))=true:=by rw [xm];kernel_rfl
theorem iG:((Rows.esaryEnclosesRow.pinned == Rows.esaryEnclosesRow.pinnedBy))=true:=by kernel_rfl
theorem iH:((Rows.esaryEnclosesRow.veiled == (Tryz.f8.params.toList++Rows.esaryEnclosesSpec.plain.varTypes Tryz.prog++Tryz.f8.resultTypes.toList).any (Tryz.prog.veiledRec ·)))=true:=by kernel_rfl
theorem iI:(Rows.esaryEnclosesRow.veiledFits Tryz.prog Tryz.f8.params.toList (Tryz.f8.params.toList++Rows.esaryEnclosesSpec.plain.varTypes Tryz.prog++Tryz.f8.resultTypes.toList))=true:=by kernel_rfl
theorem ir:joinedFacts Tryz.prog 8 Tryz.f8 Rows.esaryEnclosesSpec Rows.esaryEnclosesRow=true:=by
 unfold joinedFacts;rw [jB];rw [oJ];rw [li];rw [jC];rw [jD];rw [jE];rw [ts];rw [jF];rw [tp];rw [jG];rw [jH];rw [jI];rw [jJ];rw [jK];rw [iu];rw [iv];rw [iw];rw [ix];rw [iy];rw [iz];rw [iA];rw [iB];rw [iC];rw [iD];rw [tn];rw [tk];rw [iE];rw [iF];rw [iG];rw [iH];rw [iI];simp only [Bool.and_true,Bool.true_and]
 kernel_rfl
theorem fP:Tryz.pinned.checked.prog.funcNamed Rows.esaryEnclosesRow.func=some 8:=by kernel_rfl
theorem j_:false=Rows.esaryEnclosesRow.goesBy Tryz.pinned.checked.prog:=by kernel_rfl
theorem j':Rows.esaryEnclosesRow.wfByText (OpenSpec.ofChange Rows.esaryEnclosesSpec)=true:=by kernel_rfl
theorem jM:([41,23].all fun u=>!Tryz.prog.wantsStandIn u)=true:=by kernel_rfl
theorem iJ (os:Os) (started:os.Started) (H:Type) (enc:TypeId × Value->H) :
  ReturnsInHanded {} Tryz.checked os 8 .any (fun w args=>(Rows.esaryEnclosesSpec.pre enc Tryz.prog Tryz.f8 Rows.esaryEnclosesRow.domain false w args/\laidMetH Tryz.prog Rows.esaryEnclosesRow.laid w)/\sizedMet enc Tryz.prog Tryz.f8 (OpenSpec.ofChange Rows.esaryEnclosesSpec) false w args)
   (Rows.esaryEnclosesSpec.post enc Tryz.prog Tryz.f8 false true false false):=by
 refine returnsInHanded_of_change_and (C:=Tryz.checked) (X:=fun w _=>laidMetH Tryz.prog Rows.esaryEnclosesRow.laid w) (fun _ _ _ hh h=>h.of_heap hh) Fy started (by kernel_rfl) Tryz.func8
  (ChangeSpec.witness_shaped (enc:=enc) (C:=Tryz.checked) (os:=os) (X:=fun w _=>laidMetH Tryz.prog Rows.esaryEnclosesRow.laid w) false (World.laidAll Tryz.prog os Rows.esaryEnclosesRow.laid) #[.agg #[.int .i64 0,.slice none 0 0,.int .i64 0],.slice none 0 0] 8 (World.laidAll_os _ _ _)
   (World.shaped_of_ZipB (by kernel_rfl) (by kernel_rfl)) (by kernel_rfl) (by kernel_rfl) (by kernel_rfl)
   (by rw [MakeChecks.laidMetH_plain _ _ _ (by kernel_rfl)];exact laidMet_laidAll _ (by kernel_rfl) (by kernel_rfl))) ?_
 intro W base args ds gs before hval hW _ hsz _ _;exact AW 8 Tryz.f8 rfl (fun _ _ _=>rfl) Tryz.params8 (by kernel_rfl) (fun W u v f ps h1 h2 h3=>sk u v f ps W h1 h2 h3) W base args ds gs before hval hW hsz
theorem jL:Rows.EsaryEnclosesSaid :=
 OpenClaim.holds_of_wide 8 Tryz.f8 rfl rfl rfl rfl rfl rfl rfl ⟨rfl,rfl,rfl,rfl,rfl⟩ rfl rfl rfl rfl rfl fP Tryz.func8 ir
  (of_decide_eq_true (by kernel_rfl)) (by unfold Func.isWrapper;first | (rw [if_pos (by decide +kernel)];kernel_rfl) | (rw [if_neg (by decide +kernel)];exact ⟨rfl,rfl⟩))
  (fun os started H enc _=>iJ os started H enc)
theorem esaryEncloses_card:Rows.EsaryEnclosesCardSaid :=
 Claim7.holds_tied_plain_at .later [] [.data,.pinned] true (true,"9a52619a5498904b8df2e98de87d31084b44bcf71aba10a5c83eb1a1b135aa30") true jL (fun _ h=>by cases h) j' (fun _ h=>by cases h) esaryEncloses_row_tie rfl ⟨rfl,rfl⟩ xl rfl
  (fun f fn hf hfn=>by
   obtain rfl:f=8:=Option.some.inj (fP.symm.trans hf) |>.symm
   obtain rfl:fn=Tryz.f8:=(Option.some.inj (Tryz.func8.symm.trans hfn)).symm
   exact ⟨tq,fun j t ht=>by
    rw [Tryz.params8] at ht;have hm:t∈[41,23]:=by simpa using Array.mem_of_getElem? ht
    exact (show Tryz.prog.wantsStandIn t=false by simpa using List.all_eq_true.1 jM t hm)⟩)
  j_
end
end Go.Proofs.YtofibjflkebkpaaGreatDoor
