import Derived.Test.YtofibjflkebkpaaGreatDoorEG1
import Derived.Test.YtofibjflkebkpaaGreatDoorEG2
import Derived.Test.YtofibjflkebkpaaGreatDoorEG3
import Derived.Test.YtofibjflkebkpaaGreatDoorEG4
import Derived.Test.YtofibjflkebkpaaGreatDoorEG5
import Derived.Test.YtofibjflkebkpaaGreatDoorEG6
import Derived.Test.YtofibjflkebkpaaGreatDoorEG7
import Derived.Test.YtofibjflkebkpaaGreatDoorEG8
import Derived.Test.YtofibjflkebkpaaGreatDoorEG9
import Derived.Test.YtofibjflkebkpaaGreatDoorEG10
import Derived.Test.YtofibjflkebkpaaGreatDoorEG11
import Derived.Test.YtofibjflkebkpaaGreatDoorRows
import Derived.Test.YtofibjflkebkpaaGreatDoorChecked
import Derived.Test.YtofibjflkebkpaaGreatDoorCards
import Derived.Test.YtofibjflkebkpaaGreatDoorTie
import Derived.ProofKit
import Derived.OpenShut
import Derived.LaidMore
import Derived.Lay
import Derived.SevenTiedAt
import Derived.Stop.Joined
set_option maxRecDepth 100000
set_option maxHeartbeats 16000000
namespace Go.Proofs.YtofibjflkebkpaaGreatDoor
open Go.RowKit
section
open Go.RowKit Go.ChangeShapes Go.WideShapes Go.ChangeAt
open Go.Joins Go.Deep
theorem lM:(Rows.esaryApartRow.wf (OpenSpec.ofChange Rows.esaryApartSpec))=true:=by kernel_rfl
theorem lN:(Tryz.f7.params.all (Tryz.prog.readableRec ·))=true:=by kernel_rfl
theorem lO:(namedTie Tryz.prog Rows.esaryApartRow.named Rows.esaryApartSpec.vars)=true:=by kernel_rfl
theorem lP:((Rows.esaryApartRow.stops == []))=true:=by kernel_rfl
theorem lQ:((Rows.esaryApartRow.knobs == []))=true:=by kernel_rfl
theorem lR:((Rows.esaryApartRow.inPlace == Tryz.prog.inPlace 7))=true:=by kernel_rfl
theorem lS:((Rows.esaryApartRow.unfollowed == Tryz.prog.unfollowed 7))=true:=by kernel_rfl
theorem lT:((Rows.esaryApartRow.recurses == Tryz.prog.recurses 7))=true:=by kernel_rfl
theorem lU:((Rows.esaryApartRow.named == Tryz.prog.varsNamed 7))=true:=by kernel_rfl
theorem lV:((Rows.esaryApartRow.maps == (Tryz.f7.params.toList++Rows.esaryApartSpec.plain.varTypes Tryz.prog).any (Tryz.prog.mapsRec ·)))=true:=by kernel_rfl
theorem kD:((Rows.esaryApartRow.ifaces == (Tryz.f7.params.toList++Rows.esaryApartSpec.plain.varTypes Tryz.prog).any (Tryz.prog.ifacesRec ·)))=true:=by kernel_rfl
theorem kE:((Rows.esaryApartRow.mapsOut == Tryz.prog.mapsAmong Tryz.f7.resultTypes.toList))=true:=by kernel_rfl
theorem kF:((Rows.esaryApartRow.loops == (Tryz.f7.params.toList++Rows.esaryApartSpec.plain.varTypes Tryz.prog).any (Tryz.prog.loopsFrom ·)))=true:=by kernel_rfl
theorem kG:((Rows.esaryApartRow.wideKeys == (Tryz.f7.params.toList++Rows.esaryApartSpec.plain.varTypes Tryz.prog++Tryz.f7.resultTypes.toList).any (Tryz.prog.wideKeysFrom ·)))=true:=by kernel_rfl
theorem kH:(Rows.esaryApartSpec.vars.all (Tryz.prog.varReadable ·))=true:=by kernel_rfl
theorem kI:(Tryz.f7.resultTypes.all (fun t=>Tryz.prog.readableRec t&&decide (t<Tryz.prog.types.size)))=true:=by kernel_rfl
theorem kJ:((Rows.esaryApartRow.ifacesOut == Tryz.f7.resultTypes.toList.any (Tryz.prog.ifacesRec ·)))=true:=by kernel_rfl
theorem kK:((Rows.esaryApartRow.loopsOut == Tryz.f7.resultTypes.toList.any (Tryz.prog.loopsFrom ·)))=true:=by kernel_rfl
theorem kL:((Rows.esaryApartRow.plainKeys == Tryz.prog.plainKeys))=true:=by kernel_rfl
theorem kM:(Rows.esaryApartRow.shortTexts.isNone)=true:=by kernel_rfl
theorem kN:((Rows.esaryApartRow.lifted == Tryz.prog.liftsFinal))=true:=by rw [tm];kernel_rfl
theorem kO:((Tryz.prog.make == some Rows.esaryApartRow.make))=true:=by rw [xm];kernel_rfl
theorem kP:((Rows.esaryApartRow.pinned == Rows.esaryApartRow.pinnedBy))=true:=by kernel_rfl
theorem kQ:((Rows.esaryApartRow.veiled == (Tryz.f7.params.toList++Rows.esaryApartSpec.plain.varTypes Tryz.prog++Tryz.f7.resultTypes.toList).any (Tryz.prog.veiledRec ·)))=true:=by kernel_rfl
theorem kR:(Rows.esaryApartRow.veiledFits Tryz.prog Tryz.f7.params.toList (Tryz.f7.params.toList++Rows.esaryApartSpec.plain.varTypes Tryz.prog++Tryz.f7.resultTypes.toList))=true:=by kernel_rfl
theorem kC:joinedFacts Tryz.prog 7 Tryz.f7 Rows.esaryApartSpec Rows.esaryApartRow=true:=by
 unfold joinedFacts;rw [lM];rw [oJ];rw [li];rw [lN];rw [lO];rw [lP];rw [ts];rw [lQ];rw [tp];rw [lR];rw [lS];rw [lT];rw [lU];rw [lV];rw [kD];rw [kE];rw [kF];rw [kG];rw [kH];rw [kI];rw [kJ];rw [kK];rw [kL];rw [kM];rw [tn];rw [tk];rw [kN];rw [kO];rw [kP];rw [kQ];rw [kR];simp only [Bool.and_true,Bool.true_and]
 kernel_rfl
theorem iq:Tryz.pinned.checked.prog.funcNamed Rows.esaryApartRow.func=some 7:=by kernel_rfl
theorem nh:false=Rows.esaryApartRow.goesBy Tryz.pinned.checked.prog:=by kernel_rfl
theorem ni:Rows.esaryApartRow.wfByText (OpenSpec.ofChange Rows.esaryApartSpec)=true:=by kernel_rfl
theorem lX:([41,23].all fun u=>!Tryz.prog.wantsStandIn u)=true:=by kernel_rfl
theorem kS (os:Os) (started:os.Started) (H:Type) (enc:TypeId × Value->H) :
  ReturnsInHanded {} Tryz.checked os 7 .any (fun w args=>(Rows.esaryApartSpec.pre enc Tryz.prog Tryz.f7 Rows.esaryApartRow.domain false w args/\laidMetH Tryz.prog Rows.esaryApartRow.laid w)/\sizedMet enc Tryz.prog Tryz.f7 (OpenSpec.ofChange Rows.esaryApartSpec) false w args)
   (Rows.esaryApartSpec.post enc Tryz.prog Tryz.f7 false true false false):=by
 refine returnsInHanded_of_change_and (C:=Tryz.checked) (X:=fun w _=>laidMetH Tryz.prog Rows.esaryApartRow.laid w) (fun _ _ _ hh h=>h.of_heap hh) Fy started (by kernel_rfl) Tryz.func7
  (ChangeSpec.witness_shaped (enc:=enc) (C:=Tryz.checked) (os:=os) (X:=fun w _=>laidMetH Tryz.prog Rows.esaryApartRow.laid w) false (World.laidAll Tryz.prog os Rows.esaryApartRow.laid) #[.agg #[.int .i64 0,.slice none 0 0,.int .i64 0],.slice none 0 0] 8 (World.laidAll_os _ _ _)
   (World.shaped_of_ZipB (by kernel_rfl) (by kernel_rfl)) (by kernel_rfl) (by kernel_rfl) (by kernel_rfl)
   (by rw [MakeChecks.laidMetH_plain _ _ _ (by kernel_rfl)];exact laidMet_laidAll _ (by kernel_rfl) (by kernel_rfl))) ?_
 intro W base args ds gs before hval hW _ hsz _ _;exact AW 7 Tryz.f7 rfl (fun _ _ _=>rfl) Tryz.params7 (by kernel_rfl) (fun W u v f ps h1 h2 h3=>re u v f ps W h1 h2 h3) W base args ds gs before hval hW hsz
theorem lW:Rows.EsaryApartSaid :=
 OpenClaim.holds_of_wide 7 Tryz.f7 rfl rfl rfl rfl rfl rfl rfl ⟨rfl,rfl,rfl,rfl,rfl⟩ rfl rfl rfl rfl rfl iq Tryz.func7 kC
  (of_decide_eq_true (by kernel_rfl)) (by unfold Func.isWrapper;first | (rw [if_pos (by decide +kernel)];kernel_rfl) | (rw [if_neg (by decide +kernel)];exact ⟨rfl,rfl⟩))
  (fun os started H enc _=>kS os started H enc)
theorem esaryApart_card:Rows.EsaryApartCardSaid :=
 Claim7.holds_tied_plain_at .later [] [.data,.pinned] true (true,"9a52619a5498904b8df2e98de87d31084b44bcf71aba10a5c83eb1a1b135aa30") true lW (fun _ h=>by cases h) ni (fun _ h=>by cases h) esaryApart_row_tie rfl ⟨rfl,rfl⟩ xl rfl
  (fun f fn hf hfn=>by
   obtain rfl:f=7:=Option.some.inj (iq.symm.trans hf) |>.symm
   obtain rfl:fn=Tryz.f7:=(Option.some.inj (Tryz.func7.symm.trans hfn)).symm
   exact ⟨tq,fun j t ht=>by
    rw [Tryz.params7] at ht;have hm:t∈[41,23]:=by simpa using Array.mem_of_getElem? ht
    exact (show Tryz.prog.wantsStandIn t=false by simpa using List.all_eq_true.1 lX t hm)⟩)
  nh
end
end Go.Proofs.YtofibjflkebkpaaGreatDoor
