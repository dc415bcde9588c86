import Derived.Test.YtofibjflkebkpaaGreatDoorEX1
import Derived.Test.YtofibjflkebkpaaGreatDoorEX2
import Derived.Test.YtofibjflkebkpaaGreatDoorEX3
import Derived.Test.YtofibjflkebkpaaGreatDoorEX4
import Derived.Test.YtofibjflkebkpaaGreatDoorEX5
import Derived.Test.YtofibjflkebkpaaGreatDoorEX6
import Derived.Test.YtofibjflkebkpaaGreatDoorEX7
import Derived.Test.YtofibjflkebkpaaGreatDoorEX8
import Derived.Test.YtofibjflkebkpaaGreatDoorEX9
import Derived.Test.YtofibjflkebkpaaGreatDoorEX10
import Derived.Test.YtofibjflkebkpaaGreatDoorEX11
import Derived.Test.YtofibjflkebkpaaGreatDoorRows
import Derived.Test.YtofibjflkebkpaaGreatDoorChecked
import Derived.Test.YtofibjflkebkpaaGreatDoorCards
import Derived.Test.YtofibjflkebkpaaGreatDoorTie
import Derived.ProofKit
import Derived.OpenShut
import Derived.LaidMore
import Derived.Lay
import Derived.SevenTiedAt
import Derived.Stop.Joined
set_option maxRecDepth 100000
set_option maxHeartbeats 16000000
namespace Go.Proofs.YtofibjflkebkpaaGreatDoor
open Go.RowKit
section
open Go.RowKit Go.ChangeShapes Go.WideShapes Go.ChangeAt
open Go.Joins Go.Deep
theorem iz:(Rows.esaryLikeliestRow.wf (OpenSpec.ofChange Rows.esaryLikeliestSpec))=true:=by kernel_rfl
theorem iA:(Tryz.f5.params.all (Tryz.prog.readableRec ·))=true:=by kernel_rfl
theorem iB:(namedTie Tryz.prog Rows.esaryLikeliestRow.named Rows.esaryLikeliestSpec.vars)=true:=by kernel_rfl
theorem iC:((Rows.esaryLikeliestRow.stops == []))=true:=by kernel_rfl
theorem iD:((Rows.esaryLikeliestRow.knobs == []))=true:=by kernel_rfl
theorem iE:((Rows.esaryLikeliestRow.inPlace == Tryz.prog.inPlace 5))=true:=by kernel_rfl
theorem iF:((Rows.esaryLikeliestRow.unfollowed == Tryz.prog.unfollowed 5))=true:=by kernel_rfl
theorem iG:((Rows.esaryLikeliestRow.recurses == Tryz.prog.recurses 5))=true:=by kernel_rfl
theorem iH:((Rows.esaryLikeliestRow.named == Tryz.prog.varsNamed 5))=true:=by kernel_rfl
theorem iI:((Rows.esaryLikeliestRow.maps == (Tryz.f5.params.toList++Rows.esaryLikeliestSpec.plain.varTypes Tryz.prog).any (Tryz.prog.mapsRec ·)))=true:=by kernel_rfl
theorem ib:((Rows.esaryLikeliestRow.ifaces == (Tryz.f5.params.toList++Rows.esaryLikeliestSpec.plain.varTypes Tryz.prog).any (Tryz.prog.ifacesRec ·)))=true:=by kernel_rfl
theorem ic:((Rows.esaryLikeliestRow.mapsOut == Tryz.prog.mapsAmong Tryz.f5.resultTypes.toList))=true:=by kernel_rfl
theorem ie:((Rows.esaryLikeliestRow.loops == (Tryz.f5.params.toList++Rows.esaryLikeliestSpec.plain.varTypes Tryz.prog).any (Tryz.prog.loopsFrom ·)))=true:=by kernel_rfl
theorem ig:((Rows.esaryLikeliestRow.wideKeys == (Tryz.f5.params.toList++Rows.esaryLikeliestSpec.plain.varTypes Tryz.prog++Tryz.f5.resultTypes.toList).any (Tryz.prog.wideKeysFrom ·)))=true:=by kernel_rfl
theorem ii:(Rows.esaryLikeliestSpec.vars.all (Tryz.prog.varReadable ·))=true:=by kernel_rfl
theorem ij:(Tryz.f5.resultTypes.all (fun t=>Tryz.prog.readableRec t&&decide (t<Tryz.prog.types.size)))=true:=by kernel_rfl
theorem ik:((Rows.esaryLikeliestRow.ifacesOut == Tryz.f5.resultTypes.toList.any (Tryz.prog.ifacesRec ·)))=true:=by kernel_rfl
theorem il:((Rows.esaryLikeliestRow.loopsOut == Tryz.f5.resultTypes.toList.any (Tryz.prog.loopsFrom ·)))=true:=by kernel_rfl
theorem im:((Rows.esaryLikeliestRow.plainKeys == Tryz.prog.plainKeys))=true:=by kernel_rfl
theorem io:(Rows.esaryLikeliestRow.shortTexts.isNone)=true:=by kernel_rfl
theorem ip:((Rows.esaryLikeliestRow.lifted == Tryz.prog.liftsFinal))=true:=by rw [oY];kernel_rfl
theorem iq:((Tryz.prog.make == some Rows.esaryLikeliestRow.make))=true:=by rw [rG];kernel_rfl
theorem ir:((Rows.esaryLikeliestRow.pinned == Rows.esaryLikeliestRow.pinnedBy))=true:=by kernel_rfl
theorem iu:((Rows.esaryLikeliestRow.veiled == (Tryz.f5.params.toList++Rows.esaryLikeliestSpec.plain.varTypes Tryz.prog++Tryz.f5.resultTypes.toList).any (Tryz.prog.veiledRec ·)))=true:=by kernel_rfl
theorem iv:(Rows.esaryLikeliestRow.veiledFits Tryz.prog Tryz.f5.params.toList (Tryz.f5.params.toList++Rows.esaryLikeliestSpec.plain.varTypes Tryz.prog++Tryz.f5.resultTypes.toList))=true:=by kernel_rfl
theorem ia:joinedFacts Tryz.prog 5 Tryz.f5 Rows.esaryLikeliestSpec Rows.esaryLikeliestRow=true:=by
 unfold joinedFacts;rw [iz];rw [kK];rw [gM];rw [iA];rw [iB];rw [iC];rw [pe];rw [iD];rw [o_];rw [iE];rw [iF];rw [iG];rw [iH];rw [iI];rw [ib];rw [ic];rw [ie];rw [ig];rw [ii];rw [ij];rw [ik];rw [il];rw [im];rw [io];rw [oZ];rw [oX];rw [ip];rw [iq];rw [ir];rw [iu];rw [iv];simp only [Bool.and_true,Bool.true_and]
 kernel_rfl
theorem eS:Tryz.pinned.checked.prog.funcNamed Rows.esaryLikeliestRow.func=some 5:=by kernel_rfl
theorem jR:false=Rows.esaryLikeliestRow.goesBy Tryz.pinned.checked.prog:=by kernel_rfl
theorem jS:Rows.esaryLikeliestRow.wfByText (OpenSpec.ofChange Rows.esaryLikeliestSpec)=true:=by kernel_rfl
theorem iK:([22,23].all fun u=>!Tryz.prog.wantsStandIn u)=true:=by kernel_rfl
theorem iw (os:Os) (started:os.Started) (H:Type) (enc:TypeId × Value->H) :
  ReturnsInHanded {} Tryz.checked os 5 .any (fun w args=>(Rows.esaryLikeliestSpec.pre enc Tryz.prog Tryz.f5 Rows.esaryLikeliestRow.domain false w args/\laidMetH Tryz.prog Rows.esaryLikeliestRow.laid w)/\sizedMet enc Tryz.prog Tryz.f5 (OpenSpec.ofChange Rows.esaryLikeliestSpec) false w args)
   (Rows.esaryLikeliestSpec.post enc Tryz.prog Tryz.f5 false true false false):=by
 refine returnsInHanded_of_change_and (C:=Tryz.checked) (X:=fun w _=>laidMetH Tryz.prog Rows.esaryLikeliestRow.laid w) (fun _ _ _ hh h=>h.of_heap hh) DV started (by kernel_rfl) Tryz.func5
  (ChangeSpec.witness_shaped (enc:=enc) (C:=Tryz.checked) (os:=os) (X:=fun w _=>laidMetH Tryz.prog Rows.esaryLikeliestRow.laid w) false (World.laidAll Tryz.prog os Rows.esaryLikeliestRow.laid) #[.slice none 0 0,.slice none 0 0] 8 (World.laidAll_os _ _ _)
   (World.shaped_of_ZipB (by kernel_rfl) (by kernel_rfl)) (by kernel_rfl) (by kernel_rfl) (by kernel_rfl)
   (by rw [MakeChecks.laidMetH_plain _ _ _ (by kernel_rfl)];exact laidMet_laidAll _ (by kernel_rfl) (by kernel_rfl))) ?_
 intro W base args ds gs before hval hW _ hsz _ _;exact Ap 5 Tryz.f5 rfl (fun _ _ _=>rfl) Tryz.params5 (by kernel_rfl) (fun W cv v xs ps h1 h2=>mr cv v xs ps W h1 h2) W base args ds gs before hval hW hsz
theorem iJ:Rows.EsaryLikeliestSaid :=
 OpenClaim.holds_of_wide 5 Tryz.f5 rfl rfl rfl rfl rfl rfl rfl ⟨rfl,rfl,rfl,rfl,rfl⟩ rfl rfl rfl rfl rfl eS Tryz.func5 ia
  (of_decide_eq_true (by kernel_rfl)) (by unfold Func.isWrapper;first | (rw [if_pos (by decide +kernel)];kernel_rfl) | (rw [if_neg (by decide +kernel)];exact ⟨rfl,rfl⟩))
  (fun os started H enc _=>iw os started H enc)
theorem esaryLikeliest_card:Rows.EsaryLikeliestCardSaid :=
 Claim7.holds_tied_plain_at .later [] [.data,.pinned] true (true,"9a52619a5498904b8df2e98de87d31084b44bcf71aba10a5c83eb1a1b135aa30") true iJ (fun _ h=>by cases h) jS (fun _ h=>by cases h) esaryLikeliest_row_tie rfl ⟨rfl,rfl⟩ rF rfl
  (fun f fn hf hfn=>by
   obtain rfl:f=5:=Option.some.inj (eS.symm.trans hf) |>.symm
   obtain rfl:fn=Tryz.f5:=(Option.some.inj (Tryz.func5.symm.trans hfn)).symm
   exact ⟨pd,fun j t ht=>by
    rw [Tryz.params5] at ht;have hm:t∈[22,23]:=by simpa using Array.mem_of_getElem? ht
    exact (show Tryz.prog.wantsStandIn t=false by simpa using List.all_eq_true.1 iK t hm)⟩)
  jR
end
end Go.Proofs.YtofibjflkebkpaaGreatDoor
