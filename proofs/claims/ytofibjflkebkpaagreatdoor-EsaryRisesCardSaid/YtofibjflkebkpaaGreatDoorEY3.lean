import Derived.Test.YtofibjflkebkpaaGreatDoorEX1
import Derived.Test.YtofibjflkebkpaaGreatDoorEX2
import Derived.Test.YtofibjflkebkpaaGreatDoorEX3
import Derived.Test.YtofibjflkebkpaaGreatDoorEX4
import Derived.Test.YtofibjflkebkpaaGreatDoorEX5
import Derived.Test.YtofibjflkebkpaaGreatDoorEX6
import Derived.Test.YtofibjflkebkpaaGreatDoorEX7
import Derived.Test.YtofibjflkebkpaaGreatDoorEX8
import Derived.Test.YtofibjflkebkpaaGreatDoorEX9
import Derived.Test.YtofibjflkebkpaaGreatDoorEX10
import Derived.Test.YtofibjflkebkpaaGreatDoorEX11
import Derived.Test.YtofibjflkebkpaaGreatDoorRows
import Derived.Test.YtofibjflkebkpaaGreatDoorChecked
import Derived.Test.YtofibjflkebkpaaGreatDoorCards
import Derived.Test.YtofibjflkebkpaaGreatDoorTie
import Derived.ProofKit
import Derived.OpenShut
import Derived.LaidMore
import Derived.Lay
import Derived.SevenTiedAt
import Derived.Stop.Joined
set_option maxRecDepth 100000
set_option maxHeartbeats 16000000
namespace Go.Proofs.YtofibjflkebkpaaGreatDoor
open Go.RowKit
section
open Go.RowKit Go.ChangeShapes Go.WideShapes Go.ChangeAt
open Go.Joins Go.Deep
theorem md:(Rows.esaryRisesRow.wf (OpenSpec.ofChange Rows.esaryRisesSpec))=true:=by kernel_rfl
theorem me:(Tryz.f6.params.all (Tryz.prog.readableRec ·))=true:=by kernel_rfl
theorem mf:(namedTie Tryz.prog Rows.esaryRisesRow.named Rows.esaryRisesSpec.vars)=true:=by kernel_rfl
theorem mg:((Rows.esaryRisesRow.stops == []))=true:=by kernel_rfl
theorem mh:((Rows.esaryRisesRow.knobs == []))=true:=by kernel_rfl
theorem mi:((Rows.esaryRisesRow.inPlace == Tryz.prog.inPlace 6))=true:=by kernel_rfl
theorem mj:((Rows.esaryRisesRow.unfollowed == Tryz.prog.unfollowed 6))=true:=by kernel_rfl
theorem ml:((Rows.esaryRisesRow.recurses == Tryz.prog.recurses 6))=true:=by kernel_rfl
theorem mm:((Rows.esaryRisesRow.named == Tryz.prog.varsNamed 6))=true:=by kernel_rfl
theorem mn:((Rows.esaryRisesRow.maps == (Tryz.f6.params.toList++Rows.esaryRisesSpec.plain.varTypes Tryz.prog).any (Tryz.prog.mapsRec ·)))=true:=by kernel_rfl
theorem kX:((Rows.esaryRisesRow.ifaces == (Tryz.f6.params.toList++Rows.esaryRisesSpec.plain.varTypes Tryz.prog).any (Tryz.prog.ifacesRec ·)))=true:=by kernel_rfl
theorem kY:((Rows.esaryRisesRow.mapsOut == Tryz.prog.mapsAmong Tryz.f6.resultTypes.toList))=true:=by kernel_rfl
theorem kZ:((Rows.esaryRisesRow.loops == (Tryz.f6.params.toList++Rows.esaryRisesSpec.plain.varTypes Tryz.prog).any (Tryz.prog.loopsFrom ·)))=true:=by kernel_rfl
theorem k_:((Rows.esaryRisesRow.wideKeys == (Tryz.f6.params.toList++Rows.esaryRisesSpec.plain.varTypes Tryz.prog++Tryz.f6.resultTypes.toList).any (Tryz.prog.wideKeysFrom ·)))=true:=by kernel_rfl
theorem k':(Rows.esaryRisesSpec.vars.all (Tryz.prog.varReadable ·))=true:=by kernel_rfl
theorem lf:(Tryz.f6.resultTypes.all (fun t=>Tryz.prog.readableRec t&&decide (t<Tryz.prog.types.size)))=true:=by kernel_rfl
theorem lg:((Rows.esaryRisesRow.ifacesOut == Tryz.f6.resultTypes.toList.any (Tryz.prog.ifacesRec ·)))=true:=by kernel_rfl
theorem lh:((Rows.esaryRisesRow.loopsOut == Tryz.f6.resultTypes.toList.any (Tryz.prog.loopsFrom ·)))=true:=by kernel_rfl
theorem li:((Rows.esaryRisesRow.plainKeys == Tryz.prog.plainKeys))=true:=by kernel_rfl
theorem lj:(Rows.esaryRisesRow.shortTexts.isNone)=true:=by kernel_rfl
theorem lk:((Rows.esaryRisesRow.lifted == Tryz.prog.liftsFinal))=true:=by rw [oY];kernel_rfl
theorem ls:((Tryz.prog.make == some Rows.esaryRisesRow.make))=true:=by rw [rG];kernel_rfl
theorem lv:((Rows.esaryRisesRow.pinned == Rows.esaryRisesRow.pinnedBy))=true:=by kernel_rfl
theorem lw:((Rows.esaryRisesRow.veiled == (Tryz.f6.params.toList++Rows.esaryRisesSpec.plain.varTypes Tryz.prog++Tryz.f6.resultTypes.toList).any (Tryz.prog.veiledRec ·)))=true:=by kernel_rfl
theorem lz:(Rows.esaryRisesRow.veiledFits Tryz.prog Tryz.f6.params.toList (Tryz.f6.params.toList++Rows.esaryRisesSpec.plain.varTypes Tryz.prog++Tryz.f6.resultTypes.toList))=true:=by kernel_rfl
theorem kW:joinedFacts Tryz.prog 6 Tryz.f6 Rows.esaryRisesSpec Rows.esaryRisesRow=true:=by
 unfold joinedFacts;rw [md];rw [kK];rw [gM];rw [me];rw [mf];rw [mg];rw [pe];rw [mh];rw [o_];rw [mi];rw [mj];rw [ml];rw [mm];rw [mn];rw [kX];rw [kY];rw [kZ];rw [k_];rw [k'];rw [lf];rw [lg];rw [lh];rw [li];rw [lj];rw [oZ];rw [oX];rw [lk];rw [ls];rw [lv];rw [lw];rw [lz];simp only [Bool.and_true,Bool.true_and]
 kernel_rfl
theorem jd:Tryz.pinned.checked.prog.funcNamed Rows.esaryRisesRow.func=some 6:=by kernel_rfl
theorem nM:false=Rows.esaryRisesRow.goesBy Tryz.pinned.checked.prog:=by kernel_rfl
theorem nN:Rows.esaryRisesRow.wfByText (OpenSpec.ofChange Rows.esaryRisesSpec)=true:=by kernel_rfl
theorem mq:([22,23,53].all fun u=>!Tryz.prog.wantsStandIn u)=true:=by kernel_rfl
theorem lA (os:Os) (started:os.Started) (H:Type) (enc:TypeId × Value->H) :
  ReturnsInHanded {} Tryz.checked os 6 .any (fun w args=>(Rows.esaryRisesSpec.pre enc Tryz.prog Tryz.f6 Rows.esaryRisesRow.domain false w args/\laidMetH Tryz.prog Rows.esaryRisesRow.laid w)/\sizedMet enc Tryz.prog Tryz.f6 (OpenSpec.ofChange Rows.esaryRisesSpec) false w args)
   (Rows.esaryRisesSpec.post enc Tryz.prog Tryz.f6 false true false false):=by
 refine returnsInHanded_of_change_and (C:=Tryz.checked) (X:=fun w _=>laidMetH Tryz.prog Rows.esaryRisesRow.laid w) (fun _ _ _ hh h=>h.of_heap hh) DV started (by kernel_rfl) Tryz.func6
  (ChangeSpec.witness_shaped (enc:=enc) (C:=Tryz.checked) (os:=os) (X:=fun w _=>laidMetH Tryz.prog Rows.esaryRisesRow.laid w) false (World.laidAll Tryz.prog os Rows.esaryRisesRow.laid) #[.slice none 0 0,.slice none 0 0,.agg #[.int .u8 0,.bool false,.slice none 0 0,.slice none 0 0]] 8 (World.laidAll_os _ _ _)
   (World.shaped_of_ZipB (by kernel_rfl) (by kernel_rfl)) (by kernel_rfl) (by kernel_rfl) (by kernel_rfl)
   (by rw [MakeChecks.laidMetH_plain _ _ _ (by kernel_rfl)];exact laidMet_laidAll _ (by kernel_rfl) (by kernel_rfl))) ?_
 intro W base args ds gs before hval hW _ hsz _ _;exact Cz 6 Tryz.f6 rfl (fun _ _ _ _=>rfl) Tryz.params6 (by kernel_rfl) (fun W cv v u1 u2 xs ps x r h1 h2 h3 h4 h5=>rm cv v u1 u2 xs ps x r W h1 h2 h3 h4 h5) W base args ds gs before hval hW hsz
theorem mp:Rows.EsaryRisesSaid :=
 OpenClaim.holds_of_wide 6 Tryz.f6 rfl rfl rfl rfl rfl rfl rfl ⟨rfl,rfl,rfl,rfl,rfl⟩ rfl rfl rfl rfl rfl jd Tryz.func6 kW
  (of_decide_eq_true (by kernel_rfl)) (by unfold Func.isWrapper;first | (rw [if_pos (by decide +kernel)];kernel_rfl) | (rw [if_neg (by decide +kernel)];exact ⟨rfl,rfl⟩))
  (fun os started H enc _=>lA os started H enc)
theorem esaryRises_card:Rows.EsaryRisesCardSaid :=
 Claim7.holds_tied_plain_at .later [] [.data,.pinned] true (true,"9a52619a5498904b8df2e98de87d31084b44bcf71aba10a5c83eb1a1b135aa30") true mp (fun _ h=>by cases h) nN (fun _ h=>by cases h) esaryRises_row_tie rfl ⟨rfl,rfl⟩ rF rfl
  (fun f fn hf hfn=>by
   obtain rfl:f=6:=Option.some.inj (jd.symm.trans hf) |>.symm
   obtain rfl:fn=Tryz.f6:=(Option.some.inj (Tryz.func6.symm.trans hfn)).symm
   exact ⟨pd,fun j t ht=>by
    rw [Tryz.params6] at ht;have hm:t∈[22,23,53]:=by simpa using Array.mem_of_getElem? ht
    exact (show Tryz.prog.wantsStandIn t=false by simpa using List.all_eq_true.1 mq t hm)⟩)
  nM
end
end Go.Proofs.YtofibjflkebkpaaGreatDoor
