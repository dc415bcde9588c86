import Derived.Test.YtofibjflkebkpaaGreatDoorEQ13
set_option maxRecDepth 100000
set_option maxHeartbeats 16000000
namespace Go.Proofs.YtofibjflkebkpaaGreatDoor
open Go.RowKit
section
open Go.RowKit Go.ChangeShapes Go.WideShapes Go.ChangeAt
open Go.Joins Go.Deep
theorem qw:(Rows.esaryBoundsRow.wf (OpenSpec.ofChange Rows.esaryBoundsSpec))=true:=by kernel_rfl
theorem qy:(Tryz.f4.params.all (Tryz.prog.readableRec ·))=true:=by kernel_rfl
theorem qz:(namedTie Tryz.prog Rows.esaryBoundsRow.named Rows.esaryBoundsSpec.vars)=true:=by kernel_rfl
theorem qA:((Rows.esaryBoundsRow.stops == []))=true:=by kernel_rfl
theorem qB:((Rows.esaryBoundsRow.knobs == []))=true:=by kernel_rfl
theorem qC:((Rows.esaryBoundsRow.inPlace == Tryz.prog.inPlace 4))=true:=by kernel_rfl
theorem qD:((Rows.esaryBoundsRow.unfollowed == Tryz.prog.unfollowed 4))=true:=by kernel_rfl
theorem qE:((Rows.esaryBoundsRow.recurses == Tryz.prog.recurses 4))=true:=by kernel_rfl
theorem qF:((Rows.esaryBoundsRow.named == Tryz.prog.varsNamed 4))=true:=by kernel_rfl
theorem qG:((Rows.esaryBoundsRow.maps == (Tryz.f4.params.toList++Rows.esaryBoundsSpec.plain.varTypes Tryz.prog).any (Tryz.prog.mapsRec ·)))=true:=by kernel_rfl
theorem pH:((Rows.esaryBoundsRow.ifaces == (Tryz.f4.params.toList++Rows.esaryBoundsSpec.plain.varTypes Tryz.prog).any (Tryz.prog.ifacesRec ·)))=true:=by kernel_rfl
theorem pI:((Rows.esaryBoundsRow.mapsOut == Tryz.prog.mapsAmong Tryz.f4.resultTypes.toList))=true:=by kernel_rfl
theorem pJ:((Rows.esaryBoundsRow.loops == (Tryz.f4.params.toList++Rows.esaryBoundsSpec.plain.varTypes Tryz.prog).any (Tryz.prog.loopsFrom ·)))=true:=by kernel_rfl
theorem pK:((Rows.esaryBoundsRow.wideKeys == (Tryz.f4.params.toList++Rows.esaryBoundsSpec.plain.varTypes Tryz.prog++Tryz.f4.resultTypes.toList).any (Tryz.prog.wideKeysFrom ·)))=true:=by kernel_rfl
theorem pL:(Rows.esaryBoundsSpec.vars.all (Tryz.prog.varReadable ·))=true:=by kernel_rfl
theorem pM:(Tryz.f4.resultTypes.all (fun t=>Tryz.prog.readableRec t&&decide (t<Tryz.prog.types.size)))=true:=by kernel_rfl
theorem pN:((Rows.esaryBoundsRow.ifacesOut == Tryz.f4.resultTypes.toList.any (Tryz.prog.ifacesRec ·)))=true:=by kernel_rfl
theorem pO:((Rows.esaryBoundsRow.loopsOut == Tryz.f4.resultTypes.toList.any (Tryz.prog.loopsFrom ·)))=true:=by kernel_rfl
theorem pP:((Rows.esaryBoundsRow.plainKeys == Tryz.prog.plainKeys))=true:=by kernel_rfl
theorem pR:(Rows.esaryBoundsRow.shortTexts.isNone)=true:=by kernel_rfl
theorem pS:((Rows.esaryBoundsRow.lifted == Tryz.prog.liftsFinal))=true:=by rw [FZ];kernel_rfl
theorem pT:((Tryz.prog.make == some Rows.esaryBoundsRow.make))=true:=by rw [Im];kernel_rfl
theorem pU:((Rows.esaryBoundsRow.pinned == Rows.esaryBoundsRow.pinnedBy))=true:=by kernel_rfl
theorem pV:((Rows.esaryBoundsRow.veiled == (Tryz.f4.params.toList++Rows.esaryBoundsSpec.plain.varTypes Tryz.prog++Tryz.f4.resultTypes.toList).any (Tryz.prog.veiledRec ·)))=true:=by kernel_rfl
theorem pW:(Rows.esaryBoundsRow.veiledFits Tryz.prog Tryz.f4.params.toList (Tryz.f4.params.toList++Rows.esaryBoundsSpec.plain.varTypes Tryz.prog++Tryz.f4.resultTypes.toList))=true:=by kernel_rfl
theorem pG:joinedFacts Tryz.prog 4 Tryz.f4 Rows.esaryBoundsSpec Rows.esaryBoundsRow=true:=by
 unfold joinedFacts;rw [qw];rw [AZ];rw [xq];rw [qy];rw [qz];rw [qA];rw [Ge];rw [qB];rw [F'];rw [qC];rw [qD];rw [qE];rw [qF];rw [qG];rw [pH];rw [pI];rw [pJ];rw [pK];rw [pL];rw [pM];rw [pN];rw [pO];rw [pP];rw [pR];rw [F_];rw [FY];rw [pS];rw [pT];rw [pU];rw [pV];rw [pW];simp only [Bool.and_true,Bool.true_and]
 kernel_rfl
theorem oq:Tryz.pinned.checked.prog.funcNamed Rows.esaryBoundsRow.func=some 4:=by kernel_rfl
theorem ri:false=Rows.esaryBoundsRow.goesBy Tryz.pinned.checked.prog:=by kernel_rfl
theorem rj:Rows.esaryBoundsRow.wfByText (OpenSpec.ofChange Rows.esaryBoundsSpec)=true:=by kernel_rfl
theorem qI:([41,23].all fun u=>!Tryz.prog.wantsStandIn u)=true:=by kernel_rfl
theorem pX (os:Os) (started:os.Started) (H:Type) (enc:TypeId × Value->H) :
  ReturnsInHanded {} Tryz.checked os 4 .any (fun w args=>(Rows.esaryBoundsSpec.pre enc Tryz.prog Tryz.f4 Rows.esaryBoundsRow.domain false w args/\laidMetH Tryz.prog Rows.esaryBoundsRow.laid w)/\sizedMet enc Tryz.prog Tryz.f4 (OpenSpec.ofChange Rows.esaryBoundsSpec) false w args)
   (Rows.esaryBoundsSpec.post enc Tryz.prog Tryz.f4 false true false false):=by
 refine returnsInHanded_of_change_and (C:=Tryz.checked) (X:=fun w _=>laidMetH Tryz.prog Rows.esaryBoundsRow.laid w) (fun _ _ _ hh h=>h.of_heap hh) KC started (by kernel_rfl) Tryz.func4
  (ChangeSpec.witness_shaped (enc:=enc) (C:=Tryz.checked) (os:=os) (X:=fun w _=>laidMetH Tryz.prog Rows.esaryBoundsRow.laid w) false (World.laidAll Tryz.prog os Rows.esaryBoundsRow.laid) #[.agg #[.int .i64 0,.slice none 0 0,.int .i64 0],.slice none 0 0] 8 (World.laidAll_os _ _ _)
   (World.shaped_of_ZipB (by kernel_rfl) (by kernel_rfl)) (by kernel_rfl) (by kernel_rfl) (by kernel_rfl)
   (by rw [MakeChecks.laidMetH_plain _ _ _ (by kernel_rfl)];exact laidMet_laidAll _ (by kernel_rfl) (by kernel_rfl))) ?_
 intro W base args ds gs before ag hW _ hsz _ _;exact Jv 4 Tryz.f4 rfl (fun _ _ _=>rfl) Tryz.params4 (by kernel_rfl) (fun W u v f ps h1 h2 h3=>uX u v f ps W h1 h2 h3) W base args ds gs before ag hW hsz
theorem qH:Rows.EsaryBoundsSaid :=
 OpenClaim.holds_of_wide 4 Tryz.f4 rfl rfl rfl rfl rfl rfl rfl ⟨rfl,rfl,rfl,rfl,rfl⟩ rfl rfl rfl rfl rfl oq Tryz.func4 pG
  (of_decide_eq_true (by kernel_rfl)) (by unfold Func.isWrapper;first | (rw [if_pos (by decide +kernel)];kernel_rfl) | (rw [if_neg (by decide +kernel)];exact ⟨rfl,rfl⟩))
  (fun os started H enc _=>pX os started H enc)
theorem esaryBounds_card:Rows.EsaryBoundsCardSaid :=
 Claim7.holds_tied_plain_at .later [] [.data,.pinned] true (true,"9a52619a5498904b8df2e98de87d31084b44bcf71aba10a5c83eb1a1b135aa30") true qH (fun _ h=>by cases h) rj (fun _ h=>by cases h) esaryBounds_row_tie rfl ⟨rfl,rfl⟩ Il rfl
  (fun f fn hf ag=>by
   obtain rfl:f=4:=Option.some.inj (oq.symm.trans hf) |>.symm
   obtain rfl:fn=Tryz.f4:=(Option.some.inj (Tryz.func4.symm.trans ag)).symm
   exact ⟨Gc,fun j t ht=>by
    rw [Tryz.params4] at ht;have hm:t∈[41,23]:=by simpa using Array.mem_of_getElem? ht
    exact (show Tryz.prog.wantsStandIn t=false by simpa using List.all_eq_true.1 qI t hm)⟩)
  ri
end
end Go.Proofs.YtofibjflkebkpaaGreatDoor
