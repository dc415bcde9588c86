import Derived.WalkKit
import Derived.WalkSpells
import Derived.WalkLawsBesides
import Derived.Deep.QuietTactic
import Derived.BigQuiet
import Derived.Lib.Hide
import Derived.Shelf.Abstract
import Derived.Deep.RegionWith
import Derived.Laws.AppendOwnNone
import Derived.Lib.AppendZerosOnto
import Derived.Lib.SliceRun
import Derived.Lib.SlicesCompact
import Derived.Shelf.SlSortCmp.NoneTotal
import Derived.Maps.OwnOps
import Derived.Maps.OwnSet
import Derived.Maps.Views
import Derived.Deep.MidRow
import Derived.Deep.RegionHeld3
import Derived.Deep.AppendLies
import Derived.Deep.RegionLaw
import Derived.IntWalk
import Derived.StillTailTactics
import Derived.RegionTactic
import Derived.BigRegion
import Derived.ChangeAlike
import Derived.Sort.LotD2
import Derived.Sort.LotA
import Derived.Shelf.SlSortCmp.PdqK
import Derived.Deep.DeepCutAuto
import Derived.Lib.ItoaNum
import Derived.Deep.LoopGhost
import Derived.ProofKit
import Derived.OpenShut
import Derived.SizedLaws
import Derived.Lib.SmallJoins
import Derived.Deep.Slices
import Derived.Deep.Fields
import Derived.Deep.Strs
import Derived.Carry
import Derived.Lib.BitFns
import Derived.Deep.CutBlock
import Derived.Laws.IdiomStrings
import Derived.Lay
import Derived.Stop.Joined
import Derived.LaidMore
import Derived.SevenTiedAt
import Derived.Test.YtofibjflkebkpaaGreatDoorDT11
import Derived.Test.YtofibjflkebkpaaGreatDoorRows
import Derived.Test.YtofibjflkebkpaaGreatDoorChecked
import Derived.Test.YtofibjflkebkpaaGreatDoorCards
import Derived.Test.YtofibjflkebkpaaGreatDoorTie
set_option maxRecDepth 100000
set_option maxHeartbeats 16000000
namespace Go.Proofs.YtofibjflkebkpaaGreatDoor
open Go.RowKit
section
open Go.RowKit Go.ChangeShapes Go.WideShapes Go.ChangeAt
open Go.Joins Go.Deep
theorem iz:(Rows.disjointTopsRow.wf (OpenSpec.ofChange Rows.disjointTopsSpec))=true:=by kernel_rfl
theorem iA:(Tryz.f9.params.all (Tryz.prog.readableRec ·))=true:=by kernel_rfl
theorem iB:(namedTie Tryz.prog Rows.disjointTopsRow.named Rows.disjointTopsSpec.vars)=true:=by kernel_rfl
theorem iC:((Rows.disjointTopsRow.stops == []))=true:=by kernel_rfl
theorem iD:((Rows.disjointTopsRow.knobs == []))=true:=by kernel_rfl
theorem iE:((Rows.disjointTopsRow.inPlace == Tryz.prog.inPlace 9))=true:=by kernel_rfl
theorem iF:((Rows.disjointTopsRow.unfollowed == Tryz.prog.unfollowed 9))=true:=by kernel_rfl
theorem iG:((Rows.disjointTopsRow.recurses == Tryz.prog.recurses 9))=true:=by kernel_rfl
theorem iH:((Rows.disjointTopsRow.named == Tryz.prog.varsNamed 9))=true:=by kernel_rfl
theorem iI:((Rows.disjointTopsRow.maps == (Tryz.f9.params.toList++Rows.disjointTopsSpec.plain.varTypes Tryz.prog).any (Tryz.prog.mapsRec ·)))=true:=by kernel_rfl
theorem gW:((Rows.disjointTopsRow.ifaces == (Tryz.f9.params.toList++Rows.disjointTopsSpec.plain.varTypes Tryz.prog).any (Tryz.prog.ifacesRec ·)))=true:=by kernel_rfl
theorem gX:((Rows.disjointTopsRow.mapsOut == Tryz.prog.mapsAmong Tryz.f9.resultTypes.toList))=true:=by kernel_rfl
theorem gY:((Rows.disjointTopsRow.loops == (Tryz.f9.params.toList++Rows.disjointTopsSpec.plain.varTypes Tryz.prog).any (Tryz.prog.loopsFrom ·)))=true:=by kernel_rfl
theorem gZ:((Rows.disjointTopsRow.wideKeys == (Tryz.f9.params.toList++Rows.disjointTopsSpec.plain.varTypes Tryz.prog++Tryz.f9.resultTypes.toList).any (Tryz.prog.wideKeysFrom ·)))=true:=by kernel_rfl
theorem g_:(Rows.disjointTopsSpec.vars.all (Tryz.prog.varReadable ·))=true:=by kernel_rfl
theorem hC:(Tryz.f9.resultTypes.all (fun t=>Tryz.prog.readableRec t&&decide (t<Tryz.prog.types.size)))=true:=by kernel_rfl
theorem hJ:((Rows.disjointTopsRow.ifacesOut == Tryz.f9.resultTypes.toList.any (Tryz.prog.ifacesRec ·)))=true:=by kernel_rfl
theorem h_:((Rows.disjointTopsRow.loopsOut == Tryz.f9.resultTypes.toList.any (Tryz.prog.loopsFrom ·)))=true:=by kernel_rfl
theorem ib:((Rows.disjointTopsRow.plainKeys == Tryz.prog.plainKeys))=true:=by kernel_rfl
theorem ie:(Rows.disjointTopsRow.shortTexts.isNone)=true:=by kernel_rfl
theorem ig:((Rows.disjointTopsRow.lifted == Tryz.prog.liftsFinal))=true:=by rw [xi];kernel_rfl
theorem ii:((Tryz.prog.make == some Rows.disjointTopsRow.make))=true:=by rw [yS];kernel_rfl
theorem ij:((Rows.disjointTopsRow.pinned == Rows.disjointTopsRow.pinnedBy))=true:=by kernel_rfl
theorem ik:((Rows.disjointTopsRow.veiled == (Tryz.f9.params.toList++Rows.disjointTopsSpec.plain.varTypes Tryz.prog++Tryz.f9.resultTypes.toList).any (Tryz.prog.veiledRec ·)))=true:=by kernel_rfl
theorem il:(Rows.disjointTopsRow.veiledFits Tryz.prog Tryz.f9.params.toList (Tryz.f9.params.toList++Rows.disjointTopsSpec.plain.varTypes Tryz.prog++Tryz.f9.resultTypes.toList))=true:=by kernel_rfl
theorem gV:joinedFacts Tryz.prog 9 Tryz.f9 Rows.disjointTopsSpec Rows.disjointTopsRow=true:=by
 unfold joinedFacts;rw [iz];rw [rU];rw [ot];rw [iA];rw [iB];rw [iC];rw [xp];rw [iD];rw [xk];rw [iE];rw [iF];rw [iG];rw [iH];rw [iI];rw [gW];rw [gX];rw [gY];rw [gZ];rw [g_];rw [hC];rw [hJ];rw [h_];rw [ib];rw [ie];rw [xj];rw [xh];rw [ig];rw [ii];rw [ij];rw [ik];rw [il];simp only [Bool.and_true,Bool.true_and]
 kernel_rfl
theorem fA:Tryz.pinned.checked.prog.funcNamed Rows.disjointTopsRow.func=some 9:=by kernel_rfl
theorem je:false=Rows.disjointTopsRow.goesBy Tryz.pinned.checked.prog:=by kernel_rfl
theorem jf:Rows.disjointTopsRow.wfByText (OpenSpec.ofChange Rows.disjointTopsSpec)=true:=by kernel_rfl
theorem iK:([41,23].all fun u=>!Tryz.prog.wantsStandIn u)=true:=by kernel_rfl
theorem io (os:Os) (started:os.Started) (H:Type) (enc:TypeId × Value->H) :
  ReturnsInHanded {} Tryz.checked os 9 .any (fun w args=>(Rows.disjointTopsSpec.pre enc Tryz.prog Tryz.f9 Rows.disjointTopsRow.domain false w args/\laidMetH Tryz.prog Rows.disjointTopsRow.laid w)/\sizedMet enc Tryz.prog Tryz.f9 (OpenSpec.ofChange Rows.disjointTopsSpec) false w args)
   (Rows.disjointTopsSpec.post enc Tryz.prog Tryz.f9 false true false false):=by
 refine returnsInHanded_of_change_and (C:=Tryz.checked) (X:=fun w _=>laidMetH Tryz.prog Rows.disjointTopsRow.laid w) (fun _ _ _ hh h=>h.of_heap hh) AX started (by kernel_rfl) Tryz.func9
  (ChangeSpec.witness_shaped (enc:=enc) (C:=Tryz.checked) (os:=os) (X:=fun w _=>laidMetH Tryz.prog Rows.disjointTopsRow.laid w) false (World.laidAll Tryz.prog os Rows.disjointTopsRow.laid) #[.agg #[.int .i64 0,.slice none 0 0,.int .i64 0],.slice none 0 0] 8 (World.laidAll_os _ _ _)
   (World.shaped_of_ZipB (by kernel_rfl) (by kernel_rfl)) (by kernel_rfl) (by kernel_rfl) (by kernel_rfl)
   (by rw [MakeChecks.laidMetH_plain _ _ _ (by kernel_rfl)];exact laidMet_laidAll _ (by kernel_rfl) (by kernel_rfl))) ?_
 intro W base args ds gs before hval hW _ hsz _ _;exact zX 9 Tryz.f9 rfl (fun _ _ _=>rfl) Tryz.params9 (by kernel_rfl) (fun W u v f ps h1 h2 h3=>rp u v f ps W h1 h2 h3) W base args ds gs before hval hW hsz
theorem iJ:Rows.DisjointTopsSaid :=
 OpenClaim.holds_of_wide 9 Tryz.f9 rfl rfl rfl rfl rfl rfl rfl ⟨rfl,rfl,rfl,rfl,rfl⟩ rfl rfl rfl rfl rfl fA Tryz.func9 gV
  (of_decide_eq_true (by kernel_rfl)) (by unfold Func.isWrapper;first | (rw [if_pos (by decide +kernel)];kernel_rfl) | (rw [if_neg (by decide +kernel)];exact ⟨rfl,rfl⟩))
  (fun os started H enc _=>io os started H enc)
theorem disjointTops_card:Rows.DisjointTopsCardSaid :=
 Claim7.holds_tied_plain_at .later [] [.data,.pinned] true (true,"9a52619a5498904b8df2e98de87d31084b44bcf71aba10a5c83eb1a1b135aa30") true iJ (fun _ h=>by cases h) jf (fun _ h=>by cases h) disjointTops_row_tie rfl ⟨rfl,rfl⟩ yR rfl
  (fun f fn hf hfn=>by
   obtain rfl:f=9:=Option.some.inj (fA.symm.trans hf) |>.symm
   obtain rfl:fn=Tryz.f9:=(Option.some.inj (Tryz.func9.symm.trans hfn)).symm
   exact ⟨xn,fun j t ht=>by
    rw [Tryz.params9] at ht;have hm:t∈[41,23]:=by simpa using Array.mem_of_getElem? ht
    exact (show Tryz.prog.wantsStandIn t=false by simpa using List.all_eq_true.1 iK t hm)⟩)
  je
end
end Go.Proofs.YtofibjflkebkpaaGreatDoor
