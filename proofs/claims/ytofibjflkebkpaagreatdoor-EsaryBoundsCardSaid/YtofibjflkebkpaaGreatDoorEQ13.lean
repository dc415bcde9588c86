import Derived.Test.YtofibjflkebkpaaGreatDoorEQ12
import Derived.Lay
import Derived.Stop.Joined
import Derived.Test.YtofibjflkebkpaaGreatDoorCards
import Derived.Test.YtofibjflkebkpaaGreatDoorTie
import Derived.LaidMore
import Derived.SevenTiedAt
set_option maxRecDepth 100000
set_option maxHeartbeats 16000000
namespace Go.Proofs.YtofibjflkebkpaaGreatDoor
open Go.RowKit
def chW (l:List Nat):List Char:=l.map Char.ofNat
theorem xV (w r:List Char) (h:∀ c∈w,c≠Char.ofNat 32):wordsSigns (w++Char.ofNat 32 :: r)=w :: wordsSigns r:=by
 induction w with
 | nil=>rfl
 | cons c w ih =>
  have hc:c≠Char.ofNat 32:=h c (by simp);have ih':=ih fun d hd=>h d (List.mem_cons_of_mem _ hd)
  show wordsSigns (c :: (w++Char.ofNat 32 :: r))=_;rw [wordsSigns.eq_3 _ _ (by intro e;exact hc e),ih']
theorem apart (l:List Nat) (h:((chW l).all fun c=>c != Char.ofNat 32)=true):∀ c∈chW l,c≠Char.ofNat 32:=by
 intro c hc;simpa using List.all_eq_true.1 h c hc
def wH:List Nat:=[104,97,114,110,101,115,115]
def wS:List Nat:=[57,97,53,50,54,49,57,97,53,52,57,56,57,48,52,98,56,100,102,50,101,57,56,100,101,56,55,100,51,49,48,56,52,98,52,52,98,99,102,55,49,97,98,97,49,48,97,53,99,56,51,101,98,49,97,49,98,49,51,53,97,97,51,48]
def wC:List Nat:=[99,117,116]
def wR:List Nat:=[97,116,32,102,97,117,108,116,108,105,110,101,47,102,97,117,108,116,108,105,110,101,108,97,119,52,48,46,69,115,97,114,121,80,114,111,100,117,99,116,115,32,102,97,117,108,116,108,105,110,101,47,102,97,117,108,116,108,105,110,101,108,97,119,52,48,46,69,115,97,114,121,66,111,117,110,100,115,32,102,97,117,108,116,108,105,110,101,47,102,97,117,108,116,108,105,110,101,108,97,119,52,48,46,69,115,97,114,121,76,105,107,101,108,105,101,115,116,32,102,97,117,108,116,108,105,110,101,47,102,97,117,108,116,108,105,110,101,108,97,119,52,48,46,69,115,97,114,121,82,105,115,101,115,32,102,97,117,108,116,108,105,110,101,47,102,97,117,108,116,108,105,110,101,108,97,119,52,48,46,69,115,97,114,121,65,112,97,114,116,32,102,97,117,108,116,108,105,110,101,47,102,97,117,108,116,108,105,110,101,108,97,119,52,48,46,69,115,97,114,121,69,110,99,108,111,115,101,115,32,102,97,117,108,116,108,105,110,101,47,102,97,117,108,116,108,105,110,101,108,97,119,51,56,46,68,105,115,106,111,105,110,116,84,111,112,115]
theorem Gd:Tryz.prog.initOrder=String.ofList (chW wH++Char.ofNat 32 :: (chW wS++Char.ofNat 32 :: (chW wC++Char.ofNat 32 :: chW wR))):=by kernel_rfl
theorem yX:wordsSigns Tryz.prog.initOrder.toList=chW wH :: chW wS :: chW wC :: wordsSigns (chW wR):=by
 rw [Gd,String.toList_ofList,xV _ _ (apart _ (by kernel_rfl)),xV _ _ (apart _ (by kernel_rfl)),xV _ _ (apart _ (by kernel_rfl))]
theorem pf:behindMainWord (wordsSigns Tryz.prog.initOrder.toList)=chW wC :: wordsSigns (chW wR):=by
 rw [yX];generalize wordsSigns (chW wR)=W;have h:((chW wH == "harness".toList||chW wH == "ownmain".toList)&&isSumSigns (chW wS))=true:=by kernel_rfl
 unfold behindMainWord;exact if_pos h
theorem Ga:Tryz.prog.laysLater=false:=by kernel_rfl
theorem A_:Tryz.prog.bearsReflect=false:=by kernel_rfl
theorem Ik:Tryz.prog.doorFits []=true:=by kernel_rfl
theorem yW (W:List (List Char)):stripLifts liftWords (chW wC :: W)=([],chW wC :: W):=by kernel_rfl
theorem E' {P:Program} {c:List Char} {W:List (List Char)} (h:behindMainWord (wordsSigns P.initOrder.toList)=c :: W) (hs:stripLifts liftWords (c :: W)=([],c :: W))
  (hc:c= "cut".toList) (hl:P.laysLater=false) (hr:P.bearsReflect=false) (hd:P.doorFits []=true):P.mayEnter=true:=by
 have hh:((c :: W).head? == some "cut".toList)=true:=by rw [hc];simp
 unfold Program.mayEnter;rw [h];simp only [hs,hl,hr,hd,hh];simp
theorem H' {P:Program} {h s:List Char} {W:List (List Char)} (hw:wordsSigns P.initOrder.toList=h :: s :: W) (hs:isSumSigns s=true) (hh:(h == "harness".toList)=true):P.mainIs=some (true,s):=by
 unfold Program.mainIs;rw [hw];simp only [hs,hh];rfl
theorem Fv {P:Program} {c:List Char} {W:List (List Char)} (h:behindMainWord (wordsSigns P.initOrder.toList)=c :: W) (hs:stripLifts liftWords (c :: W)=([],c :: W)):P.headLifts=[]:=by
 unfold Program.headLifts;rw [h,hs];dsimp only;split <;> rfl
theorem Ff {P:Program} {c:List Char} {W:List (List Char)} (h:behindMainWord (wordsSigns P.initOrder.toList)=c :: W) (hl:P.headLifts=[]) (hc:(c == "carried".toList)=false):P.liftsFinal=false:=by
 unfold Program.liftsFinal;rw [h,hl]
 have:((c :: W).head? == some "carried".toList)=false:=by
  rw [Bool.eq_false_iff] at hc⊢;intro e;apply hc;simpa using e
 simp only [this];rfl
theorem Ia {P:Program} {c:List Char} {W:List (List Char)} (h:behindMainWord (wordsSigns P.initOrder.toList)=c :: W) (h0:(c == "gc".toList)=false) (h1:(c == "spec".toList)=false) (h2:(c == "cut".toList)=true):P.make=some .cut:=by
 unfold Program.make;rw [h];simp only [h0,h1,h2];rfl
theorem JV:chW wC= "cut".toList:=by kernel_rfl
theorem FY:Tryz.prog.mayEnter=true:=E' pf (yW _) JV Ga A_ Ik
theorem Il:Tryz.prog.mainIs=some (true,"9a52619a5498904b8df2e98de87d31084b44bcf71aba10a5c83eb1a1b135aa30".toList) :=
 (H' yX (by kernel_rfl) (by kernel_rfl)).trans (congrArg (fun x=>some (true,x)) (show chW wS=_ by kernel_rfl))
theorem Gb:Tryz.prog.headLifts=[]:=Fv pf (yW _)
theorem FZ:Tryz.prog.liftsFinal=false:=Ff pf Gb (by kernel_rfl)
theorem Im:Tryz.prog.make=some .cut:=Ia pf (by kernel_rfl) (by kernel_rfl) (by kernel_rfl)
section
open Go.RowKit Go.ChangeShapes Go.WideShapes Go.ChangeAt
theorem AZ:(laidOutB Tryz.prog)=true:=by kernel_rfl
theorem xq:(mapsRowed Tryz.prog)=true:=by kernel_rfl
theorem Ge:((Tryz.prog.stops == []))=true:=by kernel_rfl
theorem F':((Tryz.prog.stopKnobs == []))=true:=by kernel_rfl
theorem F_:(Tryz.prog.stopsHeard)=true:=by kernel_rfl
theorem Gc:true=Tryz.pinned.checked.prog.looks []:=by kernel_rfl
end
theorem Lo:True:=trivial
end Go.Proofs.YtofibjflkebkpaaGreatDoor
