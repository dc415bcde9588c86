import Derived.Test.YtofibjflkebkpaaGreatDoorEQ9
set_option maxRecDepth 100000
set_option maxHeartbeats 16000000
namespace Go.Proofs.YtofibjflkebkpaaGreatDoor
open Go.RowKit
theorem Io (v:Value) (args:List (List Nat)) (w:World) (hv:mm w v args):Calls Tryz.prog 137 #[v] w fun e w'=>kP w' w.heap.size e (jo h_ [0] args)/\gO w w':=by
 obtain ⟨a,c,rfl,_,hl,hx⟩:=hv;obtain ⟨n,hn⟩:∃ n,n=args.length:=⟨_,rfl⟩;rw [<-hn] at hl⊢;obtain ⟨r,hr⟩:∃ r,r=jo h_ [0] args:=⟨_,rfl⟩;rw [<-hr];have HR:=af hr;have HX:=af hx;have HN:=af hn;have aq:Hid (∀ (x y:List Nat) (vx vy:Value) (W:World),gZ W vx x->gZ W vy y->Calls Tryz.prog 204 #[vx,vy] W fun e w'=>kP w' W.heap.size e (h_ x y)/\gO W w'):=af fun x y vx vy W h1 h2=>sx x y vx vy W h1 h2
 clear hx hn hr;go_enter Tryz.func137,Tryz.ntmps137;go_wp2_with fail;go_loopg [4,11] n (fun kx out i wr=>∃ (k:Nat) (l:List Nat),k<=n/\i=.int .i64 k/\n - k<=kx/\Hid (jo h_ [0] (args.take k)=some l)/\Hid (hC wr w.heap.size out l)/\Hid (gO w wr))
 case atStart=>exact ⟨0,[0],Nat.zero_le _,rfl,by omega,af rfl,af (hC.one w w.heap.size 0 (by simp [Mk]) (Nat.le_refl _)),af ((gO.refl _).alloc _)⟩
 case round =>
  obtain ⟨k,l,hk,rfl,ay,HL,HO,HK⟩:=hrel;by_cases az:k<n
  ·have ah:k<args.length:=by have:=HN.out;omega
   have ar:(k:Int)<(n:Int):=by omega
   obtain ⟨b,o,u,rfl,al,hu⟩:=HX.out k ah;have am:=HK.out.cell al;have HC:=af (aq.out l args[k] u4 u wr HO.out.sets (hu.kept HK.out));have ag:=nJ h_ [0] args k ah;rw [HL.out] at ag;simp only [Option.bind_some] at ag;have HS:=af ag;have HZ:=af HK.out.size;clear al hu ag;obtain ⟨q,hq⟩:∃ q,q=h_ l args[k]:=⟨_,rfl⟩;rw [<-hq] at HC HS;cases q with
   | none =>
    have aw:Hid (r=none):=af (by rw [HR.out];exact nI h_ [0] args (k+1) HS.out);clear hq;go_wp2_with fail;refine HC.out.mono ?_;rintro e w2 ⟨he,ai⟩;unfold kP at he;subst he;have aj:=af (HK.out.trans ai);clear ai;rw [iF (show (4:Nat)≠0 by decide)];go_wp2;go_ret2;exact ⟨by rw [aw.out];rfl,aj.out⟩
   | some l2 =>
    clear hq;go_wp2_with fail;refine HC.out.mono ?_;rintro e w2 ⟨⟨v2,rfl,ap⟩,ai⟩;have O2:=af (ap.mono HZ.out);have aj:=af (HK.out.trans ai);clear ap ai;go_wp2_with fail;go_roundg (n - (k+1))
    case measure=>omega
    case rel=>exact ⟨k+1,l2,by omega,by go_num,Nat.le_refl _,HS,O2,aj⟩
  ·have ar:¬ (k:Int)<(n:Int):=by omega
   have h1:=HL.out;rw [List.take_of_length_le (by have:=HN.out;omega),<-HR.out] at h1;have H1:=af h1;clear h1;go_wp2;go_ret2;exact ⟨by rw [H1.out];exact ⟨_,rfl,HO.out⟩,HK.out⟩
theorem FS (v:Value) (args:List (List Nat)) (w:World) (hv:mm w v args):Calls Tryz.prog 138 #[v] w fun e w'=>kP w' w.heap.size e (jo iN [] args)/\gO w w':=by
 obtain ⟨a,c,rfl,_,hl,hx⟩:=hv;obtain ⟨n,hn⟩:∃ n,n=args.length:=⟨_,rfl⟩;rw [<-hn] at hl⊢;obtain ⟨r,hr⟩:∃ r,r=jo iN [] args:=⟨_,rfl⟩;rw [<-hr];have HR:=af hr;have HX:=af hx;have HN:=af hn;have aq:Hid (∀ (x y:List Nat) (vx vy:Value) (W:World),gZ W vx x->gZ W vy y->Calls Tryz.prog 205 #[vx,vy] W fun e w'=>kP w' W.heap.size e (iN x y)/\gO W w'):=af fun x y vx vy W h1 h2=>yZ x y vx vy W h1 h2
 clear hx hn hr;go_enter Tryz.func138,Tryz.ntmps138;go_wp2_with fail;go_loopg [4,10] n (fun kx out i wr=>∃ (k:Nat) (l:List Nat),k<=n/\i=.int .i64 k/\n - k<=kx/\Hid (jo iN [] (args.take k)=some l)/\Hid (hC wr w.heap.size out l)/\Hid (gO w wr))
 case atStart=>exact ⟨0,[],Nat.zero_le _,rfl,by omega,af rfl,af (hC.nils _ _),af (gO.refl _)⟩
 case round =>
  obtain ⟨k,l,hk,rfl,ay,HL,HO,HK⟩:=hrel;by_cases az:k<n
  ·have ah:k<args.length:=by have:=HN.out;omega
   have ar:(k:Int)<(n:Int):=by omega
   obtain ⟨b,o,u,rfl,al,hu⟩:=HX.out k ah;have am:=HK.out.cell al;have HC:=af (aq.out l args[k] u4 u wr HO.out.sets (hu.kept HK.out));have ag:=nJ iN [] args k ah;rw [HL.out] at ag;simp only [Option.bind_some] at ag;have HS:=af ag;have HZ:=af HK.out.size;clear al hu ag;obtain ⟨q,hq⟩:∃ q,q=iN l args[k]:=⟨_,rfl⟩;rw [<-hq] at HC HS;cases q with
   | none =>
    have aw:Hid (r=none):=af (by rw [HR.out];exact nI iN [] args (k+1) HS.out);clear hq;go_wp2_with fail;refine HC.out.mono ?_;rintro e w2 ⟨he,ai⟩;unfold kP at he;subst he;have aj:=af (HK.out.trans ai);clear ai;rw [iF (show (4:Nat)≠0 by decide)];go_wp2;go_ret2;exact ⟨by rw [aw.out];rfl,aj.out⟩
   | some l2 =>
    clear hq;go_wp2_with fail;refine HC.out.mono ?_;rintro e w2 ⟨⟨v2,rfl,ap⟩,ai⟩;have O2:=af (ap.mono HZ.out);have aj:=af (HK.out.trans ai);clear ap ai;go_wp2_with fail;go_roundg (n - (k+1))
    case measure=>omega
    case rel=>exact ⟨k+1,l2,by omega,by go_num,Nat.le_refl _,HS,O2,aj⟩
  ·have ar:¬ (k:Int)<(n:Int):=by omega
   have h1:=HL.out;rw [List.take_of_length_le (by have:=HN.out;omega),<-HR.out] at h1;have H1:=af h1;clear h1;go_wp2;go_ret2;exact ⟨by rw [H1.out];exact ⟨_,rfl,HO.out⟩,HK.out⟩
theorem OwnFams.len {w:World} {B g n c:Nat} {xss:List (List Nat)} (h:OwnFams w B (.slice (some ⟨g,0,none⟩) n c) xss):n=xss.length:=by
 obtain ⟨us,h1,⟨h2,h3⟩,_⟩:=h;rcases h3 with ⟨h3,_⟩ | ⟨g',cap',cur,h3,_⟩
 ·cases h3
 ·cases h3;rfl
def s' (t t':List (List Nat)) (arg:List Nat) (j:Nat):Prop :=
 t'.length=t.length/\(∀ i,i<=j->t'.getD i []=t.getD i [])/\∀ i,j<=i->i+1<t.length->tZ t arg i=some (t'.getD (i+1) [])
theorem s'.start (t:List (List Nat)) (arg:List Nat) {m:Nat} (h:t.length=m+1):s' t t arg m:=⟨rfl,fun _ _=>rfl,fun i h1 h2=>by omega⟩
theorem s'.step {t t':List (List Nat)} {arg l:List Nat} {j:Nat} (h:s' t t' arg (j+1)) (hj:j+1<t.length) (hl:tZ t arg j=some l):s' t (t'.set (j+1) l) arg j:=by
 obtain ⟨h1,h2,h3⟩:=h;refine ⟨by rw [List.length_set];exact h1,fun i hi=>?_,fun i hi ag=>?_⟩
 ·rw [List.getD_eq_getElem?_getD,List.getElem?_set_ne (by omega),<-List.getD_eq_getElem?_getD];exact h2 i (by omega)
 ·by_cases e:i=j
  ·subst e;rw [hl,List.getD_eq_getElem?_getD,List.getElem?_set_self (by omega)];rfl
  ·rw [List.getD_eq_getElem?_getD,List.getElem?_set_ne (by omega),<-List.getD_eq_getElem?_getD];exact h3 i (by omega) ag
theorem s'.done {t t':List (List Nat)} {arg:List Nat} (h:s' t t' arg 0) (h0:0<t.length):lE t arg=some t' :=
 DM h.1 h0 (h.2.1 0 (Nat.le_refl _)) fun i hi=>h.2.2 i (Nat.zero_le _) hi
theorem DN (v:Value) (args:List (List Nat)) (m:Nat) (w:World) (hv:mm w v args) (bE:1<=m) (bF:m<=1000) :
  Calls Tryz.prog 139 #[v,.int .i64 m] w fun e w'=>kP w' 0 e (kT args m)/\gO w w':=by
 obtain ⟨a,c,rfl,_,hl,hx⟩:=hv;obtain ⟨n,hn⟩:∃ n,n=args.length:=⟨_,rfl⟩;rw [<-hn] at hl⊢;obtain ⟨r,hr⟩:∃ r,r=kT args m:=⟨_,rfl⟩;rw [<-hr];have HR:=af hr;have HX:=af hx;have HN:=af hn;have bh:Hid (∀ (x y:List Nat) (vx vy:Value) (W:World),gZ W vx x->gZ W vy y->Calls Tryz.prog 204 #[vx,vy] W fun e w'=>kP w' W.heap.size e (h_ x y)/\gO W w'):=af fun x y vx vy W h1 h2=>sx x y vx vy W h1 h2
 have bi:Hid (∀ (x y:List Nat) (vx vy:Value) (W:World),gZ W vx x->gZ W vy y->Calls Tryz.prog 205 #[vx,vy] W fun e w'=>kP w' W.heap.size e (iN x y)/\gO W w'):=af fun x y vx vy W h1 h2=>yZ x y vx vy W h1 h2
 clear hx hn hr;go_enter Tryz.func139,Tryz.ntmps139;go_wp2_with (at_make;refine tI rfl _ _ rfl (m+1) (by show Value.int .i64 ((m:Int)+1)=.int .i64 ((m+1:Nat):Int);rw [Int.natCast_add];rfl) (by show Value.int .i64 ((m:Int)+1)=.int .i64 ((m+1:Nat):Int);rw [Int.natCast_add];rfl) (by omega) ?_;intro w1 ay ap aR;obtain ⟨u0,az,_⟩:=ay.cell 0 (by simp);have bj:=ay.free 0;have aD:¬ w1.heap.size=w.heap.size:=(by omega);have O1:=af ay;clear ay);have aS:gO w ((w1.setCell ⟨w.heap.size,0,none⟩ (.slice (some ⟨w1.heap.size,0,none⟩) 1 1)).alloc (.cells #[.int .i64 0] 3)):=((ap.store (Nat.le_refl _) _ _).alloc _)
 have aT:OwnFams ((w1.setCell ⟨w.heap.size,0,none⟩ (.slice (some ⟨w1.heap.size,0,none⟩) 1 1)).alloc (.cells #[.int .i64 0] 3)) w.heap.size (.slice (some ⟨w.heap.size,0,none⟩) (m+1) (m+1)) ([0] :: List.replicate m []):=by
  have h1:=(O1.out.kept ((gO.refl _).alloc (.cells #[.int .i64 0] 3))).store (by simp) 0 (hC.one w1 0 0 (by unfold Mk;omega) (Nat.zero_le _));rw [List.replicate_succ] at h1;rw [<-World.setCell_alloc_past _ _ _ _ aR];exact h1
 have aU:=af aT;have aV:=af aS;clear aT aS az bj ap;go_loopg [20] n (fun kx i wr=>∃ (q:Nat) (t:List (List Nat)),q<=n/\i=.int .i64 q/\n - q<=kx/\Hid (t.length=m+1)/\Hid (OwnFams wr w.heap.size (.slice (some ⟨w.heap.size,0,none⟩) (m+1) (m+1)) t)/\Hid (mw ([0] :: List.replicate m []) (args.take q)=some t)/\Hid (gO w wr))
 case atStart=>exact ⟨0,_,Nat.zero_le _,rfl,by omega,af (by simp),aU,af rfl,aV⟩
 case round =>
  clear aU aV O1 aR aD;obtain ⟨q,t,hq,rfl,bG,al,aW,HG,HK⟩:=hrel;by_cases bH:q<n
  ·have aq:q<args.length:=by have:=HN.out;omega
   have bk:(q:Int)<(n:Int):=by omega
   obtain ⟨b,o,u,rfl,az,hu⟩:=HX.out q aq;have aX:=HK.out.cell az;have ag:=tY (t:=[0] :: List.replicate m []) aq;rw [HG.out] at ag;simp only [Option.bind_some] at ag;obtain ⟨arg,ar⟩:∃ x,x=args[q]:=⟨_,rfl⟩;rw [<-ar] at hu ag;have HU:=af hu;have aF:=af ag;clear az hu ag ar;go_wp2_with fail;obtain ⟨wo,rfl⟩:∃ wo:World,wo=wr:=⟨_,rfl⟩;go_loopg [9] m (fun jx s9 wi=>∃ (j:Nat) (t':List (List Nat)),j<=m/\s9=.int .i64 j/\j<=jx/\Hid (s' t t' arg j)/\Hid (OwnFams wi w.heap.size (.slice (some ⟨w.heap.size,0,none⟩) (m+1) (m+1)) t')/\Hid (gO w wi))
   case atStart=>exact ⟨m,t,Nat.le_refl _,rfl,by omega,af (s'.start t arg al.out),aW,HK⟩
   case round =>
    obtain ⟨j,t',hj,rfl,bI,HV,aw,aA⟩:=hrel;by_cases bJ:0<j
    ·obtain ⟨p,rfl⟩:∃ p,j=p+1:=⟨j - 1,by omega⟩;have bl:(0:Int)<((p+1:Nat):Int):=by omega
     have ep:((p+1:Nat):Int)=(p:Int)+1:=by omega
     rw [ep] at bl⊢;have aY:p+1<t.length:=by have:=al.out;omega
     have hl':t'.length=t.length:=HV.out.1;have g1:=HV.out.2.1 p (by omega);have g2:=HV.out.2.1 (p+1) (Nat.le_refl _);obtain ⟨up,aZ,aG⟩:=aw.out.cell p (by omega);obtain ⟨uq,aH,aI⟩:=aw.out.cell (p+1) (by omega);have e1:t'[p]'(by omega)=t.getD p []:=by rw [<-g1];simp [List.getD_eq_getElem?_getD,show p<t'.length by omega]
     have e2:t'[p+1]'(by omega)=t.getD (p+1) []:=by rw [<-g2];simp [List.getD_eq_getElem?_getD,show p+1<t'.length by omega]
     rw [e1] at aG;rw [e2] at aI;have HC:=af (bh.out (t.getD p []) arg up u wr aG.sets (HU.out.kept aA.out));have aJ:Hid (tZ t arg p=(h_ (t.getD p []) arg).bind (iN (t.getD (p+1) []))):=af rfl;obtain ⟨z,hz⟩:∃ z,z=h_ (t.getD p []) arg:=⟨_,rfl⟩;rw [<-hz] at HC aJ;have bo:=af aI;have aK:=af aY;have bK:=aw.out.free (p+1);have bL:(0:Int)<=(p:Int):=by omega
     have bM:(p:Int)<(m:Int)+1:=by omega
     have bp:(p:Int)+1<(m:Int)+1:=by omega
     have bN:(p:Int)+1 - 1=(p:Int):=by omega
     clear hz aG aI g1 g2 e1 e2 hl' aY ep;cases z with
     | none =>
      have aL:Hid (r=none):=af (by
       have h1:lE t arg=none:=mQ aK.out aJ.out;have h2:=aF.out;rw [h1] at h2;rw [HR.out];unfold kT;rw [nU h2];rfl)
      go_wp2_with fail;refine HC.out.mono ?_;rintro e w2 ⟨he,aj⟩;unfold kP at he;subst he;have aB:=af (aA.out.trans aj);clear aj aZ aH;rw [iF (show (4:Nat)≠0 by decide)];go_wp2;go_ret2;exact ⟨by rw [aL.out];rfl,aB.out⟩
     | some x =>
      go_wp2_with fail;refine HC.out.mono ?_;rintro e w2 ⟨⟨v2,rfl,a_⟩,aj⟩;have aC:=af (aw.out.kept aj);have aB:=af (aA.out.trans aj);have ai:=aj.cell aH;have aM:=af (bi.out (t.getD (p+1) []) x uq v2 w2 (bo.out.kept aj).sets a_.sets);have am:Hid (tZ t arg p=iN (t.getD (p+1) []) x):=af (by rw [aJ.out];rfl);obtain ⟨y,hy⟩:∃ y,y=iN (t.getD (p+1) []) x:=⟨_,rfl⟩;rw [<-hy] at aM am;clear a_ aj aZ aH hy;cases y with
      | none =>
       have aL:Hid (r=none):=af (by
        have h1:lE t arg=none:=mQ aK.out am.out;have h2:=aF.out;rw [h1] at h2;rw [HR.out];unfold kT;rw [nU h2];rfl)
       go_wp2_with fail;refine aM.out.mono ?_;rintro e w3 ⟨he,ah⟩;unfold kP at he;subst he;have aN:=af (aB.out.trans ah);have aO:=ah.cell ai;have bq:=(aC.out.kept ah).free (p+1);have br:=af (aN.out.store (Nat.le_refl _) (p+1) (.slice none 0 0));clear ah ai;rw [iF (show (4:Nat)≠0 by decide)];go_wp2;go_ret2;exact ⟨by rw [aL.out];rfl,br.out⟩
      | some y =>
       go_wp2_with fail;refine aM.out.mono ?_;rintro e w3 ⟨⟨v3,rfl,aP⟩,ah⟩;obtain ⟨xa,xn,xc,rfl⟩:=aP.1.ints.shape;have aN:=af (aB.out.trans ah);have aO:=ah.cell ai;have bq:=(aC.out.kept ah).free (p+1);have bt:=af (HV.out.step aK.out am.out);have bd:=(aC.out.kept ah).store (aC.out.kept ah).len (p+1) (aP.mono (Nat.zero_le _));have bw:=af bd;have bz:=af (aN.out.store (Nat.le_refl _) (p+1) (.slice xa xn xc));clear ah ai aP bd;go_wp2_with fail;go_roundg p
       case measure=>omega
       case rel=>exact ⟨p,t'.set (p+1) y,by omega,by go_num,Nat.le_refl _,bt,bw,bz⟩
    ·have bA:j=0:=by omega
     subst bA;have bB:Hid (mw ([0] :: List.replicate m []) (args.take (q+1))=some t'):=af (by rw [aF.out];exact HV.out.done (by have:=al.out;omega));have aQ:Hid (t'.length=m+1):=af (by rw [HV.out.1];exact al.out);go_wp2_with fail;go_roundg (n - (q+1))
     case measure=>omega
     case rel=>exact ⟨q+1,t',by omega,by go_num,Nat.le_refl _,aQ,aw,bB,aA⟩
  ·have bk:¬ (q:Int)<(n:Int):=by omega
   have bC:Hid (r=some (t.getD m [])):=af (by
    have h:=HG.out;rw [List.take_of_length_le (by have:=HN.out;omega)] at h;rw [HR.out];unfold kT;rw [h];rfl)
   obtain ⟨um,bO,bf⟩:=aW.out.cell m (by have:=al.out;omega)
   have bD:Hid (hC wr 0 um (t.getD m [])):=af (by
    have e:t.getD m []=t[m]'(by have:=al.out;omega):=by simp [List.getD_eq_getElem?_getD,show m<t.length by have:=al.out;omega]
    rw [e];exact bf)
   have bP:(m:Int)<(m:Int)+1:=by omega
   have bQ:(0:Int)<=(m:Int):=by omega
   clear bf;go_wp2;go_ret2;exact ⟨by rw [bC.out];exact ⟨_,rfl,bD.out⟩,HK.out⟩
def lj (w:World) (B:Nat) (v:Value) (xs:List Nd):Prop :=
 ∃ cells:List Value,w.ownsRow B 106 3 v xs.length cells/\xs.length<=1000 /\
  ∀ i (h:i<xs.length),∃ u,cells[i*3]?=some (.int .i64 xs[i].kind)/\cells[i*3+1]?=some (.int .i64 xs[i].k)/\cells[i*3+2]?=some u/\OwnInts w 0 u xs[i].args
theorem lj.slice {w:World} {B:Nat} {v:Value} {xs:List Nd} (h:lj w B v xs):∃ a c,v=.slice a xs.length c:=by
 obtain ⟨cells,⟨_,h⟩,_⟩:=h;rcases h with ⟨rfl,h0⟩ | ⟨g,cp,_,rfl,_⟩
 ·exact ⟨none,0,by rw [h0]⟩
 ·exact ⟨_,_,rfl⟩
theorem lj.at {w:World} {B:Nat} {v:Value} {xs:List Nd} (h:lj w B v xs):ii w v xs:=by
 obtain ⟨cells,⟨h1,h2⟩,h3,h4⟩:=h;rcases h2 with ⟨rfl,h6⟩ | ⟨g,cap,cur,rfl,h6,h7,h8,h9,ah,ag⟩
 ·have:xs=[]:=List.eq_nil_of_length_eq_zero h6
  subst this;exact ⟨none,0,rfl,⟨by simp,fun _=>rfl⟩,by simp,fun i h=>by simp at h⟩
 ·refine ⟨some ⟨g,0,none⟩,cap,rfl,⟨h8,fun h=>by cases h⟩,by omega,fun i hi=>⟨g,0,rfl,?_⟩⟩;obtain ⟨u,a,b,c,d⟩:=h4 i hi
  have hc:∀ j,j<xs.length*3->w.cell? ⟨g,0+j,none⟩=cells[j]?:=by
   intro j hj;have e1:(cur.toList.take (xs.length*3))[j]?=cells[j]?:=by rw [ag]
   rw [List.getElem?_take_of_lt hj] at e1;simp only [World.cell?,h7,Nat.zero_add];simpa using e1
  refine ⟨u,?_,?_,?_,d.ints⟩
  ·rw [hc _ (by omega)];exact a
  ·rw [Nat.add_assoc,hc _ (by omega)];exact b
  ·rw [Nat.add_assoc,hc _ (by omega)];exact c
def li (w:World) (B:Nat) (v:Value) (xs:List Nd):Prop :=
 ∃ cells:List Value,w.ownsRow B 106 3 v xs.length cells/\xs.length<=1000 /\
  ∀ i (h:i<xs.length),∃ u,cells[i*3]?=some (.int .i64 xs[i].kind)/\cells[i*3+1]?=some (.int .i64 xs[i].k)/\cells[i*3+2]?=some u/\OwnInts w B u xs[i].args
theorem li.kept {w w':World} {B:Nat} {v:Value} {xs:List Nd} (h:li w B v xs) (hk:gO w w'):li w' B v xs:=by
 obtain ⟨cells,h1,h2,h3⟩:=h;exact ⟨cells,lT h1 hk,h2,fun i hi=>let ⟨u,a,b,c,d⟩:=h3 i hi;⟨u,a,b,c,d.kept hk⟩⟩
theorem OwnInts.belowS {w:World} {B:Nat} {v:Value} {xs:List Int} (h:OwnInts w B v xs) {a:Addr} (ha:a.block<B) (u:Value):OwnInts (w.setCell a u) B v xs:=⟨ownsRow_setCell_below h.1 ha u,h.2⟩
theorem li.below {w:World} {B:Nat} {v:Value} {xs:List Nd} (h:li w B v xs) {a:Addr} (ha:a.block<B) (u:Value):li (w.setCell a u) B v xs:=by
 obtain ⟨cells,h1,h2,h3⟩:=h;exact ⟨cells,ownsRow_setCell_below h1 ha u,h2,fun i hi=>let ⟨u1,a1,b1,c1,d1⟩:=h3 i hi;⟨u1,a1,b1,c1,d1.belowS ha u⟩⟩
theorem li.nodes {w:World} {B:Nat} {v:Value} {xs:List Nd} (h:li w B v xs):lj w B v xs:=by
 obtain ⟨cells,h1,h2,h3⟩:=h;exact ⟨cells,h1,h2,fun i hi=>let ⟨u,a,b,c,d⟩:=h3 i hi;⟨u,a,b,c,d.mono (Nat.zero_le _)⟩⟩
theorem li.slice {w:World} {B:Nat} {v:Value} {xs:List Nd} (h:li w B v xs):∃ a c,v=.slice a xs.length c:=h.nodes.slice
theorem He {ops:Array Oper} {rest:List Oper} {o:Oper} {a:Act} {Q:Exit->Act->World->Prop} {w:World} (am:o.guard=none) (s x:Operand)
  (ho:o.op=.call { callee:=.builtin .append,args:=#[s,x],argTypes:=#[39,39] }) (B:Nat) (v:Value) (xs:List Nd) (hs:a.eval s=v) (ai:li w B v xs)
  (g:Nat) (y:Nd) (u:Value) (hx:a.eval x=.slice (some ⟨g,0,none⟩) 1 1) (hc:w.rangeAt g 0 [.int .i64 y.kind,.int .i64 y.k,u]) (hu:OwnInts w B u y.args) (hl:xs.length<1000) (hB:B<=w.heap.size)
  (h:∀ v' w',li w' B v' (xs++[y])->w.grownBy w' v.ownBlock->Below B w w'->wpList Tryz.prog ops Q rest (a.put o.dst v') w'):wpList Tryz.prog ops Q (o :: rest) a w:=by
 obtain ⟨i0,ap,aq,ar,aw⟩:=info_parts vI;obtain ⟨cells,ag,az,ah⟩:=ai;obtain ⟨sa,sn,sc,rfl⟩:=hu.ints.shape;refine wpList_append_own _ am s x 39 ho B 106 i0 _ 3 40 Tryz.underlying39 ap aq ar aw rfl (by decide) v xs.length cells hs ag ⟨g,0,none⟩ 1 1 [.int .i64 y.kind,.int .i64 y.k,.slice sa sn sc] hx rfl ?_ ?_ (by unfold maxLen;omega) (by omega) hB ?_
 ·intro j u hj;have:=hc j u hj;rw [Addr.add_mid];exact this
 ·intro u hu;simp at hu;rcases hu with rfl | rfl | rfl <;> rfl
 ·intro v' w' h3 h4 _;have tag:∀ {u:Value} {zs:List Int},OwnInts w B u zs->OwnInts w' B u zs:=fun hz=>⟨nQ hz.1 ag (by decide) (fun k hk ay=>h4.block k hk ay),hz.2⟩
  refine h v' w' ⟨cells++[.int .i64 y.kind,.int .i64 y.k,.slice sa sn sc],by simpa using h3,by simp;omega,?_⟩ h4 (iD h4 ag hB);intro i hi;simp at hi;have aj:cells.length=xs.length*3:=ag.1;by_cases al:i<xs.length
  ·obtain ⟨u,e0,e1,e2,e3⟩:=ah i al;rw [List.getElem_append_left al];refine ⟨u,?_,?_,?_,tag e3⟩
   ·rw [List.getElem?_append_left (by omega),e0]
   ·rw [List.getElem?_append_left (by omega),e1]
   ·rw [List.getElem?_append_left (by omega),e2]
  ·have e:i=xs.length:=by omega
   subst e;rw [List.getElem_append_right (Nat.le_refl _)];simp only [Nat.sub_self,List.getElem_cons_zero];refine ⟨.slice sa sn sc,?_,?_,?_,tag hu⟩
   ·rw [List.getElem?_append_right (by omega),aj];simp
   ·rw [List.getElem?_append_right (by omega),aj];simp
   ·rw [List.getElem?_append_right (by omega),aj];simp
structure TInvN (w1 w3 wr:World) (g V n k:Nat) (ov:Value) (tl:List Int) (ks:List Nd) (mark:List Bool):Prop where
 tlen:tl.length=V+n
 tren:∀ a,(a<V\/(a<V+k/\mark.getD a false=true))->tl.getD a 0=sC V mark (a:Int)
 row:gS wr (w1.heap.size+1) 3 (tl.map (.int .i64))
 box:gS wr w1.heap.size 41 [.int .i64 V,ov,.int .i64 0]
 own:li wr w3.heap.size ov ks
 marks:gS wr g 4 (mark.map .bool)
 kept:gO w1 wr
 size:w3.heap.size<=wr.heap.size
theorem Cw {V:Nat} {mark:List Bool} {a:Nat} (h:a<V):sC V mark (a:Int)=(a:Int):=by unfold sC;rw [if_pos (by omega)]
theorem zq {V:Nat} {mark:List Bool} {k:Nat}:sC V mark ((V+k:Nat):Int)=((V+mG V mark k:Nat):Int):=by
 unfold sC;rw [if_neg (by omega),show (((V+k:Nat):Int) - (V:Int)).toNat=k by omega]
theorem TInvN.skip {w1 w3 wr:World} {g V n k:Nat} {ov:Value} {tl:List Int} {ks:List Nd} {mark:List Bool} (h:TInvN w1 w3 wr g V n k ov tl ks mark) (hm:mark.getD (V+k) false=false):TInvN w1 w3 wr g V n (k+1) ov tl ks mark :=
 ⟨h.tlen,fun a ha=>h.tren a (by
  rcases ha with ha | ⟨ha,hb⟩
  ·exact .inl ha
  ·by_cases e:a=V+k
   ·rw [e,hm] at hb;cases hb
   ·exact .inr ⟨by omega,hb⟩),h.row,h.box,h.own,h.marks,h.kept,h.size⟩
theorem Dg {w1 w3 wo wr w6:World} {g V n k:Nat} {ov nv:Value} {tl:List Int} {ks:List Nd} {R:List Bool} {y:Nd} {cs:Array Value} (hI:TInvN w1 w3 wo g V n k ov tl ks R) (hK:gO wo wr) (h1:w1.heap.size+1<w3.heap.size) (hg:w1.heap.size+1<g) (aq:g<w3.heap.size) (ar:k<n) (al:ks.length=mG V R k)
  (h6:li w6 w3.heap.size nv (ks++[y])) (ag:((wr.setCell ⟨w1.heap.size+1,V+k,none⟩ (.int .i64 ((V:Int)+(ks.length:Int)))).alloc (.cells cs 106)).grownBy w6 ov.ownBlock) :
  TInvN w1 w3 (w6.setCell ⟨w1.heap.size,1,none⟩ nv) g V n (k+1) nv (tl.set (V+k) ((V:Int)+(ks.length:Int))) (ks++[y]) R:=by
 have hs:=hK.size;have aw:=hI.size;obtain ⟨t,ht⟩:∃ t:Int,t=(V:Int)+(ks.length:Int):=⟨_,rfl⟩;have am:sC V R ((V+k:Nat):Int)=t:=by rw [zq,ht,al];omega
 rw [<-ht] at ag⊢
 have ah:∀ j,j<w3.heap.size->some j≠ov.ownBlock:=by
  intro j hj e;obtain ⟨cells,ho,_⟩:=hI.own;have:=(ho.lt _ e.symm).1;omega
 have hb:∀ j,j<w3.heap.size->w6.heap[j]?=(wr.setCell ⟨w1.heap.size+1,V+k,none⟩ (.int .i64 t)).heap[j]?:=by
  intro j hj;have l1:(wr.setCell ⟨w1.heap.size+1,V+k,none⟩ (.int .i64 t)).heap.size=wr.heap.size:=by simp [World.setCell]
  exact (ag.block j (by simp;omega) (ah j hj)).trans (Below.heap_alloc _ _ j (by omega))
 have ai:=(hI.row.kept hK).store (V+k) (.int .i64 t);rw [<-List.map_set] at ai;have aj:=((hI.box.kept hK).other (p:=w1.heap.size+1) (by omega) (V+k) (.int .i64 t));have ap:=((hI.marks.kept hK).other (p:=w1.heap.size+1) (by omega) (V+k) (.int .i64 t));refine ⟨by rw [List.length_set];exact hI.tlen,fun a ha=>?_,?_,?_,h6.below (by show w1.heap.size<_;omega) _,?_,?_,?_⟩
 ·by_cases e:a=V+k
  ·subst e;rw [List.getD_eq_getElem?_getD,List.getElem?_set_self (by rw [hI.tlen];omega),Option.getD_some];exact am.symm
  ·rw [List.getD_eq_getElem?_getD,List.getElem?_set_ne (Ne.symm e),<-List.getD_eq_getElem?_getD];exact hI.tren a (ha.imp id fun h=>⟨by omega,h.2⟩)
 ·exact (ai.same (hb _ (by omega))).other (by omega) _ _
 ·have:=(aj.same (hb _ (by omega))).store 1 nv;simpa using this
 ·exact (ap.same (hb _ (by omega))).other (by omega) _ _
 ·have l1:(wr.setCell ⟨w1.heap.size+1,V+k,none⟩ (.int .i64 t)).heap.size=wr.heap.size:=by simp [World.setCell]
  have k1:gO w1 (wr.setCell ⟨w1.heap.size+1,V+k,none⟩ (.int .i64 t)):=(hI.kept.trans hK).store (by omega) _ _;have k2:gO w1 w6:=(k1.alloc _).app ⟨ag.os,ag.tape,ag.output,ag.size,fun j hj=>ag.block j (by simp;omega) (ah j (by omega))⟩;exact k2.store (Nat.le_refl _) _ _
 ·have l1:(wr.setCell ⟨w1.heap.size+1,V+k,none⟩ (.int .i64 t)).heap.size=wr.heap.size:=by simp [World.setCell]
  have:=ag.size;simp at this;simp [World.setCell] at this⊢;omega
theorem oW {V T:Nat} {f:Fm} (ag:Ok f V T):(io V T f.nodes).getD T false=true:=by
 refine lX V f.nodes _ _ _ ?_;rw [List.getD_eq_getElem?_getD,List.getElem?_set_self (by simpa using ag.tlt)];rfl
theorem lj.mono {w:World} {B B':Nat} {v:Value} {xs:List Nd} (h:lj w B v xs) (hb:B'<=B):lj w B' v xs:=by
 obtain ⟨cells,h1,h2⟩:=h;exact ⟨cells,nz h1 hb,h2⟩
theorem Iz (V n a:Nat) (h:a<V):(CG V n V).getD a 0=(a:Int):=by
 unfold CG;rw [List.getD_eq_getElem?_getD,List.getElem?_append_left (by simpa using h)];simp [h]
theorem vi (V:Nat) (R:List Bool) (args:List Int) (p:Nat) (h:p<args.length):(args.take (p+1)).map (sC V R)=(args.take p).map (sC V R)++[sC V R args[p]]:=by
 rw [List.take_succ_eq_append_getElem h,List.map_append];rfl
theorem Em (v:Value) (f:Fm) (V T:Nat) (w:World) (hv:ii w v f.nodes) (am:Ok f V T) (bl:jP f=0) :
  Calls Tryz.prog 81 #[.agg #[.int .i64 V,v,.int .i64 T]] w fun e w'=>∃ tv,e=.returned (.tuple #[.agg #[.int .i64 V,tv,.int .i64 (sC V (io V T f.nodes) (T:Int))],.nilIface])/\lj w' w.heap.size tv (iK V (io V T f.nodes) f.nodes f.nodes.length)/\gO w w':=by
 have az:=mf v f w hv (by rw [am.top];have:=am.tlt;have:=am.n128;have:=am.v24;omega);rw [bl] at az;unfold ot at az;rw [am.vars,am.top] at az;have bo:=af (fun W (hk:gO w W)=>mf v f W (hv.kept hk) (by rw [am.top];have:=am.tlt;have:=am.n128;have:=am.v24;omega));have bR:=af (fun W (hk:gO w W)=>vl v f V T W (hv.kept hk) am);have HV:=af hv;obtain ⟨a,c,rfl,_,hl,hx⟩:=hv;obtain ⟨n,hn⟩:∃ n,n=f.nodes.length:=⟨_,rfl⟩;rw [<-hn] at hl bo bR;have dl:n<=128:=by rw [hn];exact am.n128
 have dm:=am.v24;have dp:T<V+n:=by rw [hn];exact am.tlt
 have E1:=af (show ot (.slice a n c) f=.agg #[.int .i64 V,.slice a n c,.int .i64 T] by unfold ot;rw [am.vars,am.top]);have aN:∀ W,gO w W->Calls Tryz.prog 30 #[.agg #[.int .i64 V,.slice a n c,.int .i64 T]] W fun e w'=>e=.returned (iV (jP f))/\gO W w':=fun W hk=>by have:=bo.out W hk;rw [E1.out] at this;exact this
 have bp:=af aN;clear aN;clear bo E1;have E2:=af (show iV (jP f)=.nilIface by rw [bl];rfl);have HX:=af hx;have HN:=af hn;have HO:=af am;have cF:=af (kG V T f am);have cG:=af (oW am);rw [<-hn];clear hx hn am hl bl az;go_enter Tryz.func81,Tryz.ntmps81
 go_wp2_with (first
  | (go_at_call 30;refine (bp.out _ (((gO.refl _).alloc _).alloc _)).mono ?_;rintro e w1 ⟨rfl,aC⟩;rw [E2.out];have cH:=aC.size;simp only [World.size_alloc] at cH;have ls0:w.heap.size<w1.heap.size:=(by omega);have ls1:w.heap.size+1<w1.heap.size:=(by omega);have b0:=aC.cell (p:=⟨w.heap.size,0,none⟩) (v:=.int .i64 V) (by simp);have b1:=aC.cell (p:=⟨w.heap.size,1,none⟩) (v:=.slice a n c) (by simp);have b2:=aC.cell (p:=⟨w.heap.size,2,none⟩) (v:=.int .i64 T) (by simp))
  | (at_make;refine kg 22 3 _ 8 lS Tryz.underlying22 rfl rfl _ _ rfl (V+n) (by show Value.int .i64 ((V:Int)+(n:Int))=.int .i64 ((V+n:Nat):Int);rw [Int.natCast_add]) (by show Value.int .i64 ((V:Int)+(n:Int))=.int .i64 ((V+n:Nat):Int);rw [Int.natCast_add]) (by omega) (by unfold maxLen;omega) ?_;intro w2 bq br;simp only [World.size_alloc] at bq;have cI:=af bq;clear bq;have bt:=(aC.trans ((gO.refl _).alloc _)).trans br;have d0:=bt.cell (p:=⟨w.heap.size,0,none⟩) (v:=.int .i64 V) (by simp)))
 go_loopw [7,32] (fun _ i wr=>∃ k:Nat,k<=V/\i=.int .i64 k/\gS wr (w1.heap.size+1) 3 ((CG V n k).map (.int .i64))/\gO (w1.alloc (.cells #[.int .i64 V,.slice none 0 0,.int .i64 0] 41)) wr) (fun _ i _=>V - (intOf i).toNat)
 case atStart=>exact ⟨0,Nat.zero_le _,rfl,by simpa [CG] using cI.out,br⟩
 case round =>
  clear br;obtain ⟨k,hk,rfl,ag,hK⟩:=hrel;by_cases bw:k<V
  ·have cY:=ag.cell (i:=k) (by rw [List.length_map,sZ V n k hk];omega);have fY:=ag.free k;have aD:=ag.store k (.int .i64 k);have bS:=hK.store (g:=w1.heap.size+1) (by simp) k (.int .i64 k);have bi:(k:Int)<(V:Int)+(n:Int):=by omega
   have bz:(k:Int)<((V+n:Nat):Int):=by omega
   rw [<-List.map_set,zQ V n k bw] at aD;have cJ:=af aD;have cK:=af bS;clear aD bS ag hK;go_wp2;go_roundw
   case rel=>exact ⟨k+1,by omega,by go_num,cJ.out,cK.out⟩
   case measure=>simp [intOf];omega
  ·have e:k=V:=by omega
   have bT:=sZ V n k hk;have bA:Hid (∀ a:Nat,a<V->(CG V n k).getD a 0=(a:Int)):=af (by rw [e];exact fun a h=>Iz V n a h);obtain ⟨tl,aO⟩:∃ tl,tl=CG V n k:=⟨_,rfl⟩;rw [<-aO] at ag bT bA;have aP:=(aC.trans ((gO.refl _).alloc _)).trans hK;have bU:gO w wr:=(((gO.refl w).alloc _).alloc _).trans aP;have q0:=aP.cell (p:=⟨w.heap.size,0,none⟩) (v:=.int .i64 V) (by simp);have q1:=aP.cell (p:=⟨w.heap.size,1,none⟩) (v:=.slice a n c) (by simp);have q2:=aP.cell (p:=⟨w.heap.size,2,none⟩) (v:=.int .i64 T) (by simp);have cL:=ag.lt;have cM:Hid (∀ a:Nat,a<V->tl.getD a 0=(a:Int)):=bA;clear bA;have bV:=af ag;have bj:=af hK;have cN:=af bU;have dq:(V:Int)<=(V:Int)+(n:Int):=by omega
   have cO:(V:Int)<=((V+n:Nat):Int):=by omega
   clear e ag aP bU hK aO;go_wp2
   go_region_held3 (fun w'=>w'.cell? ⟨w.heap.size,0,none⟩=some (.int .i64 V)/\w'.cell? ⟨w.heap.size,1,none⟩=some (.slice a n c)/\w'.cell? ⟨w.heap.size,2,none⟩=some (.int .i64 T))
    (first | go_keep | exact ⟨aK.cell q0,aK.cell q1,aK.cell q2⟩)
    (first | (go_at_call 136;refine (bR.out _ (cN.out.drew)).mono ?_;rintro e w3 ⟨g,rfl,hg,bB,aK⟩))
   obtain ⟨R,hR⟩:∃ R,R=io V T f.nodes:=⟨_,rfl⟩;rw [<-hR] at bB;have bW:=af bB;have aF:=af hR;have cP:g<w3.heap.size:=bW.out.lt;have cQ:w1.heap.size+1<g:=by have h9:wr.heap.size<=g:=hg;omega
   have aG:gO (w1.alloc (.cells #[.int .i64 V,.slice none 0 0,.int .i64 0] 41)) w3:=bj.out.trans ((gO.refl wr).drew.trans aK)
   have aB:TInvN w1 w3 w3 g V n 0 (.slice none 0 0) tl [] R:=⟨bT,fun a ha=>by
    have bX:a<V:=by rcases ha with h | h <;> omega
    rw [cM.out a bX,Cw bX],bV.out.kept ((gO.refl wr).drew.trans aK),(gS.made w1 _ _).kept aG,⟨[],World.ownsRow_nil _ _ _ _,by simp,fun i h=>by simp at h⟩,bW.out,((gO.refl w1).alloc _).trans aG,Nat.le_refl _⟩
   have aL:=af aB;have aH:=af aC;clear hR bB aB aG aK q0 q1 q2 bV bj hg;by_cases cR:n=0
   ·subst cR;have ai:=aH.out.trans aL.out.kept;have ap:=aL.out.box;have d0:=ai.cell (p:=⟨w.heap.size,0,none⟩) (v:=.int .i64 V) (by simp);have d2:=ai.cell (p:=⟨w.heap.size,2,none⟩) (v:=.int .i64 T) (by simp);have c0:=ap.cell (i:=0) (by simp);have c1:=ap.cell (i:=1) (by simp);have c2:=ap.cell (i:=2) (by simp);have f2:=ap.free 2;have aQ:T<tl.length:=by rw [aL.out.tlen];omega
    obtain ⟨zt,aI⟩:∃ zt:Int,zt=tl[T]:=⟨_,rfl⟩;have cT:w3.cell? ⟨w1.heap.size+1,T,none⟩=some (.int .i64 zt):=by have:=aL.out.row.cell (i:=T) (by simpa using aQ);rw [List.getElem_map] at this;rw [aI];exact this
    have bC:Hid (zt=sC V R (T:Int)):=af (by have h:=aL.out.tren T (.inl (by omega));rw [aI,<-h];simp [List.getD_eq_getElem?_getD,aQ]);clear aI;have bi:(T:Int)<(V:Int):=by omega
    have ah:gS w3 (w.heap.size+1) 41 [.int .i64 0,.slice none 0 0,.int .i64 0]:=by
     have:=(gS.made (w.alloc (.cells #[.int .i64 V,.slice a 0 c,.int .i64 T] 41)) #[.int .i64 0,.slice none 0 0,.int .i64 0] 41).kept ai;simpa using this
    have r0:=ah.cell (i:=0) (by simp);have r1:=ah.cell (i:=1) (by simp);have r2:=ah.cell (i:=2) (by simp);have s0:=ah.free 0;have s1:=ah.free 1;have s2:=ah.free 2;simp only [List.getElem_cons_succ,List.getElem_cons_zero] at r0 r1 r2 c0 c1 c2;have ne1:w1.heap.size≠w.heap.size+1:=by omega
    have ne2:w.heap.size+1≠w1.heap.size:=by omega
    clear ap ah;go_wp2;refine wp_loop_rounds 1 ?_;rw [rounds_succ];go_wp2;refine bodyPost_ret (v:=.tuple #[.agg #[.int .i64 V,.slice none 0 0,.int .i64 zt],.nilIface]) ?_ rfl ⟨.slice none 0 0,?_,?_,?_⟩
    ·simp [results,Tryz.results81,go_sem,r0,r1,r2]
    ·rw [<-aF.out,<-bC.out]
    ·exact ⟨[],World.ownsRow_nil _ _ _ _,by simp [iK],fun i h=>by simp [iK] at h⟩
    ·have aA:gO w w3:=(((gO.refl w).alloc _).alloc _).trans ai;exact (((aA.store (by omega) _ _).store (by omega) _ _).store (by omega) _ _).store (by omega) _ _
   ·have dr:0<n:=by omega
    have dt:V<V+n:=by omega
    go_wp2;go_loopw [8,9,10,11,13,46,66] (fun _ _ _ _ _ i _ wr=>∃ (k:Nat) (ov:Value) (tl:List Int),k<=n/\i=.int .i64 k/\TInvN w1 w3 wr g V n k ov tl (iK V R f.nodes k) R) (fun _ _ _ _ _ i _ _=>n - (intOf i).toNat)
    case atStart=>exact ⟨0,_,tl,Nat.zero_le _,rfl,aL.out⟩
    case round =>
     obtain ⟨k,ov,tl,hk,rfl,aj⟩:=hrel;have ai:=aH.out.trans aj.kept;have q0:=ai.cell (p:=⟨w.heap.size,0,none⟩) (v:=.int .i64 V) (by simp);have q1:=ai.cell (p:=⟨w.heap.size,1,none⟩) (v:=.slice a n c) (by simp);have q2:=ai.cell (p:=⟨w.heap.size,2,none⟩) (v:=.int .i64 T) (by simp);by_cases bw:k<n
     ·have du:R.length=V+n:=by rw [aF.out,mr,HN.out]
      have cm:=aj.marks.cell (i:=V+k) (by simp;omega);rw [jh R (V+k) (by omega)] at cm;have bY:iK V R f.nodes (k+1)=if R.getD (V+k) false=true then iK V R f.nodes k++[uu V R (f.nodes.getD k iZ)] else iK V R f.nodes k:=rfl
      have bD:=af bY;clear bY;cases aM:R.getD (V+k) false with
      | false =>
       rw [aM] at cm;have aR:=af aM;have HI:=af aj;clear aM aj ai;go_wp2;go_roundw
       case rel=>exact ⟨k+1,ov,tl,by omega,by go_num,by rw [bD.out,aR.out,if_neg (by simp)];exact HI.out.skip aR.out⟩
       case measure=>simp [intOf];omega
      | true =>
       rw [aM] at cm;have aR:=af aM;have HI:=af aj;clear aM aj;have aS:k<f.nodes.length:=by have:=HN.out;omega
       obtain ⟨b,o,rfl,u,hc1,hc2,bZ,hI⟩:=HX.out k aS;have aA:gO w wr:=(((gO.refl w).alloc (.cells #[.int .i64 V,.slice (some ⟨b,o,none⟩) n c,.int .i64 T] 41)).alloc (.cells #[.int .i64 0,.slice none 0 0,.int .i64 0] 41)).trans ai;have ar:=jL (aA.cell hc1) (aA.cell hc2) (aA.cell bZ);obtain ⟨ax,cx,rfl,_,b_,bE⟩:=hI;have cS:=af ar;clear hc1 hc2 bZ ar;go_wp2_with (with_reducible refine wpList_load_mid rfl 106 _ rfl b (o+k*3) rfl _ _ cS.out Tryz.underlying106 rfl (by kernel_rfl) ?_);obtain ⟨kd,hkd⟩:∃ x,x=f.nodes[k].kind:=⟨_,rfl⟩;obtain ⟨kk,bF⟩:∃ x,x=f.nodes[k].k:=⟨_,rfl⟩;have aw:=HO.out.args k aS;have cd:=me (HO.out.argc k aS);obtain ⟨args,aT⟩:∃ x,x=f.nodes[k].args:=⟨_,rfl⟩;rw [<-aT] at bE aw b_ cd;rw [<-hkd,<-bF,<-aT];obtain ⟨na,bG⟩:∃ x,x=args.length:=⟨_,rfl⟩;rw [<-bG] at b_ cd⊢;have cU:=af hkd;have bj:=af bF;have cV:=af bE;have cW:=af aw;have cX:Hid (∀ a∈args,R.getD a.toNat false=true):=af (by have h:=cF.out k aS (by rw [<-aF.out];exact aR.out);rw [<-aF.out] at h;rw [aT];exact h);have cZ:=af aT;have ci:=af bG;have c_:=af aA;obtain ⟨i0,cj,ck,cn,cq⟩:=info_parts lS;have I0:=af cj;have I1:=af ck;have I2:=af cn;have I3:=af cq;have sz1:w1.heap.size+1<wr.heap.size:=HI.out.row.lt
       obtain ⟨wo,rfl⟩:∃ wo:World,wo=wr:=⟨_,rfl⟩;clear hkd bF aT bE aw bG aA ai cj ck cn cq q0 q1 q2 cm;go_loopw [13,66] (fun _ j wi=>∃ (p:Nat) (uv:Value) (ys:List Int),p<=na/\j=.int .i64 p/\Hid (ys=(args.take p).map (sC V R))/\OwnInts wi (wo.heap.size+2) uv ys/\gS wi (wo.heap.size+1) 106 [.int .i64 kd,.int .i64 kk,uv]/\gO wo wi/\wo.heap.size+2<=wi.heap.size) (fun _ j _=>na - (intOf j).toNat)
       case atStart=>exact ⟨0,.slice none 0 0,[],Nat.zero_le _,rfl,af (by simp),OwnInts.nil _ _,by have:=gS.made (wo.alloc (.cells #[.int .i64 kd,.int .i64 kk,.slice ax na cx] 106)) #[.int .i64 kd,.int .i64 kk,.slice none 0 0] 106;simpa using this,((gO.refl _).alloc _).alloc _,by simp⟩
       case round =>
        obtain ⟨p,uv,ys,hp,rfl,bH,aq,ag,hK,hsz⟩:=hrel;have da:ys.length<=p:=by rw [bH.out,List.length_map,List.length_take];omega
        by_cases dv:p<na
        ·have cr:p<args.length:=by have:=ci.out;omega
         obtain ⟨b2,o2,rfl,ct⟩:=cV.out p cr;have aU:=(c_.out.trans hK).cell ct;obtain ⟨y,hy⟩:∃ y,y=args[p]:=⟨_,rfl⟩;have cu:=cW.out args[p] (List.getElem_mem _);have bI:=cX.out args[p] (List.getElem_mem _);have bJ:=vi V R args p cr;rw [<-hy] at aU cu bI bJ;obtain ⟨Y,hY⟩:=Int.eq_ofNat_of_zero_le cu.1;subst hY;have cw:Y<tl.length:=by rw [HI.out.tlen];omega
         have cT:=hK.cell (HI.out.row.cell (i:=Y) (by simpa using cw));obtain ⟨z,hz⟩:∃ z,z=tl[Y]:=⟨_,rfl⟩;simp only [List.getElem_map] at cT;rw [<-hz] at cT
         have db:Hid (ys++[z]=(args.take (p+1)).map (sC V R)):=af (by
          have h:=HI.out.tren Y (.inr ⟨by omega,bI⟩);have h2:tl.getD Y 0=z:=by rw [hz];simp [List.getD_eq_getElem?_getD,cw]
          rw [bJ,<-bH.out,<-h,h2])
         clear bI bJ;have bi:(Y:Int)<(V:Int)+(n:Int):=by omega
         have bz:(Y:Int)<((V+n:Nat):Int):=by omega
         have cB:=ag.cell (i:=2) (by simp);have fB:=ag.free 2;simp only [List.getElem_cons_succ,List.getElem_cons_zero] at cB;have dd:wo.heap.size+1<wr.heap.size:=by omega
         have de:w1.heap.size+1<wr.heap.size:=by omega
         have aV:=af aq;have bK:=af ag;have HK:=af hK
         have aW:some (wo.heap.size+1)≠uv.ownBlock:=by
          intro e;have:=(aq.1.lt _ e.symm).1;omega
         have aX:=af aW;clear ct hy hz aq ag hK aW;go_wp2;go_region_law ((refine step_append_lies _ (by rfl) _ _ _ (by rfl) (wo.heap.size+2) 3 i0 _ 1 8 Tryz.underlying22 I0.out I1.out I2.out I3.out rfl (by omega) uv ys.length _ (by rfl) ((aV.out.1.alloc _).drew) ⟨wr.heap.size,0,none⟩ 1 1 [.int .i64 z] (by rfl) (by rfl) (World.news_of_block (cs:=#[.int .i64 z]) (t:=3) (fr:=(0,0)) (heap_alloc_new wr _)) (by simp [Value.oneCell']) (by omega) (by unfold maxLen;omega) (by omega) (by simp;omega) (wr.heap.size+1) (by simp) ?_;intro gg cap w5 aY al hat df;have st5:=al.cell (a:=⟨wo.heap.size+1,2,none⟩) (v:=uv) (((gO.refl wr).alloc _).cell cB) aX.out;have sf5:=(World.frozen?_of_block (a:=⟨wo.heap.size+1,2,none⟩) (al.block (wo.heap.size+1) (by simp;omega) aX.out)).trans ((Below.frozen ((gO.refl wr).alloc _) (p:=⟨wo.heap.size+1,2,none⟩) (by simp;omega)).trans fB)));all_goals go_wp2
         all_goals
          have R9:=x_ (o:=.cells #[.int .i64 z] 3) aV.out bK.out HK.out hsz (by omega) aY ⟨al.os,al.tape,al.output,al.size,al.block⟩;go_roundw
          case rel=>exact ⟨p+1,_,_,by omega,by go_num,db,R9.1,R9.2.1,R9.2.2.1,R9.2.2.2⟩
          case measure=>simp [intOf];omega
        ·obtain ⟨ks,bL⟩:∃ ks,ks=iK V R f.nodes k:=⟨_,rfl⟩;have cz:(iK V R f.nodes k).length<=k:=by rw [nL];exact Ck V R k
         have cC:Hid (ks.length=mG V R k):=af (by rw [bL,nL]);have dg:Hid (ys=args.map (sC V R)):=af (by have h:=bH.out;rwa [List.take_of_length_le (by have:=ci.out;omega)] at h);rw [<-bL] at HI bD cz;have dh:=af (show ks.length<1000 by omega);have cD:=(aH.out.trans HI.out.kept).trans hK;have q0:=cD.cell (p:=⟨w.heap.size,0,none⟩) (v:=.int .i64 V) (by simp);have ap:=HI.out.box.kept hK;have c5:=ap.cell (i:=1) (by simp);have f5:=ap.free 1;have bk:=HI.out.row.kept hK;have cT:=bk.cell (i:=V+k) (by simp [HI.out.tlen];omega);have fT:=bk.free (V+k);have bi:(V:Int)+(k:Int)<(V:Int)+(n:Int):=by omega
         have bz:(V:Int)+(k:Int)<((V+n:Nat):Int):=by omega
         have szz:w1.heap.size<wr.heap.size:=by omega
         have aZ:wr.rangeAt (wo.heap.size+1) 0 [.int .i64 kd,.int .i64 kk,uv]:=by
          intro j v hj
          match j,hj with
          | 0,hj=>simp at hj;subst hj;exact ag.cell (i:=0) (by simp)
          | 1,hj=>simp at hj;subst hj;exact ag.cell (i:=1) (by simp)
          | 2,hj=>simp at hj;subst hj;exact ag.cell (i:=2) (by simp)
         simp only [List.getElem_cons_succ,List.getElem_cons_zero] at c5;obtain ⟨oa,oc,bM⟩:=HI.out.own.slice;subst bM;obtain ⟨on,bN⟩:∃ on,on=ks.length:=⟨_,rfl⟩;rw [<-bN] at HI c5 ap cz cC;obtain ⟨ua,un,uc,di⟩:=aq.ints.shape;subst di;have bO:=af (fun x=>sz aZ (p:=w1.heap.size+1) (by omega) (V+k) x);have dw:=af bk;have dx:=af ap;have HK:=af hK;have cE:=af bN;clear aZ bk ap hK cD bL ag bN;have g3:g<w3.heap.size:=cP;have g4:w1.heap.size+1<w3.heap.size:=by omega
         have a_:=(HI.out.own.kept HK.out);have bP:=af (fun x=>((aq.mono (show w3.heap.size<=wo.heap.size+2 by have:=HI.out.size;omega)).belowS (a:=⟨w1.heap.size+1,V+k,none⟩) (by show w1.heap.size+1<_;omega) x).kept ((gO.refl _).alloc (.cells #[.int .i64 kd,.int .i64 kk,.slice ua un uc] 106)));clear aq;have bQ:=af (fun x=>(a_.below (a:=⟨w1.heap.size+1,V+k,none⟩) (by show w1.heap.size+1<_;omega) x).kept ((gO.refl _).alloc (.cells #[.int .i64 kd,.int .i64 kk,.slice ua un uc] 106)))
         have bd:some w1.heap.size≠(Value.slice oa on oc).ownBlock:=by
          intro e;obtain ⟨cells,ho,_⟩:=HI.out.own;have:=(ho.lt _ e.symm).1;omega
         have bf:=af bd;have dj:w3.heap.size<=wr.heap.size:=Nat.le_trans HI.out.size HK.out.size;clear a_ bd
         go_wp2_with (first
          | (with_reducible refine wpList_load_mid rfl 106 _ rfl (wo.heap.size+1) 0 rfl _ _ (bO.out _) Tryz.underlying106 rfl (by kernel_rfl) ?_)
          | (at_builtin;refine He rfl _ _ rfl w3.heap.size _ ks rfl (bQ.out _) _ ⟨kd,kk,ys⟩ (.slice ua un uc) rfl (sy _ _ _ _ _ _ _) (bP.out _) dh.out (by simp [World.setCell];omega) ?_;intro nv w6 ay aJ dy;obtain ⟨xa,xc,rfl⟩:=ay.slice;have bh:=af ay;clear ay;have st5:=aJ.cell (a:=⟨w1.heap.size,1,none⟩) (v:=.slice oa on oc) (((gO.refl _).alloc _).cell (pE c5 (p:=w1.heap.size+1) (by show w1.heap.size≠_;omega) _ _)) bf.out;have sf5:=(World.frozen?_of_block (a:=⟨w1.heap.size,1,none⟩) (aJ.block w1.heap.size (by simp [World.setCell];omega) bf.out)).trans (((gO.refl _).alloc _).free (p:=⟨w1.heap.size,1,none⟩) (by simp [World.setCell];omega) (tz f5 (p:=w1.heap.size+1) (by show w1.heap.size≠_;omega) _ _))))
         have RI:=Dg (y:=⟨kd,kk,ys⟩) HI.out HK.out g4 cQ g3 bw (cE.out ▸ cC.out) bh.out (by rw [<-cE.out];exact ⟨aJ.os,aJ.tape,aJ.output,aJ.size,aJ.block⟩);rw [show (ks++[(⟨kd,kk,ys⟩:Nd)]).length=ks.length+1 by simp] at RI;go_roundw
         case rel=>exact ⟨k+1,_,_,by omega,by go_num,by rw [bD.out,aR.out,if_pos rfl,show uu V R (f.nodes.getD k iZ)=⟨kd,kk,ys⟩ by unfold uu;rw [cU.out,bj.out,dg.out,cZ.out];simp [List.getD_eq_getElem?_getD,aS]];exact RI⟩
         case measure=>simp [intOf];omega
     ·have e:k=n:=by omega
      subst e;obtain ⟨oa,oc,bM⟩:=aj.own.slice;subst bM;have ap:=aj.box;have c0:=ap.cell (i:=0) (by simp);have c1:=ap.cell (i:=1) (by simp);have c2:=ap.cell (i:=2) (by simp);have f2:=ap.free 2;have aQ:T<tl.length:=by rw [aj.tlen];omega
      obtain ⟨zt,aI⟩:∃ zt:Int,zt=tl[T]:=⟨_,rfl⟩;have cT:wr.cell? ⟨w1.heap.size+1,T,none⟩=some (.int .i64 zt):=by have:=aj.row.cell (i:=T) (by simpa using aQ);rw [List.getElem_map] at this;rw [aI];exact this
      have bC:Hid (zt=sC V R (T:Int)):=af (by have h:=aj.tren T (.inr ⟨by omega,by rw [aF.out];exact cG.out⟩);rw [aI,<-h];simp [List.getD_eq_getElem?_getD,aQ]);clear aI;have bi:(T:Int)<(V:Int)+(k:Int):=by omega
      have bz:(T:Int)<((V+k:Nat):Int):=by omega
      have ah:gS wr (w.heap.size+1) 41 [.int .i64 0,.slice none 0 0,.int .i64 0]:=by
       have:=(gS.made (w.alloc (.cells #[.int .i64 V,.slice a k c,.int .i64 T] 41)) #[.int .i64 0,.slice none 0 0,.int .i64 0] 41).kept ai;simpa using this
      have r0:=ah.cell (i:=0) (by simp);have r1:=ah.cell (i:=1) (by simp);have r2:=ah.cell (i:=2) (by simp);have s0:=ah.free 0;have s1:=ah.free 1;have s2:=ah.free 2;simp only [List.getElem_cons_succ,List.getElem_cons_zero] at r0 r1 r2;simp only [List.getElem_cons_succ,List.getElem_cons_zero] at c0 c1 c2;have HI:=af aj;have ne1:w1.heap.size≠w.heap.size+1:=by omega
      have ne2:w.heap.size+1≠w1.heap.size:=by omega
      clear aj ap ah;go_wp2;refine bodyPost_ret (v:=.tuple #[.agg #[.int .i64 V,.slice oa (iK V R f.nodes k).length oc,.int .i64 zt],.nilIface]) ?_ rfl ⟨.slice oa (iK V R f.nodes k).length oc,?_,?_,?_⟩
      ·simp [results,Tryz.results81,go_sem,r0,r1,r2]
      ·rw [<-aF.out,<-bC.out]
      ·rw [<-aF.out];have h3:w1.heap.size+1<w3.heap.size:=by omega
       exact ((((HI.out.own.below (a:=⟨w1.heap.size,2,none⟩) (by show w1.heap.size<_;omega) _).below (a:=⟨w.heap.size+1,0,none⟩) (by show w.heap.size+1<_;omega) _).below (a:=⟨w.heap.size+1,1,none⟩) (by show w.heap.size+1<_;omega) _).below (a:=⟨w.heap.size+1,2,none⟩) (by show w.heap.size+1<_;omega) _).nodes.mono (by omega)
      ·have aA:gO w wr:=(((gO.refl w).alloc _).alloc _).trans ai;exact (((aA.store (by omega) _ _).store (by omega) _ _).store (by omega) _ _).store (by omega) _ _
theorem y_ (k:Int) (hk:k=0\/k=1) (ua:Option Addr) (un uc:Nat) (v:Value) (fams:List (List Nat)) (w:World) :
  Calls Tryz.prog 82 #[.agg #[.int .i64 0,.int .i64 k,.slice ua un uc],v] w fun e w'=>kP w' 0 e (jy 0 k fams)/\gO w w':=by
 rcases hk with rfl | rfl
 ·go_enter Tryz.func82,Tryz.ntmps82;go_wp2;go_ret2;refine ⟨⟨_,rfl,?_⟩,((gO.refl _).alloc _).alloc _⟩;have:=hC.one (w.alloc (.cells #[.int .i64 0,.int .i64 0,.slice ua un uc] 106)) 0 0 (by unfold Mk;omega) (Nat.zero_le _);simpa using this
 ·go_enter Tryz.func82,Tryz.ntmps82;go_wp2;go_ret2;exact ⟨⟨_,rfl,hC.nil _ _⟩,(gO.refl _).alloc _⟩
theorem Gg (k:Int) (ua:Option Addr) (un uc:Nat) (v:Value) (fams:List (List Nat)) (w:World) (hv:mm w v fams) :
  Calls Tryz.prog 82 #[.agg #[.int .i64 3,.int .i64 k,.slice ua un uc],v] w fun e w'=>kP w' 0 e (jo h_ [0] fams)/\gO w w':=by
 have h:∀ W,gO w W->Calls Tryz.prog 137 #[v] W fun e w'=>kP w' W.heap.size e (jo h_ [0] fams)/\gO W w':=fun W hk=>Io v fams W (hv.kept hk)
 obtain ⟨r,hr⟩:∃ r,r=jo h_ [0] fams:=⟨_,rfl⟩;rw [<-hr] at h⊢;have H:=af h;clear hr hv h;cases r with
 | none =>
  go_enter Tryz.func82,Tryz.ntmps82;go_wp2_with (go_at_call 137;refine (H.out _ ((gO.refl _).alloc _)).mono ?_;rintro e w5 ⟨he,ag⟩;unfold kP at he;subst he;rw [iF (show (4:Nat)≠0 by decide)]);go_ret2;exact ⟨rfl,((gO.refl _).alloc _).trans ag⟩
 | some l =>
  go_enter Tryz.func82,Tryz.ntmps82;go_wp2_with (go_at_call 137;refine (H.out _ ((gO.refl _).alloc _)).mono ?_;rintro e w5 ⟨⟨v5,rfl,ah⟩,ag⟩);go_ret2;exact ⟨⟨_,rfl,ah.mono (Nat.zero_le _)⟩,((gO.refl _).alloc _).trans ag⟩
theorem DI (k:Int) (ua:Option Addr) (un uc:Nat) (v:Value) (fams:List (List Nat)) (w:World) (hv:mm w v fams) :
  Calls Tryz.prog 82 #[.agg #[.int .i64 2,.int .i64 k,.slice ua un uc],v] w fun e w'=>kP w' 0 e (jo iN [] fams)/\gO w w':=by
 have h:∀ W,gO w W->Calls Tryz.prog 138 #[v] W fun e w'=>kP w' W.heap.size e (jo iN [] fams)/\gO W w':=fun W hk=>FS v fams W (hv.kept hk)
 obtain ⟨r,hr⟩:∃ r,r=jo iN [] fams:=⟨_,rfl⟩;rw [<-hr] at h⊢;have H:=af h;clear hr hv h;cases r with
 | none =>
  go_enter Tryz.func82,Tryz.ntmps82;go_wp2_with (go_at_call 138;refine (H.out _ ((gO.refl _).alloc _)).mono ?_;rintro e w5 ⟨he,ag⟩;unfold kP at he;subst he;rw [iF (show (4:Nat)≠0 by decide)]);go_ret2;exact ⟨rfl,((gO.refl _).alloc _).trans ag⟩
 | some l =>
  go_enter Tryz.func82,Tryz.ntmps82;go_wp2_with (go_at_call 138;refine (H.out _ ((gO.refl _).alloc _)).mono ?_;rintro e w5 ⟨⟨v5,rfl,ah⟩,ag⟩);go_ret2;exact ⟨⟨_,rfl,ah.mono (Nat.zero_le _)⟩,((gO.refl _).alloc _).trans ag⟩
theorem A' (k:Nat) (ua:Option Addr) (un uc:Nat) (v:Value) (fams:List (List Nat)) (w:World) (hv:mm w v fams) (h1:1<=k) (h2:k<=fams.length) (hl:fams.length<=900) :
  Calls Tryz.prog 82 #[.agg #[.int .i64 4,.int .i64 k,.slice ua un uc],v] w fun e w'=>kP w' 0 e (kT fams (fams.length - k+1))/\gO w w':=by
 obtain ⟨m,hm⟩:∃ m,m=fams.length - k+1:=⟨_,rfl⟩;have h:∀ W,gO w W->Calls Tryz.prog 139 #[v,.int .i64 m] W fun e w'=>kP w' 0 e (kT fams m)/\gO W w':=fun W hk=>DN v fams m W (hv.kept hk) (by omega) (by omega)
 rw [<-hm];obtain ⟨r,hr⟩:∃ r,r=kT fams m:=⟨_,rfl⟩;rw [<-hr] at h⊢;obtain ⟨va,vc,rfl,_⟩:=hv;obtain ⟨n,hn⟩:∃ n,n=fams.length:=⟨_,rfl⟩;rw [<-hn] at h hm h2 hl⊢;have ag:(n:Int) - (k:Int)+1=(m:Int):=by omega
 have HM:=af ag;have H:Hid (∀ W,gO w W->Calls Tryz.prog 139 #[.slice va n vc,.int .i64 ((n:Int) - (k:Int)+1)] W fun e w'=>kP w' 0 e r/\gO W w'):=af (by rw [ag];exact h);clear hr h hm ag hn;cases r with
 | none =>
  go_enter Tryz.func82,Tryz.ntmps82;go_wp2_with (go_at_call 139;refine (H.out _ ((gO.refl _).alloc _)).mono ?_;rintro e w5 ⟨he,ah⟩;unfold kP at he;subst he;rw [iF (show (4:Nat)≠0 by decide)]);go_ret2;exact ⟨rfl,((gO.refl _).alloc _).trans ah⟩
 | some l =>
  go_enter Tryz.func82,Tryz.ntmps82;go_wp2_with (go_at_call 139;refine (H.out _ ((gO.refl _).alloc _)).mono ?_;rintro e w5 ⟨⟨v5,rfl,ai⟩,ah⟩);go_ret2;exact ⟨⟨_,rfl,ai⟩,((gO.refl _).alloc _).trans ah⟩
theorem DJ (kind k:Int) (ua:Option Addr) (un uc:Nat) (v:Value) (fams:List (List Nat)) (w:World) (hv:mm w v fams) (h0:kind=0->k=0\/k=1) (h4:kind=4->1<=k/\k<=fams.length) (hl:fams.length<=900)
  (hk:kind=0\/kind=2\/kind=3\/kind=4) :
  Calls Tryz.prog 82 #[.agg #[.int .i64 kind,.int .i64 k,.slice ua un uc],v] w fun e w'=>kP w' 0 e (jy kind k fams)/\gO w w':=by
 rcases hk with rfl | rfl | rfl | rfl
 ·exact y_ k (h0 rfl) ua un uc v fams w
 ·rw [show jy 2 k fams=jo iN [] fams by unfold jy;rw [if_neg (by decide),if_pos rfl]];exact DI k ua un uc v fams w hv
 ·rw [show jy 3 k fams=jo h_ [0] fams by unfold jy;rw [if_neg (by decide),if_neg (by decide),if_pos rfl]];exact Gg k ua un uc v fams w hv
 ·obtain ⟨kk,ag⟩:=Int.eq_ofNat_of_zero_le (show 0<=k by have:=h4 rfl;omega);subst ag;have h5:=h4 rfl;rw [show jy 4 (kk:Int) fams=kT fams (fams.length - kk+1) by unfold jy;rw [if_neg (by decide),if_neg (by decide),if_neg (by decide)];rfl];exact A' kk ua un uc v fams w hv (by omega) (by omega) hl
def kD (V T:Nat) (nodes:List Nd):Option (List Nat):=(mT V (iK V (io V T nodes) nodes nodes.length)).map fun l=>l.getD (sC V (io V T nodes) (T:Int)).toNat []
theorem Dp {ops:Array Oper} {rest:List Oper} {o:Oper} {a:Act} {Q:Exit->Act->World->Prop} {w:World} (hg:o.guard=none) (l c:Operand)
  (ah:o.op=Op.makeSlice 104 l c) (m:Nat) (hl:a.eval l=.int .i64 0) (hc:a.eval c=.int .i64 m) (hb:m<=1000000)
  (hK:∀ w',OwnFams w' w.heap.size (.slice (some ⟨w.heap.size,0,none⟩) 0 m) []->gO w w'->wpList Tryz.prog ops Q rest (a.put o.dst (.slice (some ⟨w.heap.size,0,none⟩) 0 m)) w'):wpList Tryz.prog ops Q (o :: rest) a w:=by
 obtain ⟨i0,ai,aj,al,am⟩:=info_parts rp;refine wpList_plain hg fun K hK'=>?_
 have ag:=run_make (P:=Tryz.prog) w 104 22 i0 _ Tryz.underlying104 ai aj .i64 .i64 0 m (by omega) (by omega) (by rw [am];omega) (by omega);simp only [Int.toNat_natCast] at ag;obtain ⟨w',hw'⟩:∃ w',w'=w.alloc (.cells (madeCells (Value.slice none 0 0).cells (m*i0.size)) 22):=⟨_,rfl⟩;rw [<-hw'] at ag;unfold Oper.wp;simp [execOp,ah,hl,hc,ag,Result.andThen];subst hw';refine hK' _ _ (hK _ ?_ ((gO.refl _).alloc _));refine ⟨[],rfl,⟨by simp,.inr ⟨w.heap.size,m,_,by simp,Nat.le_refl _,heap_alloc_new w _,by simp,by unfold maxLen;omega,by rw [size_madeCells,al],by simp⟩⟩,by simp,fun i h=>by simp at h⟩
theorem DH (v:Value) (f:Fm) (V T:Nat) (w:World) (hv:ii w v f.nodes) (ah:Ok f V T) (ai:jP f=0) :
  Calls Tryz.prog 80 #[.agg #[.int .i64 V,v,.int .i64 T]] w fun e w'=>e=.returned (iV (if kt V T f=true then 0 else 7))/\gO w w':=by
 have H:=af (fun W (hk:gO w W)=>pj v f V T W (hv.kept hk) ah ai);obtain ⟨a,n,c,rfl⟩:∃ a n c,v=.slice a n c:=by obtain ⟨a,c,h,_⟩:=hv;exact ⟨a,_,c,h⟩
 clear hv ah ai;cases hs:kt V T f with
 | true =>
  rw [hs] at H;rw [if_pos rfl];clear hs;go_enter Tryz.func80,Tryz.ntmps80;go_wp2_with (go_at_call 124;refine (H.out _ ((gO.refl _).alloc _)).mono ?_;rintro e w1 ⟨rfl,ag⟩);go_ret;exact ⟨rfl,((gO.refl _).alloc _).trans ag⟩
 | false =>
  rw [hs] at H;rw [if_neg (by simp)];clear hs;go_enter Tryz.func80,Tryz.ntmps80;go_wp2_with (go_at_call 124;refine (H.out _ ((gO.refl _).alloc _)).mono ?_;rintro e w1 ⟨rfl,ag⟩);go_ret;exact ⟨rfl,((gO.refl _).alloc _).trans ag⟩
theorem xP {V k:Nat} (h:k<V):(jj V).take (k+1)=(jj V).take k++[[2^k]]:=by
 rw [List.take_succ_eq_append_getElem (by simpa [jj] using h)];simp [jj]
theorem oS (V:Nat):(jj V).length=V:=by simp [jj]
theorem ql {V:Nat} {nodes:List Nd} {k:Nat} (hk:k<nodes.length):mT V (nodes.take (k+1))=(mT V (nodes.take k)).bind fun l=>mC l nodes[k]:=by
 unfold mT;rw [List.take_succ_eq_append_getElem hk,List.foldlM_append];simp [Option.bind_eq_bind]
theorem BJ {V:Nat} {nodes:List Nd} {k:Nat} (h:mT V (nodes.take k)=none):mT V nodes=none:=by
 unfold mT at *;rw [<-List.take_append_drop k nodes,List.foldlM_append,h];rfl
theorem xS {l r:List (List Nat)} {x:Nd} (h:mC l x=some r):r.length=l.length+1:=by
 unfold mC at h;obtain ⟨u,_,rfl⟩:=Option.map_eq_some_iff.1 h;simp
theorem Ek {V:Nat} {nodes:List Nd}:∀ k,k<=nodes.length->∀ l,mT V (nodes.take k)=some l->l.length=V+k:=by
 intro k;induction k with
 | zero=>intro _ l h;cases h;rw [oS];rfl
 | succ k ih =>
  intro hk l h;rw [ql (by omega)] at h;obtain ⟨u,hu,h⟩:=Option.bind_eq_some_iff.1 h;rw [xS h,ih (by omega) u hu];omega
theorem zP {V:Nat} {nodes:List Nd}:∀ k,k<=nodes.length->∀ l,mT V (nodes.take k)=some l->∀ x∈l,x.length<=1024:=by
 intro k;induction k with
 | zero =>
  intro _ l h x hx;cases h;unfold jj at hx;obtain ⟨i,_,rfl⟩:=List.mem_map.1 hx;simp
 | succ k ih =>
  intro hk l h x hx;rw [ql (by omega)] at h;obtain ⟨u,hu,h⟩:=Option.bind_eq_some_iff.1 h;unfold mC at h;obtain ⟨y,hy,rfl⟩:=Option.map_eq_some_iff.1 h;rcases List.mem_append.1 hx with hx | hx
  ·exact ih (by omega) u hu x hx
  ·rw [List.mem_singleton] at hx;rw [hx];exact (sp hy).2
structure Ka (V:Nat) (nodes:List Nd) (top:Int):Prop where
 v24:V<=24
 n128:nodes.length<=128
 top:0<=top/\top<(V:Int)+nodes.length
 args:∀ i (h:i<nodes.length),∀ a∈nodes[i].args,0<=a/\a<(V:Int)+i
 argl:∀ i (h:i<nodes.length),nodes[i].args.length<=16
 kind:∀ i (h:i<nodes.length),nodes[i].kind=0\/nodes[i].kind=2\/nodes[i].kind=3\/nodes[i].kind=4
 zero:∀ i (h:i<nodes.length),nodes[i].kind=0->nodes[i].k=0\/nodes[i].k=1
 vote:∀ i (h:i<nodes.length),nodes[i].kind=4->1<=nodes[i].k/\nodes[i].k<=nodes[i].args.length
theorem Ba (v:Value) (f:Fm) (V T:Nat) (w:World) (hv:ii w v f.nodes) (bq:Ok f V T) (br:jP f=0) (hs:kt V T f=true) (ht:Ka V (iK V (io V T f.nodes) f.nodes f.nodes.length) (sC V (io V T f.nodes) (T:Int))) :
  Calls Tryz.prog 36 #[.agg #[.int .i64 V,v,.int .i64 T]] w fun e w'=>kP w' 0 e (kD V T f.nodes)/\gO w w':=by
 have ct:Hid (∀ W,gO w W->Calls Tryz.prog 80 #[.agg #[.int .i64 V,v,.int .i64 T]] W fun e w'=>e=.returned .nilIface/\gO W w'):=af fun W hk=>by
  have h:=DH v f V T W (hv.kept hk) bq br;rw [hs,if_pos rfl,kj] at h;exact h
 have bQ:=af (fun W (hk:gO w W)=>Em v f V T W (hv.kept hk) bq br);obtain ⟨r,hr⟩:∃ r,r=kD V T f.nodes:=⟨_,rfl⟩;rw [<-hr];unfold kD at hr;obtain ⟨nds,aL⟩:∃ nds,nds=iK V (io V T f.nodes) f.nodes f.nodes.length:=⟨_,rfl⟩;obtain ⟨top,aM⟩:∃ top,top=sC V (io V T f.nodes) (T:Int):=⟨_,rfl⟩;rw [<-aL,<-aM] at hr bQ ht;obtain ⟨T2,rfl⟩:=Int.eq_ofNat_of_zero_le ht.top.1;have HR:=af hr;have HT:=af ht;obtain ⟨va,vn,vc,rfl⟩:∃ a n c,v=.slice a n c:=by obtain ⟨a,c,h,_⟩:=hv;exact ⟨a,_,c,h⟩
 obtain ⟨m,hm⟩:∃ m,m=nds.length:=⟨_,rfl⟩;have HM:=af hm;have cu:=ht.v24;have bR:m<=128:=by rw [hm];exact ht.n128
 have di:T2<V+m:=by have:=ht.top.2;omega
 obtain ⟨w1,a_⟩:∃ w1,w1=w.alloc (.cells #[.int .i64 V,.slice va vn vc,.int .i64 T] 41):=⟨_,rfl⟩;have bt:=gS.made w #[.int .i64 V,.slice va vn vc,.int .i64 T] 41;rw [<-a_] at bt;have bw:=af bt;have bS:Hid (gO w w1):=af (by rw [a_];exact (gO.refl w).alloc _);have cw:=af a_;clear hv bq br hs ht hr aL aM hm a_ bt;go_enter Tryz.func36,Tryz.ntmps36;go_wp2_with fail;rw [<-cw.out];refine (ct.out _ bS.out).mono ?_;rintro e w2 ⟨rfl,aN⟩;have bT:=af (bS.out.trans aN);have b0:=(bw.out.kept aN).cell (i:=0) (by simp);have b1:=(bw.out.kept aN).cell (i:=1) (by simp);have b2:=(bw.out.kept aN).cell (i:=2) (by simp);simp only [List.getElem_cons_succ,List.getElem_cons_zero] at b0 b1 b2;clear aN;go_wp2_with fail;refine (bQ.out _ bT.out).mono ?_;rintro e w3 ⟨tv,rfl,bd,bU⟩;have cz:=af (bT.out.trans bU);obtain ⟨ta,tc,rfl⟩:=bd.slice;rw [<-HM.out] at bd⊢;obtain ⟨_,_,etv,_,_,hx⟩:=bd.at
 have HX:Hid (∀ i (h:i<nds.length),∃ b o,ta=some ⟨b,o,none⟩/\∃ u,w3.cell? ⟨b,o+i*3,none⟩=some (.int .i64 nds[i].kind)/\w3.cell? ⟨b,o+i*3+1,none⟩=some (.int .i64 nds[i].k)/\w3.cell? ⟨b,o+i*3+2,none⟩=some u/\gU w3 u nds[i].args):=af (by
  cases etv;intro i hi;obtain ⟨b,o,h1,u,h2,h3,h4,h5⟩:=hx i hi;exact ⟨b,o,h1,u,h2,h3,h4,h5⟩)
 clear bd hx etv b0 b1 b2;obtain ⟨w4,bf⟩:∃ w4,w4=w3.alloc (.cells #[.int .i64 V,.slice ta m tc,.int .i64 T2] 41):=⟨_,rfl⟩;have aO:=gS.made w3 #[.int .i64 V,.slice ta m tc,.int .i64 T2] 41;rw [<-bf] at aO;have cC:=af aO;have aP:Hid (gO w3 w4):=af (by rw [bf];exact (gO.refl w3).alloc _);have bV:=af (cz.out.trans aP.out);have cD:=af bf;have b0:=aO.cell (i:=0) (by simp);have b1:=aO.cell (i:=1) (by simp);simp only [List.getElem_cons_succ,List.getElem_cons_zero] at b0 b1;clear bf aO bU;go_wp2_with (rw [<-cD.out];at_make;refine Dp rfl _ _ rfl (V+m) rfl (by show Value.int .i64 ((V:Int)+m)=.int .i64 ((V+m:Nat):Int);rw [Int.natCast_add]) (by omega) ?_;intro w5 bW bz;have cE:=af bW;have bA:=af bz;have c0:=bz.cell b0;clear bW bz);go_loopg [7,38] V (fun kx s7 s38 wr=>∃ k:Nat,k<=V/\s38=.int .i64 k/\V - k<=kx/\Hid (OwnFams wr w4.heap.size s7 ((jj V).take k))/\Hid (gO w4 wr))
 case atStart=>exact ⟨0,Nat.zero_le _,rfl,by omega,cE,bA⟩
 case round =>
  obtain ⟨k,hk,rfl,dj,HO,bh⟩:=hrel;by_cases cF:k<V
  ·have cG:(k:Int)<(V:Int):=by omega
   have bB:=af (xP cF);have cH:Hid (((jj V).take k).length<=24):=af (by rw [List.length_take,oS];omega);have hz:=bh.out.size;go_wp2_with (at_builtin;refine qr rfl _ _ rfl w4.heap.size _ ((jj V).take k) rfl (HO.out.kept (((gO.refl _).alloc _).alloc _)) _ _ [2^k] rfl (by simp) ((hC.shl wr k (by omega)).kept ((gO.refl _).alloc _)) (by have:=cH.out;omega) (by simp;omega) ?_;intro nv' w7 az cI bX;have O7:=af az;have bY:=af (((bh.out.alloc _).alloc _).app (bX.mono (by simp)));clear az cI bX);go_roundg (V - (k+1))
   case measure=>omega
   case rel=>exact ⟨k+1,by omega,by go_num,Nat.le_refl _,af (by rw [bB.out];exact O7.out),bY⟩
  ·have cG:¬ (k:Int)<(V:Int):=by omega
   have cJ:Hid (OwnFams wr w4.heap.size u7 (jj V)):=af (by
    have h:=HO.out
    rwa [List.take_of_length_le (by rw [oS];omega)] at h)
   have d1:=bh.out.cell b1;obtain ⟨w6,rfl⟩:∃ w6:World,w6=wr:=⟨_,rfl⟩;clear HO;go_wp2_with fail;go_loopg [7,51] m (fun kx s7 s51 wq=>∃ (j:Nat) (l:List (List Nat)),j<=m/\s51=.int .i64 j/\m - j<=kx/\Hid (mT V (nds.take j)=some l)/\Hid (OwnFams wq w4.heap.size s7 l)/\Hid (gO w4 wq))
   case atStart=>exact ⟨0,jj V,Nat.zero_le _,rfl,by omega,af rfl,cJ,bh⟩
   case round =>
    obtain ⟨j,l,hj,rfl,dl,HL,aQ,aR⟩:=hrel;have bZ:=Ek j (by have:=HM.out;omega) l HL.out;have bC:=af bZ;clear bZ;by_cases dm:j<m
    ·have cK:(j:Int)<(m:Int):=by omega
     have aF:j<nds.length:=by have:=HM.out;omega
     obtain ⟨b,o,rfl,u,hc1,hc2,b_,hI⟩:=HX.out j aF;have am:=aP.out.trans aR.out;have ag:=jL (am.cell hc1) (am.cell hc2) (am.cell b_);have cL:=hI.kept am;obtain ⟨ax,cx,rfl,_,bD,bi⟩:=cL;have aJ:=ql (V:=V) aF;rw [HL.out] at aJ;simp only [Option.bind_some] at aJ;have ah:=HT.out.args j aF;have ap:=HT.out.argl j aF;have ai:=HT.out.kind j aF;have aj:=HT.out.zero j aF;have al:=HT.out.vote j aF;obtain ⟨x,cd⟩:∃ x,x=nds[j]:=⟨_,rfl⟩;rw [<-cd] at ag bi bD aJ ah ap ai aj al;obtain ⟨kd,kk,args⟩:=x;simp only at ag bi bD aJ ah ap ai aj al;obtain ⟨na,bE⟩:∃ na,na=args.length:=⟨_,rfl⟩;rw [<-bE] at bD ag ap;have bF:=af bE;have cM:=af ag;have cN:=af bi;have bB:=af aJ;have cO:=af ah;have cP:=af ai;have cQ:=af aj;have cR:=af al;obtain ⟨w7,bj⟩:∃ w7,w7=wr.alloc (.cells #[.int .i64 kd,.int .i64 kk,.slice ax na cx] 106):=⟨_,rfl⟩;have bk:=gS.made wr #[.int .i64 kd,.int .i64 kk,.slice ax na cx] 106;rw [<-bj] at bk;have aS:Hid (gO wr w7):=af (by rw [bj];exact (gO.refl wr).alloc _);have bY:=af (aR.out.trans aS.out);have cS:=af bk;have cU:=af bj;have e2:=bk.cell (i:=2) (by simp);simp only [List.getElem_cons_succ,List.getElem_cons_zero] at e2
     clear hc1 hc2 b_ hI ag bi aJ ah ai aj al cd bE bj bk am;go_wp2_with (with_reducible refine wpList_load_mid rfl 106 _ rfl b (o+j*3) rfl _ _ cM.out Tryz.underlying106 rfl (by kernel_rfl) ?_);rw [<-cU.out];obtain ⟨wo,rfl⟩:∃ wo:World,wo=wr:=⟨_,rfl⟩;go_loopg [11,58] na (fun px s11 s58 wi=>∃ (p:Nat) (acc:List (List Nat)),p<=na/\s58=.int .i64 p/\na - p<=px/\Hid (acc=(args.take p).map fun a=>l.getD a.toNat [])/\Hid (OwnFams wi w7.heap.size s11 acc)/\Hid (gO w7 wi))
     case atStart=>exact ⟨0,[],Nat.zero_le _,rfl,by omega,af rfl,af (OwnFams.nil _ _),af (gO.refl _)⟩
     case round =>
      obtain ⟨p,acc,hp,rfl,dp,HA,ci,bl⟩:=hrel;have aq:=af (aS.out.trans bl.out);by_cases dq:p<na
      ·have cj:p<args.length:=by have:=bF.out;omega
       have cV:(p:Int)<(na:Int):=by omega
       obtain ⟨b2,o2,rfl,ck⟩:=cN.out p cj;have aT:=aq.out.cell ck;obtain ⟨y,hy⟩:∃ y,y=args[p]:=⟨_,rfl⟩;have cn:=cO.out args[p] (List.getElem_mem _);rw [<-hy] at aT cn;obtain ⟨Y,hY⟩:=Int.eq_ofNat_of_zero_le cn.1;subst hY;have bo:Y<l.length:=by rw [bC.out];omega
       have aU:((args.take (p+1)).map fun a=>l.getD a.toNat [])=acc++[l[Y]'bo]:=by
        rw [List.take_succ_eq_append_getElem cj,List.map_append,<-HA.out,<-hy];simp [List.getD_eq_getElem?_getD,bo]
       have cW:=af aU.symm;obtain ⟨g,cap,he,bG,bH,hcap⟩:=aQ.out.shape (by intro e;rw [e] at bo;simp at bo);subst he;obtain ⟨uz,aV,aW⟩:=aQ.out.cell Y bo;have cX:=aq.out.cell aV;have aG:=aW.kept aq.out;obtain ⟨za,zn,zc,rfl⟩:=aG.1.ints.shape;have cZ:=af aG;have dr:(0:Int)<=(Y:Int):=by omega
       have dt:(Y:Int)<(l.length:Int):=by omega
       have aX:acc.length<=16:=by rw [HA.out,List.length_map,List.length_take];omega
       have bI:=af aX;have du:=bl.out.size;clear ck hy aU aG aV aW bG bH hcap aX;go_wp2_with (at_builtin;refine qr rfl _ _ rfl w7.heap.size _ acc rfl (ci.out.kept ((gO.refl _).alloc _)) _ _ (l[Y]'bo) rfl (by simp) (cZ.out.kept ((gO.refl _).alloc _)) (by have:=bI.out;omega) (by simp;omega) ?_;intro nv' w8 aA c_ cq;have O8:=af aA;have aB:=af ((bl.out.alloc _).app (cq.mono (by simp)));clear aA c_ cq);go_roundg (na - (p+1))
       case measure=>omega
       case rel=>exact ⟨p+1,_,by omega,by go_num,Nat.le_refl _,cW,O8,aB⟩
      ·have cV:¬ (p:Int)<(na:Int):=by omega
       have ar:acc=args.map fun a=>l.getD a.toNat []:=by rw [HA.out,List.take_of_length_le (by have:=bF.out;omega)]
       have aH:acc.length=args.length:=by rw [ar];simp
       have aC:∀ W,gO wr W->Calls Tryz.prog 82 #[.agg #[.int .i64 kd,.int .i64 kk,.slice ax na cx],u11] W fun e w'=>kP w' 0 e (jy kd kk acc)/\gO W w':=fun W bJ=>DJ kd kk ax na cx u11 acc W (ci.out.at.kept bJ) cQ.out (fun h=>by rw [aH];exact cR.out h) (by rw [aH,<-bF.out];omega) cP.out
       have aY:mT V (nds.take (j+1))=(jy kd kk acc).map fun r=>l++[r]:=by
        rw [bB.out];unfold mC;rw [<-ar]
       have bK:=af aC;have aI:=af aY;have bp:=cS.out.kept bl.out;have g0:=bp.cell (i:=0) (by simp);have g1:=bp.cell (i:=1) (by simp);have g2:=bp.cell (i:=2) (by simp);simp only [List.getElem_cons_succ,List.getElem_cons_zero] at g0 g1 g2;have aZ:=af (aR.out.trans aq.out);obtain ⟨z,hz⟩:∃ z,z=jy kd kk acc:=⟨_,rfl⟩;rw [<-hz] at bK aI;clear ar aH aC aY bp hz;cases z with
       | none =>
        have da:Hid (r=none):=af (by
         rw [HR.out,BJ aI.out];rfl)
        go_wp2_with fail;refine (bK.out _ (gO.refl _)).mono ?_;rintro e w8 ⟨he,aw⟩;unfold kP at he;subst he;have aB:=af (bV.out.trans (aZ.out.trans aw));clear aw g0 g1 g2;rw [iF (show (4:Nat)≠0 by decide)];go_wp2;go_ret2;exact ⟨by rw [da.out];rfl,aB.out⟩
       | some y =>
        go_wp2_with fail;refine (bK.out _ (gO.refl _)).mono ?_;rintro e w8 ⟨⟨v8,rfl,aK⟩,aw⟩;have aB:=af (aZ.out.trans aw);have bL:=af (aQ.out.kept (aq.out.trans aw));have bM:=af aK;have dv:=aB.out.size;have bN:l.length<1000000:=by rw [bC.out];omega
        obtain ⟨za,zn,zc,rfl⟩:=aK.1.ints.shape;clear aw g0 g1 g2 aK;go_wp2_with (at_builtin;refine qr rfl _ _ rfl w4.heap.size _ l rfl (bL.out.kept ((gO.refl _).alloc _)) _ _ y rfl (by simp) (bM.out.kept ((gO.refl _).alloc _)) bN (by simp;omega) ?_;intro nv' w9 aD db cr;have O9:=af aD;have dd:=af ((aB.out.alloc _).app (cr.mono (by simp)));clear aD db cr);go_roundg (m - (j+1))
        case measure=>omega
        case rel=>exact ⟨j+1,_,by omega,by go_num,Nat.le_refl _,aI,O9,dd⟩
    ·have cK:¬ (j:Int)<(m:Int):=by omega
     have ay:T2<l.length:=by rw [bC.out];omega
     have de:Hid (r=some (l.getD T2 [])):=af (by
      have h:=HL.out;rw [List.take_of_length_le (by have:=HM.out;omega)] at h;rw [HR.out,h];rfl)
     obtain ⟨g,cap,he,bG,bH,hcap⟩:=aQ.out.shape (by intro e;rw [e] at ay;simp at ay);subst he;obtain ⟨uz,cX,aG⟩:=aQ.out.cell T2 ay;have df:=(cC.out.kept aR.out).cell (i:=2) (by simp);simp only [List.getElem_cons_succ,List.getElem_cons_zero] at df;have dg:Hid (Calls Tryz.prog 83 #[uz] wr fun e w'=>(∃ v',e=.returned v'/\OwnInts w' wr.heap.size v' (ib l[T2]))/\gO wr w'):=af ((vv uz (ib l[T2]) wr aG.1.ints (by have:=zP j (by have:=HM.out;omega) l HL.out l[T2] (List.getElem_mem _);simp [ib];omega)).mono fun e w' ⟨v',h1,h2,h3⟩=>⟨⟨v',h1,h2⟩,h3⟩);have bO:Hid (∀ x∈l[T2],Mk x):=af aG.2;have dh:Hid (l.getD T2 []=l[T2]):=af (by simp [List.getD_eq_getElem?_getD,ay]);have h0:(0:Int)<=(T2:Int):=by omega
     have h1:(T2:Int)<(l.length:Int):=by omega
     have bP:=af (bV.out.trans aR.out);clear aG bG bH hcap;go_wp2_with fail;refine dg.out.mono ?_;rintro e w8 ⟨⟨v8,rfl,aK⟩,aw⟩;have aB:=af (bP.out.trans aw);have bM:=af aK;clear aw aK;go_wp2;go_ret2;exact ⟨by rw [de.out,dh.out];exact ⟨_,rfl,bM.out.mono (Nat.zero_le _),bO.out⟩,aB.out⟩
section
open Go.RowKit Go.ChangeShapes Go.WideShapes Go.ChangeAt Go.Joins Go.Deep
theorem rd (V s t:Nat) (nodes:List Nd) (h:∀ i,i<V->s.testBit i=t.testBit i):∀ k,jf V s nodes k=jf V t nodes k:=by
 intro k;induction k with
 | zero=>unfold jf;exact List.map_congr_left fun i hi=>h i (by simpa using hi)
 | succ k ih=>unfold jf;rw [ih]
end
def KK (V:Nat) (c:Nat × Nat):Prop:=(∀ j,c.1.testBit j=true->j<V)/\∀ j,c.2.testBit j=true->j<V
theorem sW (r V:Nat):iE (r % 2^V) r=true:=iI.2 fun i hi=>by
 rw [Nat.testBit_mod_two_pow] at hi;simp at hi;exact hi.2
theorem sK {V T:Nat} {f:Fm} (ai:Ok f V T) (hs:kt V T f=true) {p:List Nat × List Nat} (h:nc V T f.nodes=some p):∀ r∈p.1,r<2^V:=by
 obtain ⟨h1,_,h3⟩:=nC ai hs h;intro r hr;have hv:=(h3 r).1 ⟨r,hr,jU r⟩;have he:mU V (r % 2^V) f.nodes=mU V r f.nodes:=rd V _ _ f.nodes (fun i hi=>by rw [Nat.testBit_mod_two_pow];simp [hi]) _;rw [<-he] at hv;obtain ⟨t,ht,ag⟩:=(h3 _).2 hv
 have aj:t=r:=by
  have ah:=hr;rw [<-h1.1] at ah;exact ((jw p.1 r).1 ah).2 t ht (mc ag (sW r V))
 subst aj;have:=ml ag (sW t V);rw [this];exact Nat.mod_lt _ (Nat.two_pow_pos V)
def Lg (L:List (Int × Int)):Nat:=if 1024<L.length then 4 else Ci L
theorem Bf {w:World} {r1 r2 r3:Rw} {u1 v1 u2 v2 u3 v3:Value} (h1:WdsAt w u1 r1.num) (k1:WdsAt w v1 r1.den) (h2:WdsAt w u2 r2.num) (k2:WdsAt w v2 r2.den) (h3:WdsAt w u3 r3.num) (k3:WdsAt w v3 r3.den) :
  RatsAt (w.alloc (.cells #[.bool r1.neg,u1,v1,.bool r2.neg,u2,v2,.bool r3.neg,u3,v3] 29)) (.slice (some ⟨w.heap.size,0,none⟩) 3 3) [r1,r2,r3]:=by
 have hk:gO w (w.alloc (.cells #[.bool r1.neg,u1,v1,.bool r2.neg,u2,v2,.bool r3.neg,u3,v3] 29)):=(gO.refl _).alloc _;refine ⟨_,3,rfl,⟨by simp,fun h=>by cases h⟩,by simp,fun i hi=>?_⟩
 match i,hi with
 | 0,_ =>
  refine ⟨w.heap.size,0,u1,v1,rfl,fun j v hj=>?_,h1.kept hk,k1.kept hk⟩
  match j,hj with
  | 0,hj=>simp at hj;subst hj;simp
  | 1,hj=>simp at hj;subst hj;simp
  | 2,hj=>simp at hj;subst hj;simp
 | 1,_ =>
  refine ⟨w.heap.size,0,u2,v2,rfl,fun j v hj=>?_,h2.kept hk,k2.kept hk⟩
  match j,hj with
  | 0,hj=>simp at hj;subst hj;simp
  | 1,hj=>simp at hj;subst hj;simp
  | 2,hj=>simp at hj;subst hj;simp
 | 2,_ =>
  refine ⟨w.heap.size,0,u3,v3,rfl,fun j v hj=>?_,h3.kept hk,k3.kept hk⟩
  match j,hj with
  | 0,hj=>simp at hj;subst hj;simp
  | 1,hj=>simp at hj;subst hj;simp
  | 2,hj=>simp at hj;subst hj;simp
theorem Hw (w:World):gU (w.alloc (.cells #[.int .i64 1,.int .i64 6] 3)) (.slice (some ⟨w.heap.size,0,none⟩) 2 2) [1,6] :=
 (gS.made w #[.int .i64 1,.int .i64 6] 3).ints (xs:=[1,6]) (c:=2) (by simp) (by simp)
def Lw (q0:Nat) (X:List Int) (V:Nat) (ps:List Rw):Nat × Rat :=
 if ps.length≠V then (11,0) else if kQ ps=true then (3,0) else if q0≠0 then (q0,0) else if (Hq X).1≠0 then ((Hq X).1,0) else (0,IY ps (Hq X).2 (Hq X).2.length)
theorem pC {w:World} {g:Nat} {e:TypeId} {x y z:Value} (h:gS w g e [x,y,z]):w.cell? ⟨g,0,none⟩=some x/\w.cell? ⟨g,1,none⟩=some y/\w.cell? ⟨g,2,none⟩=some z:=by
 have h0:=h.cell (i:=0) (by simp);have h1:=h.cell (i:=1) (by simp);have h2:=h.cell (i:=2) (by simp);exact ⟨by simpa using h0,by simpa using h1,by simpa using h2⟩
theorem mh (l:List Nat):iz (ib l)=l:=by
 unfold iz ib;rw [List.map_map];exact (List.map_congr_left fun c _=>rfl).trans (List.map_id l)
theorem CQ {l:List Nat} (hg:Good l) (hm:∀ r∈l,Mk r):ku (ib l)=0:=by
 have hs:iA l=l:=(mb l l (by have h:=hg.1;unfold Hc at h;rw [<-h];exact kZ l) fun _=>Iff.rfl).symm
 have he:kS (ib l)=0:=by
  unfold kS
  rw [if_neg (by have:=hg.2;simp [ib];omega),if_pos (o_.2 fun x hx=>by
   unfold ib at hx;obtain ⟨n,hn,rfl⟩:=List.mem_map.1 hx;have:=hm n hn;unfold Mk at this;show 0<=(n:Int)/\(n:Int)<=16777215;omega)]
 unfold ku;rw [if_neg (by omega),mh,if_neg (by rw [hs];simp),if_neg (by have h:=hg.1;unfold Hc at h;rw [h];simp)]
def LC (ps:List Rw) (V T:Nat) (f:Fm) (k:Nat):Rat:=GI (fun s=>if (mU V s f.nodes).getD T false=true then K_ (Ip ps) s V else 0) k
theorem BN {V:Nat} {mark:List Bool} {nodes:List Nd}:∀ k,k<=nodes.length->∀ i (h:i<(iK V mark nodes k).length),∃ j,∃ hj:j<nodes.length,j<k/\mark.getD (V+j) false=true/\mG V mark j=i/\(iK V mark nodes k)[i]=uu V mark nodes[j]:=by
 intro k;induction k with
 | zero=>intro _ i h;simp [iK] at h
 | succ k ih =>
  intro hk i h;by_cases hm:mark.getD (V+k) false=true
  ·have e:iK V mark nodes (k+1)=iK V mark nodes k++[uu V mark (nodes.getD k iZ)]:=by rw [iK,if_pos hm]
   have hl:(iK V mark nodes k).length=mG V mark k:=nL V mark nodes k;by_cases hi:i<(iK V mark nodes k).length
   ·obtain ⟨j,hj,h1,h2,h3,h4⟩:=ih (by omega) i hi;refine ⟨j,hj,by omega,h2,h3,?_⟩;rw [<-h4];simp only [e];rw [List.getElem_append_left hi]
   ·have h5:i=(iK V mark nodes k).length:=by
     have:=congrArg List.length e;rw [List.length_append] at this;simp at this;omega
    refine ⟨k,by omega,by omega,hm,by omega,?_⟩;simp only [e];rw [List.getElem_append_right (by omega)];simp [List.getD_eq_getElem?_getD,show k<nodes.length by omega]
  ·have e:iK V mark nodes (k+1)=iK V mark nodes k:=by rw [iK,if_neg hm]
   have hi:i<(iK V mark nodes k).length:=by rw [e] at h;exact h
   obtain ⟨j,hj,h1,h2,h3,h4⟩:=ih (by omega) i hi;refine ⟨j,hj,by omega,h2,h3,?_⟩;rw [<-h4];simp only [e]
theorem Gs {V:Nat} {mark:List Bool} {a:Int} {j:Nat} (h0:0<=a) (h1:a<(V:Int)+j) (hm:mark.getD a.toNat false=true):0<=sC V mark a/\sC V mark a<(V:Int)+mG V mark j:=by
 unfold sC;by_cases h:a<V
 ·rw [if_pos h];omega
 ·rw [if_neg h];have h2:=Cl V mark (i:=(a - V).toNat) (k:=j) (by omega) (by rw [show V+(a - (V:Int)).toNat=a.toNat by omega];exact hm);omega
theorem Kp {V T:Nat} {f:Fm} (ah:Ok f V T) (hs:kt V T f=true):Ka V (iK V (io V T f.nodes) f.nodes f.nodes.length) (sC V (io V T f.nodes) (T:Int)):=by
 have hl:(iK V (io V T f.nodes) f.nodes f.nodes.length).length=mG V (io V T f.nodes) f.nodes.length:=nL _ _ _ _;have aj:=kG V T f ah;have ag:=BN (V:=V) (mark:=io V T f.nodes) (nodes:=f.nodes) f.nodes.length (Nat.le_refl _);refine ⟨ah.v24,?_,?_,fun i h a ha=>?_,fun i h=>?_,fun i h=>?_,fun i h hk=>?_,fun i h hk=>?_⟩
 ·rw [hl];have:=Ck V (io V T f.nodes) f.nodes.length;have:=ah.n128;omega
 ·rw [hl];exact Gs (by omega) (by have:=ah.tlt;omega) (by simpa using oW ah)
 ·obtain ⟨j,hj,h1,h2,h3,h4⟩:=ag i h;rw [h4] at ha;obtain ⟨b,hb,rfl⟩:=List.mem_map.1 ha;have h5:=ah.args j hj b hb;have h6:=Gs h5.1 h5.2 (aj j hj h2 b hb);rw [h3] at h6;exact h6
 ·obtain ⟨j,hj,h1,h2,h3,h4⟩:=ag i h;rw [h4];show (f.nodes[j].args.map _).length<=16;rw [List.length_map];exact me (ah.argc j hj)
 ·obtain ⟨j,hj,h1,h2,h3,h4⟩:=ag i h;rw [h4];exact mg ah hs j hj h2
 ·obtain ⟨j,hj,h1,h2,h3,h4⟩:=ag i h;rw [h4] at hk⊢;have h5:=ah.arity j hj;have ai:f.nodes[j].kind=0:=hk;show f.nodes[j].k=0\/f.nodes[j].k=1;unfold mF at h5;rw [if_pos ai] at h5;split at h5
  ·rename_i h6;omega
  ·cases h5
 ·obtain ⟨j,hj,h1,h2,h3,h4⟩:=ag i h;rw [h4] at hk⊢;have h5:=ah.arity j hj;have ai:f.nodes[j].kind=4:=hk;show 1<=f.nodes[j].k/\f.nodes[j].k<=((f.nodes[j].args.map (sC V (io V T f.nodes))).length:Nat);rw [List.length_map];unfold mF at h5;rw [if_neg (by omega),if_pos ai] at h5;split at h5
  ·assumption
  ·cases h5
theorem pe {V T:Nat} {f:Fm} (ag:Ok f V T):kD V T f.nodes=(i_ V (io V T f.nodes) f.nodes f.nodes.length).map fun out=>if T<V then [2^T] else out.getD (T - V) []:=by
 unfold kD;rw [GO ag.args (kG V T f ag) f.nodes.length (Nat.le_refl _)];cases i_ V (io V T f.nodes) f.nodes f.nodes.length with
 | none=>rfl
 | some out =>
  simp only [Option.map_some];congr 1;by_cases h:T<V
  ·rw [if_pos h,Cw h,Int.toNat_natCast];exact sE h _
  ·rw [if_neg h];have e:((T:Nat):Int)=((V+(T - V):Nat):Int):=by omega
   rw [e,zq,Int.toNat_natCast,pz];exact yY (by rw [show V+(T - V)=T by omega];exact oW ag) _ (by have:=ag.tlt;omega)
theorem Hg {i s:Nat} (hi:i<24):up [2^i] (wP s) ↔ s.testBit i=false:=by
 unfold up;constructor
 ·rintro ⟨t,ht,h⟩;rw [List.mem_singleton] at ht;subst ht;have:=iI.1 h i (by simp);rw [mM s i hi] at this;simpa using this
 ·intro h;refine ⟨2^i,List.mem_singleton.2 rfl,iI.2 fun j hj=>?_⟩;rw [Nat.testBit_two_pow] at hj
  have:i=j:=by simpa using hj
  subst this;rw [mM s i hi,h];rfl
theorem At {V:Nat} {mark:List Bool} {nodes:List Nd}:∀ k out,i_ V mark nodes k=some out->∀ l∈out,Good l:=by
 intro k;induction k with
 | zero=>intro out h l hl;cases h;rw [List.eq_of_mem_replicate hl];exact oF
 | succ k ih =>
  intro out h l hl;obtain ⟨o,h1,h2⟩:=Option.bind_eq_some_iff.1 h;unfold kh at h2;split at h2
  ·obtain ⟨y,hy,rfl⟩:=Option.map_eq_some_iff.1 h2;rcases List.mem_or_eq_of_mem_set hl with h3 | rfl
   ·exact ih o h1 l h3
   ·exact sp hy
  ·cases h2;exact ih _ h1 l hl
theorem qf {V T:Nat} {f:Fm} (ag:Ok f V T) (hs:kt V T f=true) {l:List Nat} (h:kD V T f.nodes=some l):Good l/\∀ s,up l (wP s) ↔ (mU V s f.nodes).getD T false=false:=by
 rw [pe ag] at h;obtain ⟨out,ho,h1⟩:=Option.map_eq_some_iff.1 h;by_cases hT:T<V
 ·rw [if_pos hT] at h1;subst h1;refine ⟨oG _,fun s=>?_⟩;rw [Hg (by have:=ag.v24;omega)];unfold mU;rw [oh V s f.nodes f.nodes.length T hT]
 ·rw [if_neg hT] at h1;have ah:=mO V (io V T f.nodes) f.nodes f.nodes.length out ho;have ai:T - V<out.length:=by rw [ah];have:=ag.tlt;omega
  have e:out.getD (T - V) []=out[T - V]:=by simp [List.getD_eq_getElem?_getD,ai]
  refine ⟨?_,fun s=>?_⟩
  ·rw [<-h1,e];exact At _ out ho _ (List.getElem_mem _)
  ·rw [<-h1];have h2:=BT V T s f ag (io V T f.nodes) (fun i hi hm=>mg ag hs i hi hm) (kG V T f ag) f.nodes.length out (Nat.le_refl _) ho (T - V) (by have:=ag.tlt;omega) (by rw [show V+(T - V)=T by omega];exact oW ag);rw [show V+(T - V)=T by omega] at h2;exact h2
theorem EV {s:Nat} (h:s<16777216):wP (wP s)=s:=by
 apply Nat.eq_of_testBit_eq;intro i;by_cases hi:i<24
 ·rw [mM _ i hi,mM _ i hi];simp
 ·have h1:s.testBit i=false:=Nat.testBit_lt_two_pow (Nat.lt_of_lt_of_le h (Nat.pow_le_pow_right (n:=2) (by omega) (show 24<=i by omega)));have h2:∀ t,(wP t).testBit i=false:=fun t=>by unfold wP;rw [lg,th (by decide) (by omega)];rfl
  rw [h2,h1]
theorem qS {V T:Nat} {f:Fm} (aj:Ok f V T) (hs:kt V T f=true) {l:List Nat} (h:kD V T f.nodes=some l) (hm:∀ x∈l,Mk x):∀ r∈l,r<2^V:=by
 obtain ⟨h1,h3⟩:=qf aj hs h;intro r hr;have ah:r<16777216:=by have:=hm r hr;unfold Mk at this;omega
 have ai:r % 2^V<16777216:=Nat.lt_of_le_of_lt (Nat.mod_le _ _) ah;have hv:=(h3 (wP r)).1 (by rw [EV ah];exact ⟨r,hr,jU r⟩)
 have he:mU V (wP (r % 2^V)) f.nodes=mU V (wP r) f.nodes:=rd V _ _ f.nodes (fun i hi=>by
  have al:i<24:=by have:=aj.v24;omega
  rw [mM _ i al,mM _ i al,Nat.testBit_mod_two_pow];simp [hi]) _
 rw [<-he] at hv;obtain ⟨t,ht,ag⟩:=(h3 _).2 hv;rw [EV ai] at ag
 have ap:t=r:=by
  have am:=hr;rw [<-h1.1] at am;exact ((jw l r).1 am).2 t ht (mc ag (sW r V))
 subst ap;have:=ml ag (sW t V);rw [this];exact Nat.mod_lt _ (Nat.two_pow_pos V)
theorem DW (vars top:Int) (v:Value) (xs:List Nd) (i:Nat) (w:World) (hv:ii w v xs) (hi:i<xs.length) (h0:0<=vars) (aG:vars<=24) (aH:i<=1000) :
  Calls Tryz.prog 60 #[.agg #[.int .i64 vars,v,.int .i64 top],.int .i64 i] w fun e w'=>e=.returned (.int .i64 (lv (vars+i) xs[i]))/\gO w w':=by
 obtain ⟨a,c,rfl,_,hl,hx⟩:=hv;obtain ⟨b,o,rfl,u,hc1,hc2,ap,hI⟩:=hx i hi;obtain ⟨nl,aw⟩:∃ nl,nl=xs.length:=⟨_,rfl⟩;obtain ⟨x,ay⟩:∃ x,x=xs[i]:=⟨_,rfl⟩;rw [<-ay] at hc1 hc2 hI⊢;rw [<-aw] at hi hl⊢;obtain ⟨kind,k,args⟩:=x;obtain ⟨aa,ca,rfl,_,az,ar⟩:=hI;simp only at hc1 hc2 ap;obtain ⟨n,hn⟩:∃ n,n=args.length:=⟨_,rfl⟩;simp only at ar az;rw [<-hn] at ap az;have HC:=af ar;have HN:=af hn;have aI:(i:Int)<(nl:Int):=by omega
 have HR:=af (fun w' (hk:gO w w')=>jL (hk.cell hc1) (hk.cell hc2) (hk.cell ap));have aD:vars+(i:Int)<=1024/\0<=vars+(i:Int):=by omega
 clear hx ay ar aw hn hc1 hc2 ap;unfold lv;simp only;by_cases hk:kind<0\/5<kind
 ·rw [if_pos hk];have e0:(kind == 0)=false:=by simp;omega
  have e1:(kind == 1)=false:=by simp;omega
  have e2:(kind == 2)=false:=by simp;omega
  have e3:(kind == 3)=false:=by simp;omega
  have e4:(kind == 4)=false:=by simp;omega
  have e5:(kind == 5)=false:=by simp;omega
  clear hk;go_enter Tryz.func60,Tryz.ntmps60;go_wp2_with (refine wpList_load_mid rfl 106 _ rfl b (o+i*3) rfl _ _ (HR.out _ ((gO.refl _).alloc _)) Tryz.underlying106 rfl (by kernel_rfl) ?_);go_ret;exact ⟨rfl,((gO.refl _).alloc _).alloc _⟩
 ·rw [if_neg hk];have aA:args.length=n:=HN.out.symm;rw [aA];clear aA;cases ai:lJ kind n with
  | false =>
   rw [if_pos rfl]
   have am:(kind=0/\0<n)\/(kind=1/\n<1)\/(kind=1/\1<n)\/((kind=2\/kind=3\/kind=4\/kind=5)/\n<1)\/((kind=2\/kind=3\/kind=4\/kind=5)/\16<n):=by
    unfold lJ at ai;split at ai
    ·simp at ai;omega
    ·split at ai
     ·simp at ai;omega
     ·simp at ai;omega
   clear ai hk;rcases am with ⟨rfl,h⟩ | ⟨rfl,h⟩ | ⟨rfl,h⟩ | ⟨(rfl | rfl | rfl | rfl),h⟩ | ⟨(rfl | rfl | rfl | rfl),h⟩
   ·have h':(0:Int)<(n:Int):=by omega
    clear h;go_enter Tryz.func60,Tryz.ntmps60;go_wp2_with (refine wpList_load_mid rfl 106 _ rfl b (o+i*3) rfl _ _ (HR.out _ ((gO.refl _).alloc _)) Tryz.underlying106 rfl (by kernel_rfl) ?_);go_ret;exact ⟨rfl,((gO.refl _).alloc _).alloc _⟩
   ·have h':(n:Int)<1:=by omega
    clear h;go_enter Tryz.func60,Tryz.ntmps60;go_wp2_with (refine wpList_load_mid rfl 106 _ rfl b (o+i*3) rfl _ _ (HR.out _ ((gO.refl _).alloc _)) Tryz.underlying106 rfl (by kernel_rfl) ?_);go_ret;exact ⟨rfl,((gO.refl _).alloc _).alloc _⟩
   ·have h':(1:Int)<(n:Int):=by omega
    clear h;go_enter Tryz.func60,Tryz.ntmps60;go_wp2_with (refine wpList_load_mid rfl 106 _ rfl b (o+i*3) rfl _ _ (HR.out _ ((gO.refl _).alloc _)) Tryz.underlying106 rfl (by kernel_rfl) ?_);go_ret;exact ⟨rfl,((gO.refl _).alloc _).alloc _⟩
   ·have h':(n:Int)<1:=by omega
    clear h;go_enter Tryz.func60,Tryz.ntmps60;go_wp2_with (refine wpList_load_mid rfl 106 _ rfl b (o+i*3) rfl _ _ (HR.out _ ((gO.refl _).alloc _)) Tryz.underlying106 rfl (by kernel_rfl) ?_);go_ret;exact ⟨rfl,((gO.refl _).alloc _).alloc _⟩
   ·have h':(n:Int)<1:=by omega
    clear h;go_enter Tryz.func60,Tryz.ntmps60;go_wp2_with (refine wpList_load_mid rfl 106 _ rfl b (o+i*3) rfl _ _ (HR.out _ ((gO.refl _).alloc _)) Tryz.underlying106 rfl (by kernel_rfl) ?_);go_ret;exact ⟨rfl,((gO.refl _).alloc _).alloc _⟩
   ·have h':(n:Int)<1:=by omega
    clear h;go_enter Tryz.func60,Tryz.ntmps60;go_wp2_with (refine wpList_load_mid rfl 106 _ rfl b (o+i*3) rfl _ _ (HR.out _ ((gO.refl _).alloc _)) Tryz.underlying106 rfl (by kernel_rfl) ?_);go_ret;exact ⟨rfl,((gO.refl _).alloc _).alloc _⟩
   ·have h':(n:Int)<1:=by omega
    clear h;go_enter Tryz.func60,Tryz.ntmps60;go_wp2_with (refine wpList_load_mid rfl 106 _ rfl b (o+i*3) rfl _ _ (HR.out _ ((gO.refl _).alloc _)) Tryz.underlying106 rfl (by kernel_rfl) ?_);go_ret;exact ⟨rfl,((gO.refl _).alloc _).alloc _⟩
   all_goals
    have h':(16:Int)<(n:Int):=by omega
    clear h;go_enter Tryz.func60,Tryz.ntmps60;go_wp2_with (refine wpList_load_mid rfl 106 _ rfl b (o+i*3) rfl _ _ (HR.out _ ((gO.refl _).alloc _)) Tryz.underlying106 rfl (by kernel_rfl) ?_);go_ret;exact ⟨rfl,((gO.refl _).alloc _).alloc _⟩
  | true =>
   rw [if_neg (by simp)]
   have am:(kind=0\/kind=1\/kind=2\/kind=3\/kind=4\/kind=5)/\(kind=0->(n:Int)<=0)/\(kind≠0->(1:Int)<=(n:Int))/\(kind=1->(n:Int)<=1)/\(n:Int)<=16:=by
    unfold lJ at ai;split at ai
    ·simp at ai;omega
    ·split at ai
     ·simp at ai;omega
     ·simp at ai;omega
   obtain ⟨r,hr⟩:∃ r,r=(if args.all (fun a=>decide (0<=a/\a<vars+(i:Int)))=false then 10 else mF kind k n):=⟨_,rfl⟩;rw [<-hr];have aq:=af hr;clear hr ai hk;obtain ⟨am,q0,q1,q2,q3⟩:=am;rcases am with rfl | rfl | rfl | rfl | rfl | rfl
   ·have q0':=q0 rfl;clear q0 q1 q2;go_enter Tryz.func60,Tryz.ntmps60;go_wp2_with (refine wpList_load_mid rfl 106 _ rfl b (o+i*3) rfl _ _ (HR.out _ ((gO.refl _).alloc _)) Tryz.underlying106 rfl (by kernel_rfl) ?_);go_loop [9,41] (fun _ j=>∃ q:Nat,q<=n/\j=.int .i64 q/\Hid (∀ x∈args.take q,0<=x/\x<vars+(i:Int))) (fun _ j=>n - (intOf j).toNat)
    case atStart=>exact ⟨0,Nat.zero_le _,rfl,af (by simp)⟩
    case round =>
     obtain ⟨q,hq,rfl,HF⟩:=hrel;have aF:¬ q<n:=by omega
     have ag:=aq.out
     rw [if_neg (by
      have hh:=HF.out;rw [List.take_of_length_le (by have:=HN.out;omega)] at hh;rw [Bool.not_eq_false,List.all_eq_true];intro z hz;exact decide_eq_true (hh z hz))] at ag
     unfold mF at ag;by_cases k0:k=0
     ·subst k0;simp at ag;subst ag;go_wp2;go_ret;exact ⟨rfl,((gO.refl _).alloc _).alloc _⟩
     ·have b0:(k == 0)=false:=by simpa using k0
      have b2:(k != 0)=true:=by simpa using k0
      by_cases k1:k=1
      ·subst k1;simp at ag;try rw [if_pos (by omega)] at ag
       subst ag;clear b0 b2 k0;go_wp2;go_ret;exact ⟨rfl,((gO.refl _).alloc _).alloc _⟩
      ·have b1:(k == 1)=false:=by simpa using k1
       have b3:(k != 1)=true:=by simpa using k1
       simp [k0,k1] at ag;subst ag;clear k0 k1;go_wp2;go_ret;exact ⟨rfl,((gO.refl _).alloc _).alloc _⟩
   all_goals
    have q0':=af q0;simp at q0 q1 q2;go_enter Tryz.func60,Tryz.ntmps60;go_wp2_with (refine wpList_load_mid rfl 106 _ rfl b (o+i*3) rfl _ _ (HR.out _ ((gO.refl _).alloc _)) Tryz.underlying106 rfl (by kernel_rfl) ?_);go_loop [9,41] (fun _ j=>∃ q:Nat,q<=n/\j=.int .i64 q/\Hid (∀ x∈args.take q,0<=x/\x<vars+(i:Int))) (fun _ j=>n - (intOf j).toNat)
    case atStart=>exact ⟨0,Nat.zero_le _,rfl,af (by simp)⟩
    case round =>
     obtain ⟨q,hq,rfl,HF⟩:=hrel;by_cases aF:q<n
     ·have aB:q<args.length:=by have:=HN.out;omega
      obtain ⟨b2,o2,rfl,aC⟩:=HC.out q aB;have aj:=fun X Y=>(((gO.refl w).alloc X).alloc Y).cell aC
      obtain ⟨y,hy⟩:∃ y,y=args[q]:=⟨_,rfl⟩;rw [<-hy] at aj;have HY:=af hy;have al:=aj (.cells #[.int .i64 vars,.slice (some ⟨b,o,none⟩) nl c,.int .i64 top] 41);have ah:=fun kk=>al (.cells #[.int .i64 kk,.int .i64 k,.slice (some ⟨b2,o2,none⟩) n ca] 106)
      have g0:=ah 0;have g1:=ah 1;have g2:=ah 2;have g3:=ah 3;have g4:=ah 4;have g5:=ah 5;clear aC hy aj al ah;by_cases aJ:y<0
      ·go_wp2;go_ret;refine ⟨?_,((gO.refl _).alloc _).alloc _⟩;rw [aq.out,if_pos]
       ·rfl
       ·rw [List.all_eq_false];exact ⟨y,by rw [HY.out];exact List.getElem_mem _,by simp;omega⟩
      ·by_cases aK:y<vars+(i:Int)
       ·go_wp2;go_round
        case rel =>
         refine ⟨q+1,by omega,by go_num,af ?_⟩;intro z hz;rw [List.take_succ_eq_append_getElem aB] at hz;rcases List.mem_append.1 hz with hz | hz
         ·exact HF.out z hz
         ·simp at hz;rw [hz,<-HY.out];omega
        case measure=>simp [intOf];omega
       ·go_wp2;go_ret;refine ⟨?_,((gO.refl _).alloc _).alloc _⟩;rw [aq.out,if_pos]
        ·rfl
        ·rw [List.all_eq_false];exact ⟨y,by rw [HY.out];exact List.getElem_mem _,by simp;omega⟩
     ·have ag:=aq.out
      rw [if_neg (by
       have hh:=HF.out;rw [List.take_of_length_le (by have:=HN.out;omega)] at hh;rw [Bool.not_eq_false,List.all_eq_true];intro z hz;exact decide_eq_true (hh z hz))] at ag
      unfold mF at ag;by_cases k0:k=0
      ·subst k0;simp at ag;subst ag;go_wp2;go_ret;exact ⟨rfl,((gO.refl _).alloc _).alloc _⟩
      ·have b0:(k == 0)=false:=by simpa using k0
       have b2:(k != 0)=true:=by simpa using k0
       by_cases k1:k=1
       ·subst k1;simp at ag;try rw [if_pos (by omega)] at ag
        subst ag;clear b0 b2 k0;go_wp2;go_ret;exact ⟨rfl,((gO.refl _).alloc _).alloc _⟩
       ·have b1:(k == 1)=false:=by simpa using k1
        have b3:(k != 1)=true:=by simpa using k1
        by_cases k2:1<=k
        ·by_cases k3:k<=(n:Int)
         ·simp [k0,k2,k3] at ag;subst ag;clear k0 k1;go_wp2;go_ret;exact ⟨rfl,((gO.refl _).alloc _).alloc _⟩
         ·simp [k0,k2,k3] at ag;subst ag;clear k0 k1;go_wp2;go_ret;exact ⟨rfl,((gO.refl _).alloc _).alloc _⟩
        ·simp [k0,k2] at ag;subst ag;clear k0 k1;go_wp2;go_ret;exact ⟨rfl,((gO.refl _).alloc _).alloc _⟩
theorem zC (v:Value) (f:Fm) (w:World) (hv:ii w v f.nodes) (h0:0<=f.vars) (ag:f.vars<=24) (arg:Int) (ht:arg<=9223372036854775807) :
  Calls Tryz.prog 61 #[ot v f,.int .i64 arg] w fun e w'=>e=.returned (.bool (pr f arg))/\gO w w':=by
 obtain ⟨a,c,rfl,_,hl,hx⟩:=hv;obtain ⟨vars,nodes,top⟩:=f;simp only at hl hx h0 ag;unfold pr;simp only;clear hx;obtain ⟨n,hn⟩:∃ n,n=nodes.length:=⟨_,rfl⟩;rw [<-hn] at hl⊢;clear hn;by_cases h1:0<=arg
 ·by_cases h2:arg<vars
  ·rw [decide_eq_true ⟨h0,h1,.inl h2⟩];go_enter Tryz.func61,Tryz.ntmps61;go_wp2;go_ret;exact ⟨rfl,(gO.refl _).alloc _⟩
  ·by_cases h3:arg - vars<n
   ·rw [decide_eq_true ⟨h0,h1,.inr h3⟩];go_enter Tryz.func61,Tryz.ntmps61;go_wp2;go_ret;exact ⟨rfl,(gO.refl _).alloc _⟩
   ·rw [decide_eq_false (by rintro ⟨_,_,h | h⟩;exact h2 h;exact h3 h)];go_enter Tryz.func61,Tryz.ntmps61;go_wp2;go_ret;exact ⟨rfl,(gO.refl _).alloc _⟩
 ·rw [decide_eq_false fun h=>h1 h.2.1];go_enter Tryz.func61,Tryz.ntmps61;go_wp2;go_ret;exact ⟨rfl,(gO.refl _).alloc _⟩
theorem t_ (v:Value) (f:Fm) (w:World) (hv:ii w v f.nodes) (ht:f.top<=9223372036854775807) :
  Calls Tryz.prog 21 #[ot v f] w fun e w'=>e=.returned (.int .i64 (jP f))/\gO w w':=by
 obtain ⟨r,hr⟩:∃ r,r=jP f:=⟨_,rfl⟩;rw [<-hr];have HV:=af hv;have ay:=af hr;obtain ⟨a,c,rfl,_,hl,hx⟩:=hv;obtain ⟨n,hn⟩:∃ n,n=f.nodes.length:=⟨_,rfl⟩;rw [<-hn] at hl HV⊢;have HN:=af hn;obtain ⟨vars,ai⟩:∃ x,x=f.vars:=⟨_,rfl⟩;obtain ⟨top,al⟩:∃ x,x=f.top:=⟨_,rfl⟩;rw [<-al] at ht;have ah:=af ai;have ap:=af al;unfold ot;rw [<-ai,<-al];clear hx hr hn ai al;by_cases h:vars<0\/24<vars
 ·have h9:r=3:=by rw [ay.out,jP,if_pos (by rw [<-ah.out];exact h)]
  subst h9;rcases h with h | h
  all_goals
   go_enter Tryz.func21,Tryz.ntmps21;go_wp2;go_ret;exact ⟨rfl,(gO.refl _).alloc _⟩
 ·have h0:0<=vars:=by omega
  have aC:vars<=24:=by omega
  have HH:=af (show ¬ (f.vars<0\/24<f.vars) by rw [<-ah.out];exact h);clear h;by_cases hn:128<n
  ·have h9:r=4:=by rw [ay.out,jP,if_neg HH.out,if_pos (by rw [<-HN.out];exact hn)]
   subst h9;go_enter Tryz.func21,Tryz.ntmps21;go_wp2;go_ret;exact ⟨rfl,(gO.refl _).alloc _⟩
  ·have aD:=af (show ¬ 128<f.nodes.length by rw [<-HN.out];exact hn);go_enter Tryz.func21,Tryz.ntmps21;go_wp2;go_loopw [3,4,20] (fun _ _ i wr=>∃ k:Nat,k<=n/\i=.int .i64 k/\Hid (∀ j (hj:j<f.nodes.length),j<k->lv (f.vars+j) f.nodes[j]=0)/\gO w wr/\wr.cell? ⟨w.heap.size,0,none⟩=some (.int .i64 vars)/\wr.cell? ⟨w.heap.size,1,none⟩=some (.slice a n c)/\wr.cell? ⟨w.heap.size,2,none⟩=some (.int .i64 top)) (fun _ _ i _=>n - (intOf i).toNat)
   case atStart=>exact ⟨0,Nat.zero_le _,rfl,af (by intro j _ h;omega),(gO.refl _).alloc _,by simp,by simp,by simp⟩
   case round =>
    obtain ⟨k,hk,rfl,HF,hK,c0,c1,c2⟩:=hrel
    have am:wr.rangeAt w.heap.size 0 [.int .i64 vars,.slice a n c,.int .i64 top]:=by
     intro j v hj
     match j,hj with
     | 0,hj=>simp at hj;subst hj;exact c0
     | 1,hj=>simp at hj;subst hj;exact c1
     | 2,hj=>simp at hj;subst hj;exact c2
    have az:=af am;clear am;by_cases aJ:k<n
    ·have aF:k<f.nodes.length:=by have:=HN.out;omega
     have ag:=DW f.vars f.top _ f.nodes k wr (HV.out.kept hK) aF (by rw [<-ah.out];exact h0) (by rw [<-ah.out];exact aC) (by omega);rw [<-ah.out,<-ap.out] at ag;obtain ⟨q,hq⟩:∃ q,q=lv (vars+k) f.nodes[k]:=⟨_,rfl⟩;rw [<-hq] at ag;have HQ:=af hq;have aq:=af ag;clear hq ag;by_cases aB:q=0
     ·subst aB
      go_wp2_with (first
       | (with_reducible refine wpList_load_mid rfl 41 _ rfl w.heap.size 0 rfl _ _ az.out Tryz.underlying41 rfl (by kernel_rfl) ?_)
       | (go_at_call 60;refine aq.out.mono ?_;rintro e w2 ⟨rfl,aj⟩))
      go_roundw
      case rel =>
       refine ⟨k+1,by omega,by go_num,af ?_,hK.trans aj,aj.cell c0,aj.cell c1,aj.cell c2⟩;intro j hj aK;by_cases e:j=k
       ·subst e;rw [<-ah.out,<-HQ.out]
       ·exact HF.out j hj (by omega)
      case measure=>simp [intOf];omega
     ·have aL:((q:Int) == 0)=false:=by simp;omega
      have aM:((q:Int) != 0)=true:=by simp;omega
      have aG:=af aB;clear aB
      go_wp2_with (first
       | (with_reducible refine wpList_load_mid rfl 41 _ rfl w.heap.size 0 rfl _ _ az.out Tryz.underlying41 rfl (by kernel_rfl) ?_)
       | (go_at_call 60;refine aq.out.mono ?_;rintro e w2 ⟨rfl,aj⟩))
      go_ret;refine ⟨?_,hK.trans aj⟩;have e1:=tn f.vars f.nodes k aF (fun j hj=>HF.out j (by omega) hj) (by rw [<-ah.out,<-HQ.out];exact aG.out)
      have e2:r=q:=by
       rw [ay.out,jP,if_neg HH.out,if_neg aD.out];rw [<-ah.out,<-HQ.out] at e1;rw [<-ah.out,e1,if_neg aG.out]
      rw [e2];rfl
    ·have ar:=qs f.vars f.nodes (fun j hj=>HF.out j hj (by have:=HN.out;omega));have aH:r=if pr f f.top then 0 else 10:=by rw [ay.out,jP,if_neg HH.out,if_neg aD.out,if_pos ar]
     have ag:=zC _ f wr (HV.out.kept hK) (by rw [<-ah.out];exact h0) (by rw [<-ah.out];exact aC) f.top (by rw [<-ap.out];exact ht);unfold ot at ag;rw [<-ap.out,<-ah.out] at ag;have aq:=af ag;have aI:=af aH;clear ag aH ar;cases aA:pr f top with
     | true =>
      have aw:=af aA;clear aA
      go_wp2_with (first
       | (with_reducible refine wpList_load_mid rfl 41 _ rfl w.heap.size 0 rfl _ _ az.out Tryz.underlying41 rfl (by kernel_rfl) ?_)
       | (go_at_call 61;refine aq.out.mono ?_;rintro e w2 ⟨rfl,aj⟩;rw [aw.out]))
      go_ret;exact ⟨by rw [aI.out,<-ap.out,aw.out];rfl,hK.trans aj⟩
     | false =>
      have aw:=af aA;clear aA
      go_wp2_with (first
       | (with_reducible refine wpList_load_mid rfl 41 _ rfl w.heap.size 0 rfl _ _ az.out Tryz.underlying41 rfl (by kernel_rfl) ?_)
       | (go_at_call 61;refine aq.out.mono ?_;rintro e w2 ⟨rfl,aj⟩;rw [aw.out]))
      go_ret;exact ⟨by rw [aI.out,<-ap.out,aw.out];rfl,hK.trans aj⟩
def qo (w':World) (e:Ending) (r:Option (List Nat)):Prop :=
 match r with
 | some l=>∃ v,e=.returned (.tuple #[v,.int .i64 0])/\hC w' 0 v l
 | none=>e=.returned (.tuple #[.slice none 0 0,.int .i64 4])
theorem DY (a b:List Nat) (va vb:Value) (w:World) (ha:gZ w va a) (hb:gZ w vb b) :
  Calls Tryz.prog 172 #[va,vb] w fun e w'=>qo w' e (iN a b)/\gO w w':=by
 by_cases hl:a.length<=1024/\b.length<=1024
 ·have HA:=af ha;have HB:=af hb;have H0:=af (Cg a b va vb w ha hb hl.1 hl.2);have aI:=hl.1;have aJ:=hl.2;obtain ⟨aa,ca,rfl,aD,_⟩:=ha.shape;obtain ⟨ab,cb,rfl,aF,_⟩:=hb.shape;obtain ⟨r,hr⟩:∃ r,r=iN a b:=⟨_,rfl⟩;rw [<-hr];unfold iN at hr;rw [if_pos hl] at hr
  have aq:∀ n∈a++b,Mk n:=fun n hn=>by
   rcases List.mem_append.1 hn with h | h
   ·exact ha.2 n h
   ·exact hb.2 n h
  have HM:=af aq;have aK:(a++b).length<=2048:=by simp;omega
  have ar:=af hr;clear ha hb hl hr aq;go_enter Tryz.func172,Tryz.ntmps172;go_wp2_with fail;refine H0.out.mono ?_;rintro e w0 ⟨rfl,rfl⟩
  go_wp2_with (first
   | (at_builtin;refine lR rfl _ _ rfl w.heap.size _ [] rfl (vU w _ (Nat.le_refl _)) _ (ib a) rfl (HA.out.1.kept ((gO.refl _).alloc _)) (by simp;omega) (by simp) ?_;intro v7 w7 ag _ aw;have O7:=af ag;have am:=af (((gO.refl w).alloc _).app aw);clear ag aw)
   | (at_builtin;refine lR rfl _ _ rfl w.heap.size _ ([]++ib a) rfl O7.out _ (ib b) rfl (HB.out.1.kept am.out) (by simp;omega) (by have:=am.out.size;omega) ?_;intro v8 w8 ah _ ay;have O8:=af ah;have aG:=af (am.out.app ay);clear ah ay))
  have az:gZ w8 v8 (a++b):=⟨by have:=O8.out.ints;simpa [ib] using this,HM.out⟩;refine (ru (a++b) v8 w8 az (by omega)).mono ?_;rintro e w9 ⟨⟨v9,rfl,al⟩,aA⟩;have aB:=af al.sets;have aH:=af al;have aC:=af (aG.out.trans aA);obtain ⟨a9,c9,rfl,_,_⟩:=al.sets.shape;clear al aA az;by_cases ai:(iy (a++b)).length<=1024
  ·have HL:=af (tG _ _ w9 aB.out ai);have aj:r=some (iy (a++b)):=by rw [ar.out,if_pos ai]
   have ap:=af aj;clear ai aj;go_wp2_with (go_at_call 233;refine HL.out.mono ?_;rintro e w' ⟨rfl,rfl⟩);go_ret2;exact ⟨by rw [ap.out];exact ⟨_,rfl,aH.out⟩,aC.out⟩
  ·have HL:=af (pp _ _ w9 aB.out ai);have aj:r=none:=by rw [ar.out,if_neg ai]
   have ap:=af aj;clear ai aj;go_wp2_with (go_at_call 233;refine HL.out.mono ?_;rintro e w' ⟨rfl,rfl⟩);go_ret2;exact ⟨by rw [ap.out];rfl,aC.out⟩
 ·have H0:=af (ti a b va vb w ha hb hl);obtain ⟨aa,ca,rfl,aD,_⟩:=ha.shape;obtain ⟨ab,cb,rfl,aF,_⟩:=hb.shape;have hr:iN a b=none:=by unfold iN;rw [if_neg hl]
  rw [hr];clear ha hb hl hr;go_enter Tryz.func172,Tryz.ntmps172;go_wp2_with fail;refine H0.out.mono ?_;rintro e w0 ⟨rfl,rfl⟩;go_wp2;go_ret2;exact ⟨rfl,gO.refl _⟩
theorem AL (a b acc:List Nat) (h:∀ z,z∈acc ↔ ∃ x∈a,∃ y∈b,z=x ||| y):iy acc=iy (oC (iy a) (iy b)):=by
 refine tK fun s=>?_
 have h1:up acc s ↔ up (oC a b) s:=by
  unfold up;constructor
  ·rintro ⟨t,ht,h2⟩;exact ⟨t,(oM a b t).2 ((h t).1 ht),h2⟩
  ·rintro ⟨t,ht,h2⟩;exact ⟨t,(h t).2 ((oM a b t).1 ht),h2⟩
 rw [h1,xT,xT,og,og]
theorem xJ (a b:List Nat) (va vb:Value) (w:World) (ha:gZ w va a) (hb:gZ w vb b) :
  Calls Tryz.prog 173 #[va,vb] w fun e w'=>qo w' e (h_ a b)/\gO w w':=by
 by_cases hl:a.length<=1024/\b.length<=1024
 ·have HA:=af ha;have HB:=af hb;have H0:=af (Cg a b va vb w ha hb hl.1 hl.2);have aY:=hl.1;have aZ:=hl.2;obtain ⟨aa,ca,rfl,aL,_⟩:=ha.shape;obtain ⟨ab,cb,rfl,aM,_⟩:=hb.shape;obtain ⟨r,hr⟩:∃ r,r=h_ a b:=⟨_,rfl⟩;rw [<-hr];unfold h_ at hr;rw [if_pos hl] at hr;have aN:=af hr;obtain ⟨n,hn⟩:∃ n,n=a.length:=⟨_,rfl⟩;obtain ⟨m,hm⟩:∃ n,n=b.length:=⟨_,rfl⟩;rw [<-hn] at aY aL H0 HA⊢;rw [<-hm] at aZ aM H0 HB⊢;have HN:=af hn;have aO:=af hm;clear ha hb hl hr hn hm;go_enter Tryz.func173,Tryz.ntmps173;go_wp2_with fail;refine H0.out.mono ?_;rintro e w0 ⟨rfl,rfl⟩;go_wp2_with fail;go_loopw [7,9,11,20,24,25,26] (fun vo _ _ i _ _ _ wr=>∃ (k:Nat) (acc:List Nat),k<=n/\i=.int .i64 k/\OwnInts wr w.heap.size vo (ib acc)/\gO w wr/\Hid (∀ z,z∈acc ↔ ∃ x∈a.take k,∃ y∈b,z=x ||| y)/\acc.length<=k*1024) (fun _ _ _ i _ _ _ _=>n - (intOf i).toNat)
  case atStart=>exact ⟨0,[],Nat.zero_le _,rfl,OwnInts.nil _ _,gO.refl _,af (by simp),by simp⟩
  case round =>
   obtain ⟨k,acc,hk,rfl,hO,aC,HI,bo⟩:=hrel;have HO:=af hO;have aD:=af aC;have hsz:=aC.size;clear hO aC;by_cases bp:k<n
   ·have aF:k<a.length:=by have:=HN.out;omega
    obtain ⟨b1,o1,rfl,ag⟩:=HA.out.cell k aF;have aw:=aD.out.cell ag;have aG:=HA.out.2 _ (List.getElem_mem aF);have al:a.take (k+1)=a.take k++[a[k]]:=List.take_succ_eq_append_getElem aF;obtain ⟨x,hx⟩:∃ x,x=a[k]:=⟨_,rfl⟩;rw [<-hx] at aw aG al;have a_:=af al;have bd:=af aG;clear hx ag al aG;go_wp2_with fail;obtain ⟨wo,rfl⟩:∃ wo:World,wo=wr:=⟨_,rfl⟩;go_loopw [7,11,26] (fun vo _ j wr=>∃ (q:Nat) (ac2:List Nat),q<=m/\j=.int .i64 q/\OwnInts wr w.heap.size vo (ib ac2)/\gO w wr/\Hid (∀ z,z∈ac2 ↔ z∈acc\/∃ y∈b.take q,z=x ||| y)/\ac2.length<=k*1024+q) (fun _ _ j _=>m - (intOf j).toNat)
    case atStart=>exact ⟨0,acc,Nat.zero_le _,rfl,HO.out,aD.out,af (by simp),by omega⟩
    case round =>
     obtain ⟨q,ac2,hq,rfl,aP,am,aQ,bf⟩:=hrel;have aR:=af aP;have ap:=af am;have bh:=am.size;clear aP am;by_cases bq:q<m
     ·have aH:q<b.length:=by have:=aO.out;omega
      obtain ⟨b2,o2,rfl,ag⟩:=HB.out.cell q aH;have aq:=ap.out.cell ag;have aI:=HB.out.2 _ (List.getElem_mem aH);have al:b.take (q+1)=b.take q++[b[q]]:=List.take_succ_eq_append_getElem aH;obtain ⟨y,hy⟩:∃ y,y=b[q]:=⟨_,rfl⟩;rw [<-hy] at aq aI al;have bi:bits .or .i64 (x:Int) (y:Int)=((x ||| y:Nat):Int):=FN bd.out aI;obtain ⟨u,hu⟩:∃ u,u=x ||| y:=⟨_,rfl⟩
      rw [<-hu] at bi;have HU:=af hu;have aJ:=af al;clear hy ag al aI hu;go_wp2_with (at_builtin;refine kp rfl _ _ rfl w.heap.size _ (ib ac2) rfl (aR.out.kept ((gO.refl _).alloc _)) _ (u:Int) rfl (by simp) (by simp;omega) (by simp;omega) ?_;intro v7 w7 aj _ aS;have O7:=af aj;have bj:=af aS;clear aj aS);go_roundw
      case rel =>
       refine ⟨q+1,ac2++[u],by omega,by go_num,by simpa [ib] using O7.out,(ap.out.alloc _).app bj.out,af fun z=>?_,by simp;omega⟩;rw [aJ.out,List.mem_append,aQ.out z,HU.out];simp only [List.mem_append,List.mem_singleton]
       grind
      case measure=>simp [intOf];omega
     ·have ah:b.take q=b:=List.take_of_length_le (by have:=aO.out;omega);have HF:=af ah;clear ah;go_wp2;go_roundw
      case rel =>
       refine ⟨k+1,ac2,by omega,by go_num,aR.out,ap.out,af fun z=>?_,by omega⟩;rw [a_.out,aQ.out z,HF.out,HI.out z];simp only [List.mem_append,List.mem_singleton]
       grind
      case measure=>simp [intOf];omega
   ·have ah:a.take k=a:=List.take_of_length_le (by have:=HN.out;omega);have ai:=HI.out;rw [ah] at ai;have ay:=AL a b acc ai
    have aT:∀ z∈acc,Mk z:=fun z hz=>by
     obtain ⟨x,hx,y,hy,rfl⟩:=(ai z).1 hz;exact FO (HA.out.2 x hx) (HB.out.2 y hy)
    have aU:gZ wr _ acc:=⟨HO.out.ints,aT⟩;have bk:=af (ru acc _ wr aU (by omega));have az:=af ay;clear ah ai ay aT aU HI;obtain ⟨va,vn,vc,rfl⟩:=HO.out.ints.shape;go_wp2_with fail;refine bk.out.mono ?_;rintro e w9 ⟨⟨v9,rfl,aB⟩,aV⟩;have aW:=af aB.sets;have bl:=af aB;have aX:=af (aD.out.trans aV);obtain ⟨a9,c9,rfl,_,_⟩:=aB.sets.shape;clear aB aV;by_cases ar:(iy acc).length<=1024
    ·have HL:=af (tG _ _ w9 aW.out ar);have aA:r=some (iy acc):=by rw [aN.out,<-az.out,if_pos ar]
     have aK:=af aA;clear ar aA;go_wp2_with (go_at_call 233;refine HL.out.mono ?_;rintro e w' ⟨rfl,rfl⟩);go_ret2;exact ⟨by rw [aK.out];exact ⟨_,rfl,bl.out⟩,aX.out⟩
    ·have HL:=af (pp _ _ w9 aW.out ar);have aA:r=none:=by rw [aN.out,<-az.out,if_neg ar]
     have aK:=af aA;clear ar aA;go_wp2_with (go_at_call 233;refine HL.out.mono ?_;rintro e w' ⟨rfl,rfl⟩);go_ret2;exact ⟨by rw [aK.out];rfl,aX.out⟩
 ·have H0:=af (ti a b va vb w ha hb hl);obtain ⟨aa,ca,rfl,aL,_⟩:=ha.shape;obtain ⟨ab,cb,rfl,aM,_⟩:=hb.shape;have hr:h_ a b=none:=by unfold h_;rw [if_neg hl]
  rw [hr];clear ha hb hl hr;go_enter Tryz.func173,Tryz.ntmps173;go_wp2_with fail;refine H0.out.mono ?_;rintro e w0 ⟨rfl,rfl⟩;go_wp2;go_ret2;exact ⟨rfl,gO.refl _⟩
theorem jX (a b:List Int):kK (a++b)=(kK a&&kK b):=by unfold kK;exact List.all_append
theorem mP (V:Nat) (mark:List Bool) (nodes:List Nd) (m:Nat) (h:kK (iB V mark nodes m)=false):∀ k,m<=k->kK (iB V mark nodes k)=false:=by
 intro k hk;induction k with
 | zero =>
      have:m=0:=by omega
      subst this;exact h
 | succ k ih =>
  by_cases e:m=k+1
  ·subst e;exact h
  ·unfold iB;have:=ih (by omega);split
   ·rw [jX,this];rfl
   ·exact this
theorem wz (v:Value) (f:Fm) (V T:Nat) (w:World) (hv:ii w v f.nodes) (am:Ok f V T) :
  Calls Tryz.prog 165 #[.agg #[.int .i64 V,v,.int .i64 T]] w fun e w'=>e=.returned (.int .i64 (if kt V T f=true then 0 else 7))/\gO w w':=by
 have h2:∀ W,gO w W->Calls Tryz.prog 109 #[.agg #[.int .i64 V,v,.int .i64 T]] W fun e w'=>∃ g,e=.returned (.slice (some ⟨g,0,none⟩) (V+f.nodes.length) (V+f.nodes.length))/\W.heap.size<=g/\gS w' g 4 ((io V T f.nodes).map .bool)/\gO W w':=fun W hk=>nY v f V T W (hv.kept hk) am
 obtain ⟨r,hr⟩:∃ r:Int,r=(if kt V T f=true then 0 else 7):=⟨_,rfl⟩;rw [<-hr];unfold kt at hr;obtain ⟨mark,ah⟩:∃ m,m=io V T f.nodes:=⟨_,rfl⟩;have aA:mark.length=V+f.nodes.length:=by rw [ah,mr]
 rw [<-ah] at hr h2;obtain ⟨a,c,rfl,_,hl,hx⟩:=hv;obtain ⟨n,hn⟩:∃ n,n=f.nodes.length:=⟨_,rfl⟩;rw [<-hn] at h2 aA hr⊢;have aQ:n<=128:=by rw [hn];exact am.n128
 have aR:=am.v24;have aS:T<V+n:=by rw [hn];exact am.tlt
 have H2:=af h2;have HX:=af hx;have HN:=af hn;have HR:=af hr;have aD:=af aA;clear h2 hx hn am hr aA hl ah;go_enter Tryz.func165,Tryz.ntmps165;go_wp2_with (go_at_call 109;refine (H2.out _ ((gO.refl _).alloc _)).mono ?_;rintro e w2 ⟨gn,rfl,aT,aF,ar⟩;have d0:=ar.cell (p:=⟨w.heap.size,0,none⟩) (v:=.int .i64 V) (by simp);have d1:=ar.cell (p:=⟨w.heap.size,1,none⟩) (v:=.slice a n c) (by simp);have aG:=af aF;clear aF);have aM:=af ar;clear d0 d1 ar;go_loopw [4,5,11] (fun _ _ i wr=>∃ k:Nat,k<=n/\i=.int .i64 k/\Hid (kK (iB V mark f.nodes k)=true)/\gO w2 wr) (fun _ _ i _=>n - (intOf i).toNat)
 case atStart=>exact ⟨0,Nat.zero_le _,rfl,af rfl,gO.refl _⟩
 case round =>
  obtain ⟨k,hk,rfl,HM,hK⟩:=hrel;have aj:=aM.out.trans hK;have q0:=aj.cell (p:=⟨w.heap.size,0,none⟩) (v:=.int .i64 V) (by simp);have q1:=aj.cell (p:=⟨w.heap.size,1,none⟩) (v:=.slice a n c) (by simp);by_cases aU:k<n
  ·have aH:k<f.nodes.length:=by have:=HN.out;omega
   have aB:=(aG.out.kept hK).cell (i:=V+k) (by simp [aD.out];omega);rw [jh mark (V+k) (by rw [aD.out];omega)] at aB;obtain ⟨b,o,rfl,u,hc1,hc2,aI,hI⟩:=HX.out k aH;have ap:gO w wr:=((gO.refl w).alloc (.cells #[.int .i64 V,.slice (some ⟨b,o,none⟩) n c,.int .i64 T] 41)).trans aj;have ag:=jL (ap.cell hc1) (ap.cell hc2) (ap.cell aI);obtain ⟨ax,cx,rfl,_,aN,aO⟩:=hI
   have ai:iB V mark f.nodes (k+1)=if mark.getD (V+k) false then iB V mark f.nodes k++[f.nodes[k].kind] else iB V mark f.nodes k:=by
    show (if mark.getD (V+k) false then iB V mark f.nodes k++[(f.nodes.getD k iZ).kind] else iB V mark f.nodes k)=_;rw [show f.nodes.getD k iZ=f.nodes[k] by simp [List.getD_eq_getElem?_getD,aH]]
   obtain ⟨kd,hkd⟩:∃ x,x=f.nodes[k].kind:=⟨_,rfl⟩;obtain ⟨kk,aJ⟩:∃ x,x=f.nodes[k].k:=⟨_,rfl⟩;obtain ⟨na,aK⟩:∃ x,x=f.nodes[k].args.length:=⟨_,rfl⟩;rw [<-hkd,<-aJ,<-aK] at ag;rw [<-hkd] at ai;have aw:=af ag;have ay:=af ai;have az:=af ap;have HK:=af hK;have aV:(V:Int)+(k:Int)<(V:Int)+(n:Int):=by omega
   have aW:(V:Int)+(k:Int)<((V+n:Nat):Int):=by omega
   have aX:gn<wr.heap.size:=Nat.lt_of_lt_of_le aG.out.lt hK.size;have aY:w.heap.size<wr.heap.size:=by have:=aj.size;simp at this;omega
   clear hc1 hc2 aI ag aO aN aK ap hK aj ai hkd aJ;cases al:mark.getD (V+k) false with
   | false =>
    rw [al] at aB;have aq:=af al;clear al;go_wp2_with (with_reducible refine wpList_load_mid rfl 106 _ rfl b (o+k*3) rfl _ _ aw.out Tryz.underlying106 rfl (by kernel_rfl) ?_);go_roundw
    case rel=>exact ⟨k+1,by omega,by go_num,af (by rw [ay.out,aq.out];exact HM.out),HK.out.alloc _⟩
    case measure=>simp [intOf];omega
   | true =>
    rw [al] at aB;have aq:=af al;clear al;by_cases k1:kd=1
    ·subst k1;go_wp2_with (with_reducible refine wpList_load_mid rfl 106 _ rfl b (o+k*3) rfl _ _ aw.out Tryz.underlying106 rfl (by kernel_rfl) ?_);go_ret
     have aC:r=7:=by
      rw [HR.out,if_neg];rw [mP V mark f.nodes (k+1) (by rw [ay.out,aq.out,if_pos rfl,jX];simp [kK]) n (by omega)];simp
     exact ⟨by rw [aC];rfl,az.out.alloc _⟩
    ·have e1:(kd == 1)=false:=by simpa using k1
     by_cases k5:kd=5
     ·subst k5;clear e1 k1;go_wp2_with (with_reducible refine wpList_load_mid rfl 106 _ rfl b (o+k*3) rfl _ _ aw.out Tryz.underlying106 rfl (by kernel_rfl) ?_);go_ret
      have aC:r=7:=by
       rw [HR.out,if_neg];rw [mP V mark f.nodes (k+1) (by rw [ay.out,aq.out,if_pos rfl,jX];simp [kK]) n (by omega)];simp
      exact ⟨by rw [aC];rfl,az.out.alloc _⟩
     ·have e5:(kd == 5)=false:=by simpa using k5
      have E1:=af k1;have E5:=af k5;clear k1 k5;go_wp2_with (with_reducible refine wpList_load_mid rfl 106 _ rfl b (o+k*3) rfl _ _ aw.out Tryz.underlying106 rfl (by kernel_rfl) ?_);go_roundw
      case rel=>exact ⟨k+1,by omega,by go_num,af (by rw [ay.out,aq.out,if_pos rfl,jX,HM.out];simp [kK,E1.out,E5.out]),HK.out.alloc _⟩
      case measure=>simp [intOf];omega
  ·have e:k=n:=by omega
   have aL:r=0:=by rw [HR.out,<-e,if_pos HM.out]
   have az:=af (((gO.refl w).alloc _).trans aj);have aP:=af aL;clear aL e aj;go_wp2;go_ret;exact ⟨by rw [aP.out];rfl,az.out⟩
end Go.Proofs.YtofibjflkebkpaaGreatDoor
