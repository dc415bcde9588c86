import Derived.Test.YtofibjflkebkpaaGreatDoorEQ11
import Derived.Test.YtofibjflkebkpaaGreatDoorChecked
set_option maxRecDepth 100000
set_option maxHeartbeats 16000000
namespace Go.Proofs.YtofibjflkebkpaaGreatDoor
open Go.RowKit
section
open Go.RowKit
variable {Z:Option Nat}
def nK (L:List Nat) (i m:Nat):Bool:=(List.range m).all fun j=>!IV L i j
theorem yB (L:List Nat) (i j:Nat):nK L i (j+1)=(nK L i j&&!IV L i j):=by
 unfold nK;rw [List.range_succ,List.all_append];simp
theorem yt (L:List Nat) (i:Nat) (h:i<L.length):L.getD i 0=L[i]:=by
 rw [List.getD_eq_getElem?_getD,List.getElem?_eq_getElem h];rfl
theorem xE (B:Nat) (v:Value) (L:List Nat) (w:World) (hv:g_ Z w B v L):Calls Tryz.prog 169 #[v] w fun e w'=>(∃ v',e=.returned v'/\g_ Z w' w.heap.size v' (rK L))/\gO w w':=by
 have HV:=af hv;have bd:=hv.len;obtain ⟨sa,sc,rfl,_⟩:=hv.slice;obtain ⟨n,hn⟩:∃ n,n=L.length:=⟨_,rfl⟩;rw [<-hn] at HV bd⊢;have HN:=af hn;clear hn hv;go_enter Tryz.func169,Tryz.ntmps169;go_wp2;go_loopg [3,11] n (fun kx s3 s11 wr=>∃ (i:Nat) (vo:Value),s3=vo/\s11=.int .i64 i/\i<=n/\n - i<=kx/\Hid (g_ Z wr w.heap.size vo (ki L i))/\Hid (gO w wr))
 case atStart=>exact ⟨0,_,rfl,rfl,Nat.zero_le _,by omega,af (g_.nil _ _),af (gO.refl _)⟩
 case round =>
  obtain ⟨wo,rfl⟩:∃ wo:World,wo=wr:=⟨_,rfl⟩;obtain ⟨i,vo,rfl,rfl,hi,br,HO,HK⟩:=hrel;obtain ⟨oa,oc,aR,_⟩:=HO.out.slice;obtain ⟨on,aI⟩:∃ on,on=(ki L i).length:=⟨_,rfl⟩;rw [<-aI] at aR;subst aR;have bt:=af aI;clear aI;by_cases bw:i<n
  ·have aS:i<L.length:=by have:=HN.out;omega
   obtain ⟨b,ia,im,ic,rfl,aT,aU,aV⟩:=(HV.out.kept HK.out).get i aS;have ar:ie 152 L[i]:=HV.out.lt _ (List.getElem_mem _);have aJ:=af aV;have aG:=af aU;have aK:=af ar;have bf:(i:Int)<(n:Int):=by omega
   have bh:im<=128:=by rw [aT];exact kA _
   have aL:=af (yt L i aS);have hsz:=HK.out.size;obtain ⟨x,hx⟩:∃ x,x=L[i]:=⟨_,rfl⟩;rw [<-hx] at aJ aG aK aL;obtain ⟨x0,aM⟩:∃ y,y=iM x:=⟨_,rfl⟩;have aN:=af aM;rw [<-aM] at aJ;clear aV aU ar aT hx aM;go_wp2_with (with_reducible refine wpList_load_mid rfl 131 _ rfl b (i*2) rfl _ _ aJ.out Tryz.underlying131 rfl (by kernel_rfl) ?_);obtain ⟨L5,aB⟩:∃ W:World,W=wo.alloc (.cells #[.int .i64 x0,.slice ia im ic] 131):=⟨_,rfl⟩;have bi:=af aB;have am:Hid (gO wo L5):=af (by rw [aB];exact (gO.refl _).alloc _);have e0:L5.cell? ⟨wo.heap.size,0,none⟩=some (.int .i64 x0):=by rw [aB];simp
   have e1:L5.cell? ⟨wo.heap.size,1,none⟩=some (.slice ia im ic):=by rw [aB];simp
   clear aB;go_loopg [6,18] n (fun kx s6 s18 wr=>∃ (j:Nat) (bb:Bool),s6=.bool bb/\s18=.int .i64 j/\j<=n/\n - j<=kx/\Hid (bb=nK L i j)/\Hid (gO L5 wr))
   case atStart=>exact ⟨0,true,rfl,rfl,Nat.zero_le _,by omega,af rfl,af (by rw [bi.out];exact gO.refl _)⟩
   case round =>
    obtain ⟨j,bb,rfl,rfl,hj,bz,HB,ai⟩:=hrel;have d0:=ai.out.cell e0;have d1:=ai.out.cell e1;by_cases bA:j<n
    ·have aW:j<L.length:=by have:=HN.out;omega
     obtain ⟨b',ja,jm,jc,aX,aY,ap,az⟩:=(HV.out.kept ((HK.out.trans am.out).trans ai.out)).get j aW;have aO:b=b':=by simpa using aX
     subst aO;have aP:ie 152 L[j]:=HV.out.lt _ (List.getElem_mem _);have bj:(j:Int)<(n:Int):=by omega
     have bk:jm<=128:=by rw [aY];exact kA _
     have aj:=yB L i j;unfold IV at aj;rw [aL.out,yt L j aW,<-HB.out] at aj;obtain ⟨y,hy⟩:∃ y,y=L[j]:=⟨_,rfl⟩;rw [<-hy] at ap az aP aj
     have aC:Hid (∀ W,gO wr W->Calls Tryz.prog 229 #[.agg #[.int .i64 (iM y),.slice ja jm jc],.agg #[.int .i64 x0,.slice ia im ic]] W fun e w'=>e=.returned (.bool (iE y x))/\gO W w'):=af fun W hk=>by
      rw [aN.out];exact uE aP _ _ W (ap.kept hk) (aG.out.kept ((am.out.trans ai.out).trans hk))
     have aD:Hid (∀ W,gO wr W->Calls Tryz.prog 229 #[.agg #[.int .i64 x0,.slice ia im ic],.agg #[.int .i64 (iM y),.slice ja jm jc]] W fun e w'=>e=.returned (.bool (iE x y))/\gO W w'):=af fun W hk=>by
      rw [aN.out];exact uE aK.out _ _ W (aG.out.kept ((am.out.trans ai.out).trans hk)) (ap.kept hk)
     have al:=af az;clear ap az aP aY hy aX;generalize iE y x=p1 at *;generalize iE x y=p2 at *;generalize iM y=y0 at *;by_cases aA:i=j
     ·have b0:((i:Int) != (j:Int))=false:=by simp;omega
      rw [show decide (i≠j)=false by simpa using aA] at aj;have aq:Hid (bb=nK L i (j+1)):=af (by rw [aj];simp);clear aj aA aC aD;go_wp2_with (with_reducible refine wpList_load_mid rfl 131 _ rfl b (j*2) rfl _ _ al.out Tryz.underlying131 rfl (by kernel_rfl) ?_);go_roundg (n - (j+1))
      case measure=>omega
      case rel=>exact ⟨j+1,bb,rfl,by go_num,by omega,Nat.le_refl _,aq,af (ai.out.alloc _)⟩
     ·have b0:((i:Int) != (j:Int))=true:=by simp;omega
      rw [show decide (i≠j)=true by simpa using aA] at aj;have d0':=((gO.refl wr).alloc (.cells #[.int .i64 y0,.slice ja jm jc] 131)).cell d0;have d1':=((gO.refl wr).alloc (.cells #[.int .i64 y0,.slice ja jm jc] 131)).cell d1;cases p1 with
      | false =>
       have aq:Hid (bb=nK L i (j+1)):=af (by rw [aj];simp);clear aj aA aD;go_wp2_with (first | (with_reducible refine wpList_load_mid rfl 131 _ rfl b (j*2) rfl _ _ al.out Tryz.underlying131 rfl (by kernel_rfl) ?_) | (go_at_call 229;(with_reducible refine (aC.out _ ((gO.refl wr).alloc _)).mono ?_);rintro e w4 ⟨rfl,ag⟩));go_roundg (n - (j+1))
       case measure=>omega
       case rel=>exact ⟨j+1,bb,rfl,by go_num,by omega,Nat.le_refl _,aq,af ((ai.out.alloc _).trans ag)⟩
      | true =>
       cases p2 with
       | false =>
        have aq:Hid (false=nK L i (j+1)):=af (by rw [aj];simp);clear aj aA;go_wp2_with (first | (with_reducible refine wpList_load_mid rfl 131 _ rfl b (j*2) rfl _ _ al.out Tryz.underlying131 rfl (by kernel_rfl) ?_) | (go_at_call 229;(with_reducible refine (aC.out _ ((gO.refl wr).alloc _)).mono ?_);rintro e w4 ⟨rfl,ag⟩;have aw:=af (((gO.refl wr).alloc _).trans ag);have g0:=ag.cell d0';have g1:=ag.cell d1';have h0:=ag.cell (p:=⟨wr.heap.size,0,none⟩) (v:=.int .i64 y0) (by simp);have h1:=ag.cell (p:=⟨wr.heap.size,1,none⟩) (v:=.slice ja jm jc) (by simp);clear ag) | (go_at_call 229;(with_reducible refine (aD.out _ aw.out).mono ?_);rintro e w5 ⟨rfl,aF⟩));go_roundg (n - (j+1))
        case measure=>omega
        case rel=>exact ⟨j+1,false,rfl,by go_num,by omega,Nat.le_refl _,aq,af (ai.out.trans (aw.out.trans aF))⟩
       | true =>
        by_cases aH:j<i
        ·have aQ:(j:Int)<(i:Int):=by omega
         have aq:Hid (false=nK L i (j+1)):=af (by rw [aj];simp [aH]);clear aj aA aH;go_wp2_with (first | (with_reducible refine wpList_load_mid rfl 131 _ rfl b (j*2) rfl _ _ al.out Tryz.underlying131 rfl (by kernel_rfl) ?_) | (go_at_call 229;(with_reducible refine (aC.out _ ((gO.refl wr).alloc _)).mono ?_);rintro e w4 ⟨rfl,ag⟩;have aw:=af (((gO.refl wr).alloc _).trans ag);have g0:=ag.cell d0';have g1:=ag.cell d1';have h0:=ag.cell (p:=⟨wr.heap.size,0,none⟩) (v:=.int .i64 y0) (by simp);have h1:=ag.cell (p:=⟨wr.heap.size,1,none⟩) (v:=.slice ja jm jc) (by simp);clear ag) | (go_at_call 229;(with_reducible refine (aD.out _ aw.out).mono ?_);rintro e w5 ⟨rfl,aF⟩));go_roundg (n - (j+1))
         case measure=>omega
         case rel=>exact ⟨j+1,false,rfl,by go_num,by omega,Nat.le_refl _,aq,af (ai.out.trans (aw.out.trans aF))⟩
        ·have aQ:¬ (j:Int)<(i:Int):=by omega
         have aq:Hid (bb=nK L i (j+1)):=af (by rw [aj];simp [aH]);clear aj aA aH;go_wp2_with (first | (with_reducible refine wpList_load_mid rfl 131 _ rfl b (j*2) rfl _ _ al.out Tryz.underlying131 rfl (by kernel_rfl) ?_) | (go_at_call 229;(with_reducible refine (aC.out _ ((gO.refl wr).alloc _)).mono ?_);rintro e w4 ⟨rfl,ag⟩;have aw:=af (((gO.refl wr).alloc _).trans ag);have g0:=ag.cell d0';have g1:=ag.cell d1';have h0:=ag.cell (p:=⟨wr.heap.size,0,none⟩) (v:=.int .i64 y0) (by simp);have h1:=ag.cell (p:=⟨wr.heap.size,1,none⟩) (v:=.slice ja jm jc) (by simp);clear ag) | (go_at_call 229;(with_reducible refine (aD.out _ aw.out).mono ?_);rintro e w5 ⟨rfl,aF⟩));go_roundg (n - (j+1))
         case measure=>omega
         case rel=>exact ⟨j+1,bb,rfl,by go_num,by omega,Nat.le_refl _,aq,af (ai.out.trans (aw.out.trans aF))⟩
    ·have bj:¬ (j:Int)<(n:Int):=by omega
     have ah:=vd L i
     have aZ:rt L i=bb:=by
      rw [HB.out,show j=n by omega,HN.out];rfl
     rw [aZ,aL.out] at ah;clear aZ;cases bb with
     | false =>
      have HF:Hid (g_ Z wr w.heap.size (.slice oa on oc) (ki L (i+1))):=af (by rw [ah];simpa using HO.out.kept (am.out.trans ai.out));clear ah;go_wp2;go_roundg (n - (i+1))
      case measure=>omega
      case rel=>exact ⟨i+1,_,rfl,by go_num,by omega,Nat.le_refl _,HF,af (HK.out.trans (am.out.trans ai.out))⟩
     | true =>
      have bl:=xA L i;have bo:=af ah;have bp:=(am.out.trans ai.out).size;clear ah;go_wp2_with (at_builtin;refine wF rfl _ _ rfl w.heap.size _ (ki L i) rfl (HO.out.kept ((am.out.trans ai.out).alloc _)) wr.heap.size x (.slice ia im ic) rfl (nD (by rw [<-aN.out];simp) (by simp)) (aG.out.kept ((am.out.trans ai.out).alloc _)) aK.out (by omega) (by simp;omega) ?_;intro v7 w7 ay a_;have O7:=af ay;have bq:=af a_;clear ay a_);go_roundg (n - (i+1))
      case measure=>omega
      case rel=>exact ⟨i+1,_,rfl,by go_num,by omega,Nat.le_refl _,af (by rw [bo.out];exact O7.out),af (((HK.out.trans (am.out.trans ai.out)).alloc _).app bq.out)⟩
  ·have bf:¬ (i:Int)<(n:Int):=by omega
   have HF:Hid (g_ Z wo w.heap.size (.slice oa on oc) (rK L)):=af (by have h:=HO.out;rw [show i=n by omega,HN.out] at h;exact h);go_wp2;go_ret;exact ⟨⟨_,rfl,HF.out⟩,HK.out⟩
end
section
open Go.RowKit
variable {Z:Option Nat}
theorem DD {w w':World} {B:Nat} {e:TypeId} {size:Nat} {v:Value} {n:Nat} {xs:List Value} {ob:Option Nat} (h:w.ownsRow B e size v n xs) (hg:w.grownBy w' ob) (ag:∀ g,v.ownBlock=some g->some g≠ob):w'.ownsRow B e size v n xs:=by
 have ah:=fun g hg=>(h.lt g hg).2
 obtain ⟨h1,h2⟩:=h;refine ⟨h1,h2.imp id ?_⟩;rintro ⟨g,cap,cur,rfl,h5,h6,h7⟩;exact ⟨g,cap,cur,rfl,h5,(hg.block g (ah g rfl) (ag g rfl)).trans h6,h7⟩
theorem g_.stepped {W w7:World} {B B' g:Nat} {v s:Value} {L:List Nat} {xs:List Int} (h:g_ s.ownBlock W B v L) (hs:OwnInts W B' s xs) (hg:W.grownBy w7 s.ownBlock) (hat:s.ownBlock=some g\/g=W.heap.size):g_ (some g) w7 B v L:=by
 obtain ⟨cells,h1,h2,h3⟩:=h;refine ⟨cells,nQ h1 hs.1 (by decide) (fun k hk ah=>hg.block k hk ah),h2,fun i hi=>?_⟩;obtain ⟨u,e0,e1,⟨e2,e4⟩,e3⟩:=h3 i hi;refine ⟨u,e0,e1,⟨DD e2 hg fun g2 ag he=>e3 g2 ag he.symm,e4⟩,fun g2 ag he=>?_⟩;have ai:=(e2.lt g2 ag).2;injection he with he
 subst he;rcases hat with hat | hat
 ·exact e3 _ ag hat
 ·omega
theorem zX {ops:Array Oper} {rest:List Oper} {o:Oper} {a:Act} {Q:Exit->Act->World->Prop} {w:World} (ah:o.guard=none) (s x:Operand)
  (ho:o.op=.call { callee:=.builtin .append,args:=#[s,x],argTypes:=#[22,22] }) (B:Nat) (v:Value) (xs:List Int) (hs:a.eval s=v) (ag:OwnInts w B v xs)
  (ad:Addr) (y:Int) (hx:a.eval x=.slice (some ad) 1 1) (hc:w.cell? ad=some (.int .i64 y)) (hl:xs.length<17592186044416) (hB:B<=w.heap.size)
  (h:∀ g cap w',OwnInts w' B (.slice (some ⟨g,0,none⟩) (xs.length+1) cap) (xs++[y])->w.grownBy w' v.ownBlock->(v.ownBlock=some g\/g=w.heap.size)->Below B w w'->wpList Tryz.prog ops Q rest (a.put o.dst (.slice (some ⟨g,0,none⟩) (xs.length+1) cap)) w'):wpList Tryz.prog ops Q (o :: rest) a w:=by
 obtain ⟨i0,ai,aj,al,am⟩:=info_parts lS;refine wpList_append_lies w ah s x 22 ho B 3 i0 _ 1 8 Tryz.underlying22 ai aj al am rfl (by decide) v xs.length _ hs ag.1 ad 1 1 [.int .i64 y] hx rfl ?_ ?_ (by decide) (by simp [maxLen];omega) (by omega) hB w.heap.size rfl ?_
 ·intro j u hj
  match j,hj with
  | 0,hj=>simp at hj;subst hj;simpa [Addr.add] using hc
 ·intro u hu;simp at hu;subst hu;rfl
 ·intro g cap w' h2 h3 h4 _;exact h g cap w' ⟨by simpa using h2,by simp;omega⟩ h3 h4 (iD h3 ag.1 hB)
theorem zY {kind:Int} {n:Nat} (h:lJ kind n=true) (h0:kind≠0):1<=n:=by
 unfold lJ at h;rw [if_neg h0] at h;split at h
 ·simp at h;omega
 ·simp at h;omega
def Ey (w':World) (e:Ending) (r:Option (List Nat × List Nat)):Prop :=
 match r with
 | some p=>∃ Z v1 v2 L,e=.returned (.tuple #[v1,v2,.int .i64 0])/\g_ Z w' 0 v1 L/\L.Perm p.1/\OwnInts w' 0 v2 (ib p.2)
 | none=>e=.returned (.tuple #[.slice none 0 0,.slice none 0 0,.int .i64 4])
theorem sA (w:World):Ey w (.returned (.tuple #[.slice none 0 0,.slice none 0 0,.int .i64 4])) none:=rfl
theorem Fb:iM 0=0:=rfl
theorem xj:gY 0=[]:=by
 unfold gY;rw [List.filter_eq_nil_iff];intro a _;simp
theorem Cy (v:Value) (f:Fm) (V T:Nat) (w:World) (hv:ii w v f.nodes) (ag:Ok f V T) (hs:kt V T f=true) :
  Calls Tryz.prog 106 #[.agg #[.int .i64 V,v,.int .i64 T]] w fun e w'=>Ey w' e (nc V T f.nodes)/\gO w w':=by
 have bL:Hid (∀ W,gO w W->Calls Tryz.prog 165 #[.agg #[.int .i64 V,v,.int .i64 T]] W fun e w'=>e=.returned (.int .i64 0)/\gO W w'):=af fun W hk=>by
  have:=wz v f V T W (hv.kept hk) ag;rw [if_pos hs] at this;exact this
 have bM:=af (fun i (hi:i<f.nodes.length)=>vR hv i hi);have br:=af ag;have bN:=af (fun i (hi:i<f.nodes.length) h=>mg ag hs i hi h);have bO:∃ a n c,v=.slice a n c:=by obtain ⟨a,c,h,_⟩:=hv;exact ⟨a,_,c,h⟩
 obtain ⟨a,n,c,rfl⟩:=bO;have aT:=ag.v24;have aB:=ag.n128;have bP:=ag.tlt;have aU:ie 152 (cond V (T:Int)):=lL (j' (V:=V) (m:=128) (by omega) aT) (by omega);have aq:=af (lQ.start ag)
 have aV:Hid (∀ W',Calls Tryz.prog 166 #[.agg #[.int .i64 V,.slice a n c,.int .i64 T],.agg #[.int .i64 0,.slice none 0 0],.int .i64 T] W' fun e w'=>(∃ u',e=.returned (.agg #[.int .i64 (iM (cond V (T:Int))),u'])/\jl none w' u' (cond V (T:Int)))/\gO W' w'):=af fun W'=>by
  have:=uF (Z:=none) 0 V (.slice a n c) T ⟨_,_,_,rfl⟩ aT (T:Int) (by omega) (.slice none 0 0) W' (fun z hz=>by cases hz) ⟨by rw [xj];exact OwnInts.nil _ _,fun g hg=>by cases hg⟩;rw [show iv V 0 (T:Int)=cond V (T:Int) by unfold iv;simp,Fb] at this;exact this
 obtain ⟨c0,aC⟩:∃ c0,c0=cond V (T:Int):=⟨_,rfl⟩;obtain ⟨nl,aW⟩:∃ nl,nl=f.nodes.length:=⟨_,rfl⟩;rw [<-aC] at aU aq aV;rw [<-aW] at aq aB;have bt:=af aW;have bQ:=af aU;obtain ⟨x0,aX⟩:∃ x,x=iM c0:=⟨_,rfl⟩;have bR:=af aX;rw [<-aX] at aV;clear hv ag hs aU aC aW aX bP;go_enter Tryz.func106,Tryz.ntmps106
 go_wp2_with (first
  | (go_at_call 165;refine (bL.out _ ((gO.refl _).alloc _)).mono ?_;rintro e w1 ⟨rfl,aD⟩;have d0:=aD.cell (p:=⟨w.heap.size,0,none⟩) (v:=.int .i64 V) (by simp);have d1:=aD.cell (p:=⟨w.heap.size,1,none⟩) (v:=.slice a n c) (by simp);have d2:=aD.cell (p:=⟨w.heap.size,2,none⟩) (v:=.int .i64 T) (by simp);have bw:=af (((gO.refl _).alloc _).trans aD);clear aD)
  | (go_at_call 166;refine (aV.out _).mono ?_;rintro e w2 ⟨⟨u2,rfl,aM⟩,aF⟩;obtain ⟨ua2,uc2,rfl⟩:=aM.shape;obtain ⟨un2,ar⟩:∃ x,x=(gY c0).length:=⟨_,rfl⟩;rw [<-ar] at aM;rw [<-ar];have bS:=af aM;have d0':=aF.cell d0;have d1':=aF.cell d1;have d2':=aF.cell d2;have bT:=af (bw.out.trans aF);clear d0 d1 d2 aF bw aM ar))
 have bU:w.heap.size<w2.heap.size:=by
  by_cases h:w.heap.size<w2.heap.size
  ·exact h
  ·simp [World.cell?,Array.getElem?_eq_none (Nat.le_of_not_lt h)] at d0'
 obtain ⟨L1,bz⟩:∃ L:World,L=w2.alloc (.cells #[.int .i64 x0,.slice ua2 un2 uc2] 131):=⟨_,rfl⟩;have aw:=af bz;clear bz;have e0:=(by rw [aw.out];exact ((gO.refl w2).alloc _).cell d0':L1.cell? ⟨w.heap.size,0,none⟩=some (.int .i64 V));have e1:=(by rw [aw.out];exact ((gO.refl w2).alloc _).cell d1':L1.cell? ⟨w.heap.size,1,none⟩=some (.slice a n c));have e2:=(by rw [aw.out];exact ((gO.refl w2).alloc _).cell d2':L1.cell? ⟨w.heap.size,2,none⟩=some (.int .i64 T));have aN:Hid (gO w L1):=af (by rw [aw.out];exact bT.out.trans ((gO.refl w2).alloc _))
 have bV:Hid (g_ none L1 0 (.slice (some ⟨w2.heap.size,0,none⟩) 1 1) [c0]):=af (by
  rw [aw.out];exact g_.one (by rw [<-bR.out];exact heap_alloc_new w2 _) (bS.out.kept ((gO.refl w2).alloc _)) bQ.out (Nat.zero_le _))
 clear d0' d1' d2';go_loopg [6,7] nl (fun kx s6 s7 wr=>∃ (L st:List Nat) (m:Nat) (vr vs:Value),s6=vr/\s7=vs/\m<=kx/\Hid (lQ V T f L st m/\st.length+m<=128)/\Hid (g_ vs.ownBlock wr 0 vr L)/\Hid (OwnInts wr L1.heap.size vs (ib st))/\Hid (gO L1 wr))
 case atStart=>exact ⟨[c0],[],nl,_,_,rfl,rfl,Nat.le_refl _,af ⟨aq.out,by simpa using aB⟩,af (by have:=bV.out;rw [aw.out] at this;exact this),af (OwnInts.nil _ _),af (by rw [aw.out];exact gO.refl _)⟩
 case round =>
  obtain ⟨wo,rfl⟩:∃ wo:World,wo=wr:=⟨_,rfl⟩;obtain ⟨L,st,m,vr,vs,rfl,rfl,cu,aj,aO,aP,HK⟩:=hrel;obtain ⟨va,vc,bA,_⟩:=aO.out.slice;obtain ⟨ln,aQ⟩:∃ ln,ln=L.length:=⟨_,rfl⟩;rw [<-aQ] at bA;have cw:ln<=1024:=by rw [aQ];exact aj.out.1.len
  subst bA;have cz:=af aQ;have HG:=af (vh 0 _ L wo aO.out);have d0:=HK.out.cell e0;have d1:=HK.out.cell e1;have d2:=HK.out.cell e2;obtain ⟨sa,sn,sc,bW⟩:=aP.out.ints.shape;subst bW;clear aQ;go_wp2_with fail;refine HG.out.mono ?_;rintro e w3 ⟨⟨r,rfl,hg⟩,ai⟩;have bB:=af hg;have aG:=af ai;by_cases cC:r<0
  ·clear hg ai d0 d1 d2;go_wp2;go_ret3;refine ⟨?_,aN.out.trans (HK.out.trans aG.out)⟩;obtain ⟨R,hR,hp⟩:=aj.out.1.done fun c hc j hj=>by have:=bB.out.1 c hc j hj;omega
   rw [hR];exact ⟨_,_,_,L,rfl,aO.out.kept aG.out,hp,(aP.out.mono (Nat.zero_le _)).kept aG.out⟩
  ·obtain ⟨i,rfl,aY⟩:=hg.2.resolve_left (by omega);obtain ⟨cD,aH,_⟩:=aj.out.1.at aY fun c hc j hj=>by have:=hg.1 c hc j hj;omega
   have cE:=aj.out.1.le;have al:i<f.nodes.length:=by omega
   obtain ⟨b,o,n',c',ua,un,uc,aZ,hn',aR⟩:=bM.out i al;injection aZ with q1 q2 q3
   subst q1;rw [<-q2,<-bt.out] at hn';have hkd:=bN.out i al aH;have ag:=br.out;have bC:=ag.n128;have ah:∀ a∈f.nodes[i].args,0<=a/\a<(V:Int)+128:=fun a ha=>by have:=ag.args i al a ha;omega
   have a_:f.nodes[i].args.length<=16:=me (ag.argc i al);have bd:f.nodes[i].kind≠0->1<=f.nodes[i].args.length:=fun h0=>zY (ag.argc i al) h0
   have am:f.nodes[i].kind=4->1<=f.nodes[i].k/\f.nodes[i].k<=f.nodes[i].args.length:=fun h4=>by
    have:=ag.arity i al;unfold mF at this;rw [if_neg (by omega),if_pos h4] at this;split at this
    ·omega
    ·cases this
   have hx:f.nodes.getD i iZ=f.nodes[i]:=by simp [List.getD_eq_getElem?_getD,al]
   obtain ⟨x,bD⟩:∃ x,x=f.nodes[i]:=⟨_,rfl⟩;rw [<-bD] at aR hkd ah a_ bd am hx;have HX:=af hx;have bX:i<n:=by rw [hn',bt.out];exact al
   have aI:i<128:=by omega
   have ay:=aN.out.trans (HK.out.trans ai);have bY:=af (zr (Z:=(Value.slice sa sn sc).ownBlock) 0 V i b o n c T x ua un uc (.slice va ln vc) L w3 (fun z hz=>by have h1:=(aP.out.1.lt z hz).2;have h2:=ai.size;omega) aT (aO.out.kept ai) aj.out.1.len aI bX (aR w3 ay).1 (aR w3 ay).2 ah a_ hkd am bd fun c hc j hj=>by have:=bB.out.1 c hc j hj;omega);have d0':=ai.cell d0;have d1':=ai.cell d1;have d2':=ai.cell d2;have aA:Hid ((∃ c∈L,c.testBit (24+i)=true)/\∀ c∈L,∀ j,c.testBit (24+j)=true->j<=i):=af ⟨aY,fun c hc j hj=>by have:=hg.1 c hc j hj;omega⟩;have bZ:=ai.size;clear aR hkd ah a_ am bd hx bD ag aH q2 q3 hn' hg aY al ai d0 d1 d2 ay;go_wp2_with fail;refine bY.out.mono ?_;rintro e w4 ⟨⟨hbig,v4,rfl⟩ | ⟨bE,v4,rfl,bf⟩,am⟩
   ·have b_:=af hbig;have bh:=af am;clear hbig am;go_wp2;go_ret3;refine ⟨?_,aN.out.trans (HK.out.trans (aG.out.trans bh.out))⟩;rw [aj.out.1.full aA.out.1 aA.out.2 (by rw [HX.out];exact b_.out)];exact sA _
   ·have cd:=af bE;have bh:=af am;have bF:=af (xE (w3.heap.size) v4 _ w4 bf);obtain ⟨va4,vc4,rfl,_⟩:=bf.slice;have ci:=am.size;clear bE am bf;go_wp2_with fail;refine bF.out.mono ?_;rintro e w6 ⟨⟨v6,rfl,bG⟩,bi⟩;have aS:=af bG;have bj:=af (zj (iP V x i L));obtain ⟨M,hM⟩:∃ M,M=rK (iP V x i L):=⟨_,rfl⟩;rw [<-hM] at aS bj;have bk:=aS.out.len;obtain ⟨va6,vc6,bH,_⟩:=aS.out.slice;obtain ⟨n6,bl⟩:∃ n6,n6=M.length:=⟨_,rfl⟩;rw [<-bl] at bH bk;subst bH;have bo:=af bl;have bI:Hid (gO wo w6):=af (aG.out.trans (bh.out.trans bi));have bp:Hid (gO L1 w6):=af (HK.out.trans bI.out);have cj:=bi.size;clear bl bG bi hM bF;by_cases aJ:1024<n6
    ·have az:(n6:Int) > 1024:=by omega
     go_wp2;go_ret3;refine ⟨?_,aN.out.trans bp.out⟩;rw [aj.out.1.many (M:=M) aA.out.1 aA.out.2 (by rw [HX.out];exact bj.out) (by rw [<-bo.out];exact aJ)];exact sA _
    ·have az:¬ (n6:Int) > 1024:=by omega
     have ck:=af (aj.out.1.next (M:=M) br.out aA.out.1 aA.out.2 (by rw [HX.out];exact cd.out) (by rw [HX.out];exact bj.out) (by rw [<-bo.out];omega));have aK:=af (aP.out.kept bI.out);have cF:=aj.out.2;have bq:(ib st).length=st.length:=by simp [ib]
     have cn:=bp.out.size;go_wp2_with (at_builtin;refine zX rfl _ _ rfl L1.heap.size _ (ib st) rfl (aK.out.kept ((gO.refl _).alloc _)) _ (n6:Int) rfl (by simp) (by rw [bq];omega) (by simp;omega) ?_;intro g7 cap7 w7 ap bJ aL bK;have O7:=af ap;have cq:=af bK;have cr:=af bJ;have ct:=af aL;clear ap bK bJ aL);go_roundg i
     case measure=>omega
     case rel =>
      refine ⟨M,st++[n6],i,_,_,rfl,rfl,Nat.le_refl _,af ⟨by have:=ck.out;rw [<-bo.out] at this;exact this,by simp;omega⟩,af ?_,af ?_,af ?_⟩
      ·exact (g_.stepped (aS.out.kept ((gO.refl _).alloc _)) (aK.out.kept ((gO.refl _).alloc _)) cr.out ct.out).mono (Nat.zero_le _)
      ·have:=O7.out;simpa [ib] using this
      ·exact (bp.out.alloc _).app cq.out
end
theorem Bo (v:Value) (f:Fm) (V T:Nat) (w:World) (hv:ii w v f.nodes) (ag:Ok f V T) (hs:kt V T f=false) :
  Calls Tryz.prog 106 #[.agg #[.int .i64 V,v,.int .i64 T]] w fun e w'=>e=.returned (.tuple #[.slice none 0 0,.slice none 0 0,.int .i64 7])/\gO w w':=by
 have ah:Hid (∀ W,gO w W->Calls Tryz.prog 165 #[.agg #[.int .i64 V,v,.int .i64 T]] W fun e w'=>e=.returned (.int .i64 7)/\gO W w'):=af fun W hk=>by
  have:=wz v f V T W (hv.kept hk) ag;rw [if_neg (by rw [hs];decide)] at this;exact this
 obtain ⟨a,c,rfl,ai⟩:=hv;clear hs ag ai;go_enter Tryz.func106,Tryz.ntmps106;go_wp2_with (go_at_call 165;refine (ah.out _ ((gO.refl _).alloc _)).mono ?_;rintro e w1 ⟨rfl,aj⟩);go_ret3;exact ⟨rfl,((gO.refl _).alloc _).trans aj⟩
theorem sJ (v:Value) (V T q:Nat) (hq:q≠0) (w:World) (hs:∃ a n c,v=.slice a n c) (hr:∀ W,gO w W->Calls Tryz.prog 106 #[.agg #[.int .i64 V,v,.int .i64 T]] W fun e w'=>e=.returned (.tuple #[.slice none 0 0,.slice none 0 0,.int .i64 q])/\gO W w') :
  Calls Tryz.prog 63 #[.agg #[.int .i64 V,v,.int .i64 T]] w fun e w'=>e=.returned (.tuple #[.slice none 0 0,.int .i64 q])/\gO w w':=by
 obtain ⟨a,n,c,rfl⟩:=hs;have H:=af hr;have b1:((q:Int) != 0)=true:=by simp;omega
 clear hr hq;go_enter Tryz.func63,Tryz.ntmps63;go_wp2_with (go_at_call 106;refine (H.out _ ((gO.refl _).alloc _)).mono ?_;rintro e w1 ⟨rfl,ag⟩);go_ret2;exact ⟨rfl,((gO.refl _).alloc _).trans ag⟩
def BZ (w':World) (e:Ending) (p:List Nat × List Nat):Prop:=∃ Z v1 v2 L,e=.returned (.tuple #[v1,v2,.int .i64 0])/\g_ Z w' 0 v1 L/\L.Perm p.1/\OwnInts w' 0 v2 (ib p.2)
theorem BI (v:Value) (V T:Nat) (p:List Nat × List Nat) (w:World) (hg:Good p.1) (hm:∀ r∈p.1,Mk r) (hs:∃ a n c,v=.slice a n c) (hr:∀ W,gO w W->Calls Tryz.prog 106 #[.agg #[.int .i64 V,v,.int .i64 T]] W fun e w'=>BZ w' e p/\gO W w') :
  Calls Tryz.prog 63 #[.agg #[.int .i64 V,v,.int .i64 T]] w fun e w'=>(∃ v',e=.returned (.tuple #[v',.int .i64 0])/\gU w' v' (ib p.1))/\gO w w':=by
 obtain ⟨a,n,c,rfl⟩:=hs;have H:=af hr;have HG:=af hg;have HM:=af hm;clear hr hg hm;go_enter Tryz.func63,Tryz.ntmps63;go_wp2_with (go_at_call 106;refine (H.out _ ((gO.refl _).alloc _)).mono ?_;rintro e w1 ⟨⟨Z1,v1,v2,L,rfl,ai,aw,ay⟩,az⟩;obtain ⟨ln,aj⟩:∃ ln,ln=L.length:=⟨_,rfl⟩;obtain ⟨a1,c1,rfl,_⟩:=ai.slice;obtain ⟨a2,n2,c2,rfl⟩:=ay.ints.shape;rw [<-aj] at ai;rw [<-aj];have O1:=af ai;have am:=af aj;have ap:=af aw;have aP:ln<=20000:=(by rw [aj];exact ai.len);clear aj aw ai ay);have al:=((gO.refl _).alloc _).trans az;have aH:=af al;clear al az;go_loopg [7,21] ln (fun kx s7 s21 wr=>∃ (k:Nat) (vo:Value),s7=vo/\s21=.int .i64 k/\k<=ln/\ln - k<=kx/\Hid (OwnInts wr w1.heap.size vo (ib (L.take k)))/\Hid (gO w1 wr))
 case atStart=>exact ⟨0,_,rfl,rfl,Nat.zero_le _,by omega,af (OwnInts.nil _ _),af (gO.refl _)⟩
 case round =>
  obtain ⟨k,vo,rfl,rfl,hk,aQ,HO,HK⟩:=hrel;have hsz:=HK.out.size;obtain ⟨ao,no,co,aI⟩:=HO.out.ints.shape;subst aI;by_cases aR:k<ln
  ·have aA:k<L.length:=by have:=am.out;omega
   obtain ⟨b,ua,um,uc,rfl,_,_,aB⟩:=(O1.out.kept HK.out).get k aA;have aC:Mk L[k]:=HM.out _ (ap.out.mem_iff.1 (List.getElem_mem _));have aD:iM L[k]=L[k]:=by unfold iM;unfold Mk at aC;omega
   have ag:ib (L.take (k+1))=ib (L.take k)++[((iM L[k]:Nat):Int)]:=by unfold ib;rw [aD,List.take_succ_eq_append_getElem aA,List.map_append];rfl
   have aq:(ib (L.take k)).length=k:=by simp [ib];omega
   have aJ:(k:Int)<(ln:Int):=by omega
   have aK:Hid (wr.rangeAt b (k*2) [.int .i64 (iM L[k]),.slice ua um uc]):=af aB;generalize iM L[k]=z0 at *;have aL:=af ag;clear aB aC aD ag;go_wp2_with (first | (with_reducible refine wpList_load_mid rfl 131 _ rfl b (k*2) rfl _ _ aK.out Tryz.underlying131 rfl (by kernel_rfl) ?_) | (at_builtin;refine kp rfl _ _ rfl w1.heap.size _ (ib (L.take k)) rfl (HO.out.kept (((gO.refl _).alloc _).alloc _)) _ (z0:Int) rfl (by simp) (by rw [aq];omega) (by simp;omega) ?_;intro v7 w7 ah _ aF;have O7:=af ah;have aM:=af aF;clear ah aF));go_roundg (ln - (k+1))
   case measure=>omega
   case rel=>exact ⟨k+1,v7,rfl,by go_num,by omega,Nat.le_refl _,af (by rw [aL.out];exact O7.out),af (((HK.out.alloc _).alloc _).app aM.out)⟩
  ·have aG:k=ln:=by omega
   have HF:Hid (gZ wr (.slice ao no co) L):=af (by have h:=HO.out;rw [aG,am.out,List.take_length] at h;exact ⟨h.ints,fun x hx=>HM.out x (ap.out.mem_iff.1 hx)⟩);have aN:Hid (L.length<=8796093022208):=af (by rw [<-am.out];omega);have aJ:¬ (k:Int)<(ln:Int):=by omega
   clear aG;go_wp2_with (go_at_call 107;refine (rM L.length L _ wr (Nat.le_refl _) HF.out aN.out).mono ?_;rintro e w3 ⟨⟨v3,rfl,ar⟩,aO⟩;obtain ⟨a3,n3,c3,rfl⟩:=ar.1.ints.shape;have O3:=af ar;clear ar);go_ret2
   have he:iA L=p.1:=by
    have hp:p.1.Pairwise lI:=by rw [<-HG.out.1];exact kZ _
    exact kC lI kO mY _ _ (jZ L) hp fun x=>(jG L x).trans ap.out.mem_iff
   exact ⟨⟨_,rfl,by rw [<-he];exact O3.out.1.ints⟩,aH.out.trans (HK.out.trans aO)⟩
theorem Jd (v:Value) (f:Fm) (V T:Nat) (ag:Ok f V T) (aj:jP f=0) (hs:∃ a n c,v=.slice a n c) :
  (∃ q,((q=4/\kt V T f=true/\nc V T f.nodes=none)\/(q=7/\kt V T f=false))/\∀ W,ii W v f.nodes ->
   (Calls Tryz.prog 34 #[.agg #[.int .i64 V,v,.int .i64 T]] W fun e w'=>e=.returned (.tuple #[.slice none 0 0,iV q])/\gO W w') /\
   (Calls Tryz.prog 63 #[.agg #[.int .i64 V,v,.int .i64 T]] W fun e w'=>e=.returned (.tuple #[.slice none 0 0,.int .i64 q])/\gO W w')) ∨
  (∃ p,nc V T f.nodes=some p/\kt V T f=true/\∀ W,ii W v f.nodes ->
   (Calls Tryz.prog 34 #[.agg #[.int .i64 V,v,.int .i64 T]] W fun e w'=>(∃ v',e=.returned (.tuple #[v',.nilIface])/\gU w' v' (ib p.1))/\gO W w') /\
   (Calls Tryz.prog 63 #[.agg #[.int .i64 V,v,.int .i64 T]] W fun e w'=>(∃ v',e=.returned (.tuple #[v',.int .i64 0])/\gU w' v' (ib p.1))/\gO W w')):=by
 have ai:ot v f=.agg #[.int .i64 V,v,.int .i64 T]:=by unfold ot;rw [ag.vars,ag.top]
 cases ah:kt V T f with
 | false =>
  have h7:∀ W,ii W v f.nodes->Calls Tryz.prog 77 #[ot v f] W fun e w'=>e=.returned (.tuple #[.slice none 0 0,.slice none 0 0,iV 7])/\gO W w':=fun W hW=>by
   rw [ai]
   exact wl v V T W hs fun W' hk=>by
    have:=pj v f V T W' (hW.kept hk) ag aj;rw [ah] at this;exact this
  refine .inl ⟨7,.inr ⟨rfl,rfl⟩,fun W hW=>?_⟩;have h1:=pk v f 7 (by omega) W hs (fun W' hk=>h7 W' (hW.kept hk));rw [ai] at h1;exact ⟨h1,sJ v V T 7 (by omega) W hs fun W' hk=>Bo v f V T W' (hW.kept hk) ag ah⟩
 | true =>
  cases hl:nc V T f.nodes with
  | none =>
   have h4:∀ W,ii W v f.nodes->Calls Tryz.prog 77 #[ot v f] W fun e w'=>e=.returned (.tuple #[.slice none 0 0,.slice none 0 0,iV 4])/\gO W w':=fun W hW=>by
    have:=xL v f V T W hW ag aj ah;rw [hl,<-ai] at this;exact this
   have h5:∀ W,ii W v f.nodes->Calls Tryz.prog 106 #[.agg #[.int .i64 V,v,.int .i64 T]] W fun e w'=>e=.returned (.tuple #[.slice none 0 0,.slice none 0 0,.int .i64 4])/\gO W w':=fun W hW=>by
    have:=Cy v f V T W hW ag ah;rw [hl] at this;exact this
   refine .inl ⟨4,.inl ⟨rfl,rfl,rfl⟩,fun W hW=>?_⟩;have h1:=pk v f 4 (by omega) W hs (fun W' hk=>h4 W' (hW.kept hk));rw [ai] at h1;exact ⟨h1,sJ v V T 4 (by omega) W hs fun W' hk=>h5 W' (hW.kept hk)⟩
  | some p =>
   obtain ⟨hg,hm,_⟩:=nC ag ah hl
   have h0:∀ W,ii W v f.nodes->Calls Tryz.prog 77 #[.agg #[.int .i64 V,v,.int .i64 T]] W fun e w'=>wD w' e p/\gO W w':=fun W hW=>by
    have:=xL v f V T W hW ag aj ah;rw [hl] at this;exact this
   have h2:∀ W,ii W v f.nodes->Calls Tryz.prog 106 #[.agg #[.int .i64 V,v,.int .i64 T]] W fun e w'=>BZ w' e p/\gO W w':=fun W hW=>by
    have:=Cy v f V T W hW ag ah;rw [hl] at this;exact this
   exact .inr ⟨p,rfl,rfl,fun W hW=>⟨(zO v V T p W hg hm hs fun W' hk=>h0 W' (hW.kept hk)).mono fun _ _ ⟨⟨v',h1,h3⟩,h4⟩=>⟨⟨v',h1,h3.1.ints⟩,h4⟩,
    BI v V T p W hg hm hs fun W' hk=>h2 W' (hW.kept hk)⟩⟩
theorem Ko (v:Value) (f:Fm) (V T:Nat) (ag:Ok f V T) (aj:jP f=0) (hs:∃ a n c,v=.slice a n c) :
  (∃ q,((q=4/\kt V T f=true/\nc V T f.nodes=none)\/(q=7/\kt V T f=false))/\∀ W,ii W v f.nodes ->
   (Calls Tryz.prog 34 #[.agg #[.int .i64 V,v,.int .i64 T]] W fun e w'=>e=.returned (.tuple #[.slice none 0 0,iV q])/\gO W w')) ∨
  (∃ p,nc V T f.nodes=some p/\kt V T f=true/\∀ W,ii W v f.nodes ->
   (Calls Tryz.prog 34 #[.agg #[.int .i64 V,v,.int .i64 T]] W fun e w'=>(∃ v',e=.returned (.tuple #[v',.nilIface])/\gU w' v' (ib p.1))/\gO W w')):=by
 have ah:ot v f=.agg #[.int .i64 V,v,.int .i64 T]:=by unfold ot;rw [ag.vars,ag.top]
 cases ai:kt V T f with
 | false =>
  have h7:∀ W,ii W v f.nodes->Calls Tryz.prog 77 #[ot v f] W fun e w'=>e=.returned (.tuple #[.slice none 0 0,.slice none 0 0,iV 7])/\gO W w':=fun W hW=>by
   rw [ah]
   exact wl v V T W hs fun W' hk=>by
    have:=pj v f V T W' (hW.kept hk) ag aj;rw [ai] at this;exact this
  refine .inl ⟨7,.inr ⟨rfl,rfl⟩,fun W hW=>?_⟩;have h1:=pk v f 7 (by omega) W hs (fun W' hk=>h7 W' (hW.kept hk));rw [ah] at h1;exact h1
 | true =>
  cases hl:nc V T f.nodes with
  | none =>
   have h4:∀ W,ii W v f.nodes->Calls Tryz.prog 77 #[ot v f] W fun e w'=>e=.returned (.tuple #[.slice none 0 0,.slice none 0 0,iV 4])/\gO W w':=fun W hW=>by
    have:=xL v f V T W hW ag aj ai;rw [hl,<-ah] at this;exact this
   refine .inl ⟨4,.inl ⟨rfl,rfl,rfl⟩,fun W hW=>?_⟩;have h1:=pk v f 4 (by omega) W hs (fun W' hk=>h4 W' (hW.kept hk));rw [ah] at h1;exact h1
  | some p =>
   obtain ⟨hg,hm,_⟩:=nC ag ai hl
   have h0:∀ W,ii W v f.nodes->Calls Tryz.prog 77 #[.agg #[.int .i64 V,v,.int .i64 T]] W fun e w'=>wD w' e p/\gO W w':=fun W hW=>by
    have:=xL v f V T W hW ag aj ai;rw [hl] at this;exact this
   exact .inr ⟨p,rfl,rfl,fun W hW=>(zO v V T p W hg hm hs fun W' hk=>h0 W' (hW.kept hk)).mono fun _ _ ⟨⟨v',h1,h3⟩,h4⟩=>⟨⟨v',h1,h3.1.ints⟩,h4⟩⟩
def z' (ps:List Rw) (c:List Nat):Option (List Nat)->Nat × Rat × Rat
 | none=>(4,0,0)
 | some l=>(0,mH (ir (gQ ps) l) (ik (fQ ps) c),mI (1 - ir (fQ ps) c) (1 - ik (gQ ps) l))
def oD (V T:Nat) (f:Fm) (ps:List Rw):Nat × Rat × Rat :=
 if ps.length≠V then (11,0,0) else if kQ ps=true then (3,0,0) else if kt V T f=false then (7,0,0) else
  match nc V T f.nodes with
  | none=>(4,0,0)
  | some p=>z' ps p.1 (kD V T f.nodes)
theorem Hh (V T:Nat) (f:Fm) (ps:List Rw):(oD V T f ps).1<=100:=by
 unfold oD;split
 ·simp
 ·split
  ·simp
  ·split
   ·simp
   ·split
    ·simp
    ·cases kD V T f.nodes <;> simp [z']
theorem SpanV.nought (w:World):SpanV w (.agg #[.bool false,.slice none 0 0,.slice none 0 0,.bool false,.slice none 0 0,.slice none 0 0]) ⟨false,[],[]⟩ ⟨false,[],[]⟩ :=
 ⟨_,_,_,_,rfl,WdsAt.nil w,WdsAt.nil w,WdsAt.nil w,WdsAt.nil w⟩
theorem oY {s V:Nat} {ps:List Rw} (hV:ps.length=V) (ag:V<=24) (h:s<2^V):s<16777216/\oy s<(ps.length:Int):=by
 have h1:s<2^24:=Nat.lt_of_lt_of_le h (Nat.pow_le_pow_right (by omega) ag);refine ⟨h1,?_⟩;have h2:Lib.bitLen s<=V:=Lib.bitLen_le s V (by omega) h;unfold oy;omega
theorem qJ (v pv:Value) (f:Fm) (V T:Nat) (ps:List Rw) (w:World) (hv:ii w v f.nodes) (aA:Ok f V T) (bC:jP f=0) (hp:RatsAt w pv ps) (h3:∀ r∈ps,r.Short 3) (ck:ps.length<=30) :
  Calls Tryz.prog 20 #[.agg #[.int .i64 V,v,.int .i64 T],pv] w fun e w'=>(∃ v',e=.returned (.tuple #[v',iV (oD V T f ps).1])/\SpanV w' v' (gR (oD V T f ps).2.1) (gR (oD V T f ps).2.2))/\gO w w':=by
 have db:Hid (∀ W,gO w W->Calls Tryz.prog 30 #[.agg #[.int .i64 V,v,.int .i64 T]] W fun e w'=>e=.returned .nilIface/\gO W w'):=af fun W hk=>by
  have h:=mf v f W (hv.kept hk) (by rw [aA.top];have:=aA.tlt;have:=aA.n128;have:=aA.v24;omega);rw [bC,kj] at h;unfold ot at h;rw [aA.vars,aA.top] at h;exact h
 have aT:=af (fun W (h:gO w W)=>vC pv ps W (hp.kept h) (fun r hr=>⟨Nat.le_trans (h3 r hr).1 (by omega),Nat.le_trans (h3 r hr).2 (by omega)⟩));have aU:=hp.ok;have HV:=af hv;have HP:=af hp;have HO:=af aA;have cn:=af bC;have bq:=af h3;have br:=af ck;have aV:=af aU;obtain ⟨va,vn,vc,rfl⟩:∃ a n c,v=.slice a n c:=by obtain ⟨a,c,h,_⟩:=hv;exact ⟨a,_,c,h⟩
 obtain ⟨pa,pc,rfl⟩:=hp.shape;obtain ⟨pn,bD⟩:∃ pn,pn=ps.length:=⟨_,rfl⟩;obtain ⟨B,hB⟩:∃ B,B=oD V T f ps:=⟨_,rfl⟩;rw [<-hB];unfold oD at hB;rw [<-bD] at aT HP hB⊢;have aM:=af bD;have HB:=af hB;obtain ⟨w1,aW⟩:∃ w1,w1=w.alloc (.cells #[.int .i64 V,.slice va vn vc,.int .i64 T] 41):=⟨_,rfl⟩;have bE:=gS.made w #[.int .i64 V,.slice va vn vc,.int .i64 T] 41;rw [<-aW] at bE;have cq:w1.heap.size=w.heap.size+1:=by rw [aW];simp
 obtain ⟨w2,aX⟩:∃ w2,w2=w1.alloc (.cells #[.bool false,.slice none 0 0,.slice none 0 0,.bool false,.slice none 0 0,.slice none 0 0] 44):=⟨_,rfl⟩;have bF:Hid (gO w1 w2):=af (by rw [aX];exact (gO.refl _).alloc _);have cr:Hid (gO w w2):=af (by rw [aX,aW];exact ((gO.refl _).alloc _).alloc _);have dd:Hid (SpnAt w2 (w.heap.size+1) ⟨false,[],[]⟩ ⟨false,[],[]⟩):=af (by rw [aX,<-cq];exact SpnAt.zero w1);have de:=af (bE.kept bF.out);have df:Hid (w2=(w.alloc (.cells #[.int .i64 V,.slice va vn vc,.int .i64 T] 41)).alloc (.cells #[.bool false,.slice none 0 0,.slice none 0 0,.bool false,.slice none 0 0,.slice none 0 0] 44)):=af (by rw [aX,aW]);clear hv hp aA bC h3 ck aU bD hB aW aX bE cq;go_enter Tryz.func20,Tryz.ntmps20;go_wp2_with fail;rw [<-df.out];refine (db.out _ cr.out).mono ?_;rintro e w3 ⟨rfl,bt⟩;have aY:=af (cr.out.trans bt);have aF:=af (dd.out.kept bt);have aZ:=af (de.out.kept bt);have b0:=aZ.out.cell (i:=0) (by simp);have b1:=aZ.out.cell (i:=1) (by simp);have b2:=aZ.out.cell (i:=2) (by simp);simp only [List.getElem_cons_succ,List.getElem_cons_zero] at b0 b1 b2;have dv:=aZ.out.lt;clear bt;by_cases al:pn=V
 ·have aN:=af al;have dg:((pn:Int) != (V:Int))=false:=by simp [al]
  clear al;cases aj:kQ ps with
  | true =>
   rw [aj] at aT;have a_:=af aj;clear aj;go_wp2_with fail;refine (aT.out _ aY.out).mono ?_;rintro e w4 ⟨rfl,aB⟩;have aC:=af (aY.out.trans aB);have aO:=af (aF.out.kept aB);clear aB b0 b1 b2;have HE:Hid (B=(3,0,0)):=af (by have h:=HB.out;rw [if_neg (by rw [aN.out];simp),a_.out,if_pos rfl] at h;exact h);obtain ⟨n1,l1,m1,n2,l2,m2,a1,c1,a2,c2,a3,c3,a4,c4,w9,he,am,⟨⟨z0,p0⟩,⟨z1,p1⟩,⟨z2,p2⟩,⟨z3,p3⟩,⟨z4,p4⟩,⟨z5,p5⟩⟩,⟨f0,f1,f2,f3,f4,f5⟩,bG,Y,ag,_,_,ah⟩:=aO.out.put (SpanV.nought _);have ai:=af (ah.out _ aC.out (by first | exact Nat.le_refl _ | omega));simp only [Value.agg.injEq,Array.mk.injEq,List.cons.injEq,Value.bool.injEq,Value.slice.injEq,and_true] at he;obtain ⟨rfl,⟨rfl,rfl,rfl⟩,⟨rfl,rfl,rfl⟩,rfl,⟨rfl,rfl,rfl⟩,rfl,rfl,rfl⟩:=he;rw [am] at Y ag ai;clear am ah;go_wp2;refine bodyPost_ret (v:=.tuple #[.agg #[.bool false,.slice none 0 0,.slice none 0 0,.bool false,.slice none 0 0,.slice none 0 0],.iface 60 (.int .i64 3)]) ?_ rfl ⟨⟨_,by rw [HE.out];rfl,by rw [HE.out];exact ag.out⟩,ai.out⟩;simp [results,Tryz.results20,go_sem,Y.out.1,Y.out.2.1,Y.out.2.2.1,Y.out.2.2.2.1,Y.out.2.2.2.2.1,Y.out.2.2.2.2.2]
  | false =>
   rw [aj] at aT;have a_:=af aj;clear aj;go_wp2_with fail;refine (aT.out _ aY.out).mono ?_;rintro e w4 ⟨rfl,aB⟩;have aC:=af (aY.out.trans aB);have aO:=af (aF.out.kept aB);have aP:=af (aZ.out.kept aB);clear aB b0 b1 b2;have b0:=aP.out.cell (i:=0) (by simp);have b1:=aP.out.cell (i:=1) (by simp);have b2:=aP.out.cell (i:=2) (by simp);simp only [List.getElem_cons_succ,List.getElem_cons_zero] at b0 b1 b2
   have ct:Hid (B=if kt V T f=false then (7,0,0) else match nc V T f.nodes with
    | none=>(4,0,0)
    | some p=>z' ps p.1 (kD V T f.nodes)):=af (by have h:=HB.out;rw [if_neg (by rw [aN.out];simp),a_.out,if_neg (by simp)] at h;exact h)
   go_wp2_with fail;rcases Ko (.slice va vn vc) f V T HO.out cn.out ⟨_,_,_,rfl⟩ with ⟨q,hq,bd⟩ | ⟨p,hl,bf,bd⟩
   ·have bw:=af (bd w4 (HV.out.kept aC.out))
    have HE:Hid (B=(q,0,0)):=af (by
     have h:=ct.out;rcases hq with ⟨rfl,h1,h2⟩ | ⟨rfl,h1⟩
     ·rw [h1,if_neg (by simp),h2] at h;exact h
     ·rw [h1,if_pos rfl] at h;exact h)
    have cu:q≠0:=by rcases hq with ⟨rfl,_⟩ | ⟨rfl,_⟩ <;> decide
    have dh:((q:Nat):Int)≠0:=by omega
    have dw:(((q:Nat):Int) != 0)=true:=by simpa using dh
    have bH:iV q=.iface 60 (.int .i64 q):=iF cu;rw [bH] at bw;have di:=af bH;clear bd hq cu bH;refine bw.out.mono ?_;rintro e w5 ⟨rfl,aw⟩;have aQ:=af (aC.out.trans aw);have bz:=af (aO.out.kept aw);clear aw b0 b1 b2;obtain ⟨n1,l1,m1,n2,l2,m2,a1,c1,a2,c2,a3,c3,a4,c4,w9,he,am,⟨⟨z0,p0⟩,⟨z1,p1⟩,⟨z2,p2⟩,⟨z3,p3⟩,⟨z4,p4⟩,⟨z5,p5⟩⟩,⟨f0,f1,f2,f3,f4,f5⟩,bG,Y,ag,_,_,ah⟩:=bz.out.put (SpanV.nought _);have ai:=af (ah.out _ aQ.out (by first | exact Nat.le_refl _ | omega));simp only [Value.agg.injEq,Array.mk.injEq,List.cons.injEq,Value.bool.injEq,Value.slice.injEq,and_true] at he;obtain ⟨rfl,⟨rfl,rfl,rfl⟩,⟨rfl,rfl,rfl⟩,rfl,⟨rfl,rfl,rfl⟩,rfl,rfl,rfl⟩:=he;rw [am] at Y ag ai;clear am ah;go_wp2;refine bodyPost_ret (v:=.tuple #[.agg #[.bool false,.slice none 0 0,.slice none 0 0,.bool false,.slice none 0 0,.slice none 0 0],.iface 60 (.int .i64 (q:Nat))]) ?_ rfl ⟨⟨_,by rw [HE.out];exact congrArg (fun x=>Ending.returned (.tuple #[_,x])) di.out.symm,by rw [HE.out];exact ag.out⟩,ai.out⟩;simp [results,Tryz.results20,go_sem,Y.out.1,Y.out.2.1,Y.out.2.2.1,Y.out.2.2.2.1,Y.out.2.2.2.2.1,Y.out.2.2.2.2.2]
   ·have bA:=af bf;have dx:=af hl;obtain ⟨ap,dj,_⟩:=nC HO.out bf hl;have bw:=af (bd w4 (HV.out.kept aC.out));have bI:Hid (∀ s∈p.1,s<16777216/\oy s<(ps.length:Int)):=af fun s hs=>oY (by rw [<-aM.out];exact aN.out) HO.out.v24 (sK HO.out bf hl s hs)
    have bJ:Hid (p.1.length<=1024):=af ap.2;have dy:=af ap;obtain ⟨z,hz⟩:∃ z,z=kD V T f.nodes:=⟨_,rfl⟩;have HZ:=af hz
    have cw:Hid (∀ W,gO w W->Calls Tryz.prog 36 #[.agg #[.int .i64 V,.slice va vn vc,.int .i64 T]] W fun e w'=>kP w' 0 e z/\gO W w'):=af fun W hk=>by
     rw [hz];exact Ba _ f V T W (HV.out.kept hk) HO.out cn.out bA.out (Kp HO.out bA.out)
    have cz:Hid (B=z' ps p.1 z):=af (by have h:=ct.out;rw [bf,if_neg (by simp),hl] at h;rw [hz];exact h);clear bd hl bf ap dj hz;refine bw.out.mono ?_;rintro e w5 ⟨⟨v5,rfl,cC⟩,aw⟩;have aQ:=af (aC.out.trans aw);have bz:=af (aO.out.kept aw);have dl:=af cC;clear b0 b1 b2;have b0:=(aP.out.kept aw).cell (i:=0) (by simp);have b1:=(aP.out.kept aw).cell (i:=1) (by simp);have b2:=(aP.out.kept aw).cell (i:=2) (by simp);simp only [List.getElem_cons_succ,List.getElem_cons_zero] at b0 b1 b2;clear cC aw;go_wp2_with fail;cases z with
    | none =>
     refine (cw.out _ aQ.out).mono ?_;rintro e w6 ⟨he,aD⟩;unfold kP at he;subst he;have aG:=af (aQ.out.trans aD);have bK:=af (bz.out.kept aD);clear aD b0 b1 b2;rw [iF (show (4:Nat)≠0 by decide)];have HE:Hid (B=(4,0,0)):=cz;obtain ⟨n1,l1,m1,n2,l2,m2,a1,c1,a2,c2,a3,c3,a4,c4,w9,he,am,⟨⟨z0,p0⟩,⟨z1,p1⟩,⟨z2,p2⟩,⟨z3,p3⟩,⟨z4,p4⟩,⟨z5,p5⟩⟩,⟨f0,f1,f2,f3,f4,f5⟩,bG,Y,ag,_,_,ah⟩:=bK.out.put (SpanV.nought _);have ai:=af (ah.out _ aG.out (by first | exact Nat.le_refl _ | omega));simp only [Value.agg.injEq,Array.mk.injEq,List.cons.injEq,Value.bool.injEq,Value.slice.injEq,and_true] at he;obtain ⟨rfl,⟨rfl,rfl,rfl⟩,⟨rfl,rfl,rfl⟩,rfl,⟨rfl,rfl,rfl⟩,rfl,rfl,rfl⟩:=he;rw [am] at Y ag ai;clear am ah;go_wp2;refine bodyPost_ret (v:=.tuple #[.agg #[.bool false,.slice none 0 0,.slice none 0 0,.bool false,.slice none 0 0,.slice none 0 0],.iface 60 (.int .i64 4)]) ?_ rfl ⟨⟨_,by rw [HE.out];rfl,by rw [HE.out];exact ag.out⟩,ai.out⟩;simp [results,Tryz.results20,go_sem,Y.out.1,Y.out.2.1,Y.out.2.2.1,Y.out.2.2.2.1,Y.out.2.2.2.2.1,Y.out.2.2.2.2.2]
    | some l =>
     refine (cw.out _ aQ.out).mono ?_;rintro e w6 ⟨⟨v6,rfl,bL⟩,aD⟩;have aG:=af (aQ.out.trans aD);have bK:=af (bz.out.kept aD);have cD:=af (dl.out.kept aD);have cE:=af bL.1.ints;obtain ⟨cF,_⟩:=qf HO.out bA.out HZ.out.symm;have bh:∀ s∈l,s<16777216/\oy s<(ps.length:Int):=fun s hs=>oY (by rw [<-aM.out];exact aN.out) HO.out.v24 (qS HO.out bA.out HZ.out.symm bL.2 s hs)
     have bB:l.length<=1024:=cF.2;have aq:∀ s∈p.1,(gR (fQ ps s)).Short 91:=fun s _=>oX aV.out bq.out br.out s
     have ar:∀ s∈l,(gR (gQ ps s)).Short 91:=fun s _=>qK aV.out a_.out bq.out br.out s
     have sF:=jV bJ.out aq;have sG:=jV bB ar;have gF:=kH aq;have gG:=kH ar;have sF2:=kF sF (by decide);have gG2:=kF gG (by decide);obtain ⟨R1,bM⟩:∃ R1,R1=gR (mH (ir (gQ ps) l) (ik (fQ ps) p.1)):=⟨_,rfl⟩;obtain ⟨R2,bN⟩:∃ R2,R2=gR (mI (1 - ir (fQ ps) p.1) (1 - ik (gQ ps) l)):=⟨_,rfl⟩;clear aD bL b0 b1 b2;have cG:Hid (∀ s∈p.1,∀ W,gO w W->Calls Tryz.prog 49 #[.int .i64 s,.slice pa pn pc] W fun e w'=>(∃ v',e=.returned v'/\RatAt w' v' (gR (fQ ps s)))/\gO W w'):=af fun s hs W h=>oE s _ ps W (bI.out s hs).1 (by rw [aM.out];rw [aM.out] at HP;exact HP.out.kept h) bq.out br.out
     have cH:Hid (∀ s∈l,∀ W,gO w W->Calls Tryz.prog 54 #[.int .i64 s,.slice pa pn pc] W fun e w'=>(∃ v',e=.returned v'/\RatAt w' v' (gR (gQ ps s)))/\gO W w'):=af fun s hs W h=>sj s _ ps W (bh s hs).1 (by rw [aM.out];rw [aM.out] at HP;exact HP.out.kept h) bq.out br.out a_.out
     have cI:Hid (∀ W,gO w6 W->Calls Tryz.prog 48 #[v6,.slice pa pn pc,.func (.func 54) #[] #[]] W fun e w'=>(∃ v',e=.returned v'/\RatAt w' v' (gR (ir (gQ ps) l)))/\gO W w'):=af fun W h =>
      esnone_any 54 (enters_of Tryz.func54 (by kernel_rfl) rfl) (gQ ps) l _ _ W (cE.out.kept h) bB ar (fun s hs W2 h1=>cH.out s hs W2 (aG.out.trans (h.trans h1)))
     have cJ:Hid (∀ W,gO w6 W->Calls Tryz.prog 58 #[v5,.slice pa pn pc,.func (.func 49) #[] #[]] W fun e w'=>(∃ v',e=.returned v'/\RatAt w' v' (gR (ik (fQ ps) p.1)))/\gO W w'):=af fun W h =>
      se 49 (enters_of Tryz.func49 (by kernel_rfl) rfl) (fQ ps) p.1 _ _ W (cD.out.kept h) bJ.out aq (fun s hs W2 h1=>cG.out s hs W2 (aG.out.trans (h.trans h1)))
     have cK:Hid (∀ W,gO w6 W->Calls Tryz.prog 48 #[v5,.slice pa pn pc,.func (.func 49) #[] #[]] W fun e w'=>(∃ v',e=.returned v'/\RatAt w' v' (gR (ir (fQ ps) p.1)))/\gO W w'):=af fun W h =>
      esnone_any 49 (enters_of Tryz.func49 (by kernel_rfl) rfl) (fQ ps) p.1 _ _ W (cD.out.kept h) bJ.out aq (fun s hs W2 h1=>cG.out s hs W2 (aG.out.trans (h.trans h1)))
     have cL:Hid (∀ W,gO w6 W->Calls Tryz.prog 58 #[v6,.slice pa pn pc,.func (.func 54) #[] #[]] W fun e w'=>(∃ v',e=.returned v'/\RatAt w' v' (gR (ik (gQ ps) l)))/\gO W w'):=af fun W h =>
      se 54 (enters_of Tryz.func54 (by kernel_rfl) rfl) (gQ ps) l _ _ W (cE.out.kept h) bB ar (fun s hs W2 h1=>cH.out s hs W2 (aG.out.trans (h.trans h1)))
     have bO:Hid (∀ W u1 u2,RatAt W u1 (gR (ir (gQ ps) l))->RatAt W u2 (gR (ik (fQ ps) p.1))->Calls Tryz.prog 57 #[u1,u2] W fun e w'=>(∃ v',e=.returned v'/\RatAt w' v' R1)/\gO W w'):=af fun W u1 u2 k1 k2=>by
      have h:=uA u1 u2 _ _ W k1 k2 ⟨Nat.le_trans sG.1 (by omega),Nat.le_trans sG.2 (by omega)⟩ ⟨Nat.le_trans gF.1 (by omega),Nat.le_trans gF.2 (by omega)⟩;rw [gV,gV,<-bM] at h;exact h
     have cM:Hid (∀ W u,RatAt W u (gR (ir (fQ ps) p.1))->Calls Tryz.prog 47 #[u] W fun e w'=>(∃ v',e=.returned v'/\RatAt w' v' (gR (1 - ir (fQ ps) p.1)))/\gO W w'):=af fun W u hu=>by
      have h:=np u _ W hu (uK sF);rw [gV] at h;exact h
     have cN:Hid (∀ W u,RatAt W u (gR (ik (gQ ps) l))->Calls Tryz.prog 47 #[u] W fun e w'=>(∃ v',e=.returned v'/\RatAt w' v' (gR (1 - ik (gQ ps) l)))/\gO W w'):=af fun W u hu=>by
      have h:=np u _ W hu (uK gG);rw [gV] at h;exact h
     have bP:Hid (∀ W u1 u2,RatAt W u1 (gR (1 - ir (fQ ps) p.1))->RatAt W u2 (gR (1 - ik (gQ ps) l))->Calls Tryz.prog 59 #[u1,u2] W fun e w'=>(∃ v',e=.returned v'/\RatAt w' v' R2)/\gO W w'):=af fun W u1 u2 k1 k2=>by
      have h:=zv u1 u2 _ _ W k1 k2 ⟨Nat.le_trans sF2.1 (by omega),Nat.le_trans sF2.2 (by omega)⟩ ⟨Nat.le_trans gG2.1 (by omega),Nat.le_trans gG2.2 (by omega)⟩;rw [gV,gV,<-bN] at h;exact h
     have aR:Hid (gR (mH (ir (gQ ps) l) (ik (fQ ps) p.1))=R1/\gR (mI (1 - ir (fQ ps) p.1) (1 - ik (gQ ps) l))=R2):=af ⟨bM.symm,bN.symm⟩;have aS:Hid (B=(0,mH (ir (gQ ps) l) (ik (fQ ps) p.1),mI (1 - ir (fQ ps) p.1) (1 - ik (gQ ps) l))):=cz;clear cF bh bB aq ar sF sG gF gG sF2 gG2 bM bN;obtain ⟨x1,cO⟩:∃ x,x=ir (gQ ps) l:=⟨_,rfl⟩;obtain ⟨x2,cP⟩:∃ x,x=ik (fQ ps) p.1:=⟨_,rfl⟩;obtain ⟨x3,cQ⟩:∃ x,x=ir (fQ ps) p.1:=⟨_,rfl⟩;obtain ⟨x4,cR⟩:∃ x,x=ik (gQ ps) l:=⟨_,rfl⟩;rw [<-cO] at cI bO aR aS;rw [<-cP] at cJ bO aR aS;rw [<-cQ] at cK cM bP aR aS;rw [<-cR] at cL cN bP aR aS;clear cO cP cQ cR;go_wp2_with fail;refine (cI.out _ (gO.refl _)).mono ?_;rintro e w7 ⟨⟨v7,rfl,cS⟩,cU⟩;have dm:=af cS;have cV:=af cU;clear cS cU;go_wp2_with fail;refine (cJ.out _ cV.out).mono ?_;rintro e w8 ⟨⟨v8,rfl,cW⟩,bQ⟩;have dp:=af cW;have dq:=af (dm.out.kept bQ);have dr:=af (cV.out.trans bQ);clear cW bQ;go_wp2_with fail;refine (bO.out _ _ _ dq.out dp.out).mono ?_;rintro e w9 ⟨⟨v9,rfl,cX⟩,cZ⟩;have dt:=af cX;have c_:=af (dr.out.trans cZ);clear cX cZ;go_wp2_with fail;refine (cK.out _ c_.out).mono ?_;rintro e w10 ⟨⟨v10,rfl,bi⟩,aH⟩;have bR:=af bi;have bS:=af (dt.out.kept aH);have bT:=af (c_.out.trans aH)
     clear bi aH;go_wp2_with fail;refine (cM.out _ _ bR.out).mono ?_;rintro e w11 ⟨⟨v11,rfl,bj⟩,aI⟩;have bU:=af bj;have bV:=af (bS.out.kept aI);have bk:=af (bT.out.trans aI);clear bj aI;go_wp2_with fail;refine (cL.out _ bk.out).mono ?_;rintro e w12 ⟨⟨v12,rfl,bl⟩,ay⟩;have bW:=af bl;have bX:=af (bV.out.kept ay);have bY:=af (bU.out.kept ay);have bZ:=af (bk.out.trans ay);clear bl ay;go_wp2_with fail;refine (cN.out _ _ bW.out).mono ?_;rintro e w13 ⟨⟨v13,rfl,bo⟩,az⟩;have b_:=af bo;have cd:=af (bX.out.kept az);have ci:=af (bY.out.kept az);have cj:=af (bZ.out.trans az);clear bo az;go_wp2_with fail;refine (bP.out _ _ _ ci.out b_.out).mono ?_;rintro e w14 ⟨⟨v14,rfl,aJ⟩,aK⟩;have aL:=cj.out.trans aK;have ha:=cd.out.kept aK;obtain ⟨d1,d2,d3,d4,d5,d6,d7,rfl⟩:=aJ.parts;obtain ⟨g1,g2,g3,g4,g5,g6,g7,rfl⟩:=ha.parts;have da:=SpanV.of2 ha aJ;obtain ⟨z1,z2,z3,z4,z5,z6,y1,y2,y3,y4,y5,y6,y7,y8,w17,he,bp,⟨⟨z0,p0⟩,⟨zz1,p1⟩,⟨zz2,p2⟩,⟨zz3,p3⟩,⟨zz4,p4⟩,⟨zz5,p5⟩⟩,⟨f0,f1,f2,f3,f4,f5⟩,du,Y,ag,_,_,ah⟩:=(bK.out.kept aL).put da;simp only [Value.agg.injEq,Array.mk.injEq,List.cons.injEq,Value.bool.injEq,Value.slice.injEq,and_true] at he;obtain ⟨rfl,⟨rfl,rfl,rfl⟩,⟨rfl,rfl,rfl⟩,rfl,⟨rfl,rfl,rfl⟩,rfl,rfl,rfl⟩:=he
     have ai:=af (ah.out _ (aG.out.trans aL) (by omega));rw [bp] at Y ag ai;clear aJ aK ha aL da bp ah;go_wp2;refine bodyPost_ret (v:=.tuple #[.agg #[.bool g1,.slice g4 g2 g5,.slice g6 g3 g7,.bool d1,.slice d4 d2 d5,.slice d6 d3 d7],.nilIface]) ?_ rfl ⟨⟨_,by rw [aS.out];rfl,by rw [aS.out];show SpanV _ _ (gR _) (gR _);rw [aR.out.1,aR.out.2];exact ag.out⟩,ai.out⟩;simp [results,Tryz.results20,go_sem,Y.out.1,Y.out.2.1,Y.out.2.2.1,Y.out.2.2.2.1,Y.out.2.2.2.2.1,Y.out.2.2.2.2.2]
 ·have aN:=af al;have dg:((pn:Int) != (V:Int))=true:=by simp;omega
  clear al;have aC:=aY;have aO:=aF;have HE:Hid (B=(11,0,0)):=af (by have h:=HB.out;rw [if_pos aN.out] at h;exact h);obtain ⟨n1,l1,m1,n2,l2,m2,a1,c1,a2,c2,a3,c3,a4,c4,w9,he,am,⟨⟨z0,p0⟩,⟨z1,p1⟩,⟨z2,p2⟩,⟨z3,p3⟩,⟨z4,p4⟩,⟨z5,p5⟩⟩,⟨f0,f1,f2,f3,f4,f5⟩,bG,Y,ag,_,_,ah⟩:=aO.out.put (SpanV.nought _);have ai:=af (ah.out _ aC.out (by first | exact Nat.le_refl _ | omega));simp only [Value.agg.injEq,Array.mk.injEq,List.cons.injEq,Value.bool.injEq,Value.slice.injEq,and_true] at he;obtain ⟨rfl,⟨rfl,rfl,rfl⟩,⟨rfl,rfl,rfl⟩,rfl,⟨rfl,rfl,rfl⟩,rfl,rfl,rfl⟩:=he;rw [am] at Y ag ai;clear am ah;go_wp2;refine bodyPost_ret (v:=.tuple #[.agg #[.bool false,.slice none 0 0,.slice none 0 0,.bool false,.slice none 0 0,.slice none 0 0],.iface 60 (.int .i64 11)]) ?_ rfl ⟨⟨_,by rw [HE.out];rfl,by rw [HE.out];exact ag.out⟩,ai.out⟩;simp [results,Tryz.results20,go_sem,Y.out.1,Y.out.2.1,Y.out.2.2.1,Y.out.2.2.2.1,Y.out.2.2.2.2.1,Y.out.2.2.2.2.2]
theorem BF (v:Value) (a b:Rat) (w:World) (hv:SpanV w v (gR a) (gR b)) (ha:(gR a).Short 200000) (hb:(gR b).Short 200000) (hab:a<=b):Calls Tryz.prog 37 #[v] w fun e w'=>e=.returned (.bool true)/\gO w w':=by
 have ap:Hid (∀ x,(gR x).Short 200000->∀ W u,RatAt W u (gR x)->Calls Tryz.prog 68 #[u] W fun e w'=>e=.returned (.bool true)/\gO W w'):=af fun x hx W u hu=>by
  have h:=nX u _ W hu ⟨Nat.le_trans hx.1 (by omega),Nat.le_trans hx.2 (by omega)⟩;rw [nF] at h;exact h
 obtain ⟨S,hS⟩:∃ S,S=kr (a - b):=⟨_,rfl⟩;have ar:S<=0:=by rw [hS];exact (q_ a b).2 hab
 have aC:Hid (∀ W u1 u2,RatAt W u1 (gR a)->RatAt W u2 (gR b)->Calls Tryz.prog 29 #[u1,u2] W fun e w'=>e=.returned (.int .i64 S)/\gO W w'):=af fun W u1 u2 k1 k2=>by
  have h:=ud u1 u2 _ _ W k1 k2 ⟨Nat.le_trans ha.1 (by omega),Nat.le_trans ha.2 (by omega)⟩ ⟨Nat.le_trans hb.1 (by omega),Nat.le_trans hb.2 (by omega)⟩;rw [gV,gV,<-hS] at h;exact h
 have aD:=af (ap.out a ha);have aF:=af (ap.out b hb);obtain ⟨a1,c1,a2,c2,a3,c3,a4,c4,rfl,h1,h2,h3,h4⟩:=hv.shape;obtain ⟨w1,ah⟩:∃ w1,w1=w.alloc (.cells #[.bool (gR a).neg,.slice a1 (gR a).num.length c1,.slice a2 (gR a).den.length c2,.bool (gR b).neg,.slice a3 (gR b).num.length c3,.slice a4 (gR b).den.length c4] 44):=⟨_,rfl⟩;have aI:Hid (SpnAt w1 w.heap.size (gR a) (gR b)):=af (by rw [ah];exact SpnAt.made h1 h2 h3 h4);have aw:Hid (gO w w1):=af (by rw [ah];exact (gO.refl _).alloc _);have ai:=aw.out;have y1:=h1.kept ai;have y2:=h2.kept ai;have y3:=h3.kept ai;have y4:=h4.kept ai;have ay:Hid (∀ W,gO w1 W->RatAt W (.agg #[.bool (gR a).neg,.slice a1 (gR a).num.length c1,.slice a2 (gR a).den.length c2]) (gR a)):=af fun W h=>⟨_,_,rfl,y1.kept h,y2.kept h⟩
 have az:Hid (∀ W,gO w1 W->RatAt W (.agg #[.bool (gR b).neg,.slice a3 (gR b).num.length c3,.slice a4 (gR b).den.length c4]) (gR b)):=af fun W h=>⟨_,_,rfl,y3.kept h,y4.kept h⟩
 have aj:gS w1 w.heap.size 44 [.bool (gR a).neg,.slice a1 (gR a).num.length c1,.slice a2 (gR a).den.length c2,.bool (gR b).neg,.slice a3 (gR b).num.length c3,.slice a4 (gR b).den.length c4]:=by
  rw [ah];exact gS.made w #[.bool (gR a).neg,.slice a1 (gR a).num.length c1,.slice a2 (gR a).den.length c2,.bool (gR b).neg,.slice a3 (gR b).num.length c3,.slice a4 (gR b).den.length c4] 44
 have am:=af aj;have x0:=aj.cell (i:=0) (by simp);have x1:=aj.cell (i:=1) (by simp);have x2:=aj.cell (i:=2) (by simp);simp only [List.getElem_cons_succ,List.getElem_cons_zero] at x0 x1 x2;have aG:=af ah;have dS:decide (S<=0)=true:=decide_eq_true ar;generalize (gR a).neg=e0 at *;generalize (gR a).num.length=e1 at *;generalize (gR a).den.length=e2 at *;generalize (gR b).neg=e3 at *;generalize (gR b).num.length=e4 at *;generalize (gR b).den.length=e5 at *;clear hv ha hb hab hS ah h1 h2 h3 h4 y1 y2 y3 y4 aj ai ap;go_enter Tryz.func37,Tryz.ntmps37;go_wp2_with fail;rw [<-aG.out];refine (aD.out _ _ (ay.out _ (gO.refl _))).mono ?_;rintro e w2 ⟨rfl,al⟩;have z3:=(am.out.kept al).cell (i:=3) (by simp);have z4:=(am.out.kept al).cell (i:=4) (by simp);have z5:=(am.out.kept al).cell (i:=5) (by simp);simp only [List.getElem_cons_succ,List.getElem_cons_zero] at z3 z4 z5;have aA:=af al;clear al x0 x1 x2;go_wp2_with fail;refine (aF.out _ _ (az.out _ aA.out)).mono ?_;rintro e w3 ⟨rfl,aB⟩;have ag:=aA.out.trans aB;have aq:=af ag;have q:=fun i (hi:i<6)=>(am.out.kept ag).cell (i:=i) (by simpa using hi)
 have q0:=q 0 (by omega);have q1:=q 1 (by omega);have q2:=q 2 (by omega);have q3:=q 3 (by omega);have q4:=q 4 (by omega);have q5:=q 5 (by omega);simp only [List.getElem_cons_succ,List.getElem_cons_zero] at q0 q1 q2 q3 q4 q5;clear aB ag z3 z4 z5 q;go_wp2_with fail;refine (aC.out _ _ _ (ay.out _ aq.out) (az.out _ aq.out)).mono ?_;rintro e w4 ⟨rfl,aH⟩;go_wp2;go_ret;exact ⟨by first | rfl | simp [ar],aw.out.trans (aq.out.trans aH)⟩
theorem Ix (g:Nat) (a b:Rat) (w:World) (hv:ArrAt w g 29 [gR a,gR b]) (ha:(gR a).Short 200000) (hb:(gR b).Short 200000) (hab:a<=b):Calls Tryz.prog 140 #[.slice (some ⟨g,0,none⟩) 2 2] w fun e w'=>(∃ v',e=.returned v'/\SpanV w' v' (gR a) (gR b))/\gO w w':=by
 have aw:(gR a).Short 68719476736:=⟨Nat.le_trans ha.1 (by omega),Nat.le_trans ha.2 (by omega)⟩;have aG:(gR b).Short 68719476736:=⟨Nat.le_trans hb.1 (by omega),Nat.le_trans hb.2 (by omega)⟩
 have HM:Hid (∀ x,a<=x->(gR x).Short 68719476736->∀ W u1 u2,RatAt W u1 (gR a)->RatAt W u2 (gR x)->Calls Tryz.prog 59 #[u1,u2] W fun e w'=>(∃ v',e=.returned v'/\RatAt w' v' (gR a))/\gO W w'):=af fun x hx hs W u1 u2 k1 k2=>by
  have h:=zv u1 u2 _ _ W k1 k2 aw hs;rw [gV,gV,mI,if_pos hx] at h;exact h
 have HX:Hid (∀ x,a<=x->(gR x).Short 68719476736->∀ W u1 u2,RatAt W u1 (gR a)->RatAt W u2 (gR x)->Calls Tryz.prog 57 #[u1,u2] W fun e w'=>(∃ v',e=.returned v'/\RatAt w' v' (gR x))/\gO W w'):=af fun x hx hs W u1 u2 k1 k2=>by
  have h:=uA u1 u2 _ _ W k1 k2 aw hs
  have e:mH a x=x:=by
   unfold mH;split
   ·exact Rat.le_antisymm hx (by assumption)
   ·rfl
  rw [gV,gV,e] at h;exact h
 have aV:=af (HM.out a Rat.le_refl aw);have aW:=af (HX.out a Rat.le_refl aw);have aH:=af (HM.out b hab aG);have aI:=af (HX.out b hab aG);obtain ⟨lo,hlo⟩:∃ lo,lo=gR a:=⟨_,rfl⟩;obtain ⟨hi,aX⟩:∃ hi,hi=gR b:=⟨_,rfl⟩;rw [<-hlo] at aV aW aH aI hv⊢;rw [<-aX] at aH aI hv⊢;clear ha hb hab aw aG HM HX hlo aX;have HV:=af hv;obtain ⟨w1,ay⟩:∃ w1,w1=w.alloc (.cells #[.bool false,.slice none 0 0,.slice none 0 0,.bool false,.slice none 0 0,.slice none 0 0] 44):=⟨_,rfl⟩;have bj:Hid (SpnAt w1 w.heap.size ⟨false,[],[]⟩ ⟨false,[],[]⟩):=af (by rw [ay];exact SpnAt.zero w);have aY:Hid (gO w w1):=af (by rw [ay];exact (gO.refl _).alloc _);have aZ:Hid (w1.heap.size=w.heap.size+1):=af (by rw [ay];simp);have bk:=af ay;obtain ⟨n1,l1,m1,n2,l2,m2,a1,c1,a2,c2,a3,c3,a4,c4,x0,x1,x2,x3,x4,x5,bl,bo,bp,_⟩:=(HV.out.kept aY.out).read2;have aj:Hid (∀ W,gO w1 W->RatAt W (.agg #[.bool n1,.slice a1 l1 c1,.slice a2 m1 c2]) lo):=af fun W h=>bo.out.kept h
 have aJ:Hid (∀ W,gO w1 W->RatAt W (.agg #[.bool n2,.slice a3 l2 c3,.slice a4 m2 c4]) hi):=af fun W h=>bp.out.kept h
 have ai:=af (And.intro x3 (And.intro x4 x5));clear hv ay x3 x4 x5;go_enter Tryz.func140,Tryz.ntmps140;go_upto_region 1 with fail
 go_cut [3] (fun p wx=>∃ G:Nat,p=.pointer (some ⟨G,0,none⟩)/\Hid (w.heap.size<G/\SpnAt wx G lo lo/\gO w1 wx))
 case first =>
  rw [<-bk.out]
  go_region_held3 (fun w'=>w'.cell? ⟨g,0,none⟩=some (.bool n1)/\w'.cell? ⟨g,1,none⟩=some (.slice a1 l1 c1)/\w'.cell? ⟨g,2,none⟩=some (.slice a2 m1 c2))
   (first | go_keep | (refine (fun hq:gO w1 _=>⟨hq.cell x0,hq.cell x1,hq.cell x2⟩) ?_;repeat (with_reducible first | exact am.out | exact al.out | exact gO.refl _ | apply gO.drew | apply gO.alloc | refine gO.store ?_ (by omega) _ _)))
   (first
   | (go_at_call 59;(with_reducible refine (aV.out _ _ _ (aj.out _ (by repeat (with_reducible first | exact gO.refl _ | apply gO.drew | apply gO.alloc))) (aj.out _ (by repeat (with_reducible first | exact gO.refl _ | apply gO.drew | apply gO.alloc)))).mono ?_);rintro e w2 ⟨⟨v2,rfl,aK⟩,aA⟩;have ag:gO w1 w2:=(by refine gO.trans ?_ aA;repeat (with_reducible first | exact gO.refl _ | apply gO.drew | apply gO.alloc));have al:=af ag;have bM:=ag.size;obtain ⟨s1,s2,s3,s4,s5,s6,s7,rfl⟩:=aK.parts;have bq:=af aK;(try have br:Hid (SpnAt w2 w1.heap.size ⟨false,[],[]⟩ ⟨false,[],[]⟩):=af (by with_reducible first | exact SpnAt.kept ((SpnAt.zero w1).kept (gO.refl _).drew) aA | exact SpnAt.kept (SpnAt.zero w1.drew) aA));clear aA ag aK)
   | (go_at_call 57;(with_reducible refine (aW.out _ _ _ (aj.out _ (by repeat (with_reducible first | exact al.out | apply gO.drew | apply gO.alloc))) (aj.out _ (by repeat (with_reducible first | exact al.out | apply gO.drew | apply gO.alloc)))).mono ?_);rintro e w3 ⟨⟨v3,rfl,aL⟩,aq⟩;have ag:gO w2 w3:=(by refine gO.trans ?_ aq;repeat (with_reducible first | exact gO.refl _ | apply gO.drew | apply gO.alloc));have am:=af (al.out.trans ag);have bN:=am.out.size;have aM:=af (bq.out.kept ag);obtain ⟨r1,r2,r3,r4,r5,r6,r7,rfl⟩:=aL.parts;have bt:=af aL;(try have aN:=af (by with_reducible exact SpnAt.kept (SpnAt.zero w2) aq));(try have aN:=af (br.out.kept ag));(try obtain ⟨_,_,_,_,_,_,_,_,⟨t0,t1,t2,t3,t4,t5⟩,ah,bO,_⟩:=aN.out.at);(try have f0:=ah 0);(try have f1:=ah 1);(try have f2:=ah 2);(try have f3:=ah 3);(try have f4:=ah 4);(try have f5:=ah 5);clear aq ag aL))
  all_goals go_wp2_with fail
  all_goals go_meet
  all_goals
   have aB:=SpanV.of2 aM.out bt.out;have bP:=aZ.out;have aq:=am.out
   first
    | with_reducible exact ⟨_,rfl,af ⟨by omega,SpnAt.lay aB,aq.alloc _⟩⟩
    | with_reducible exact ⟨_,rfl,af ⟨by omega,aN.out.set aB,(((((aq.store (by omega) _ _).store (by omega) _ _).store (by omega) _ _).store (by omega) _ _).store (by omega) _ _).store (by omega) _ _⟩⟩
 case rest =>
  obtain ⟨G,rfl,HG⟩:=hcut;obtain ⟨wa,rfl⟩:∃ wa:World,wa=wc:=⟨_,rfl⟩;have bw:=af HG.out.2.2;have bz:=af HG.out.2.1;have ar:w1.heap.size<=G:=by have h1:=HG.out.1;have h2:=aZ.out;omega
  clear x0 x1 x2 bl;go_wp2_with fail;go_loopg [24] 1 (fun kx s24 wr=>∃ t:Nat,t<=1/\s24=.int .i64 t/\1 - t<=kx/\Hid (gO w1 wr)/\Hid (SpnAt wr G lo (if t=0 then lo else hi)))
  case atStart=>exact ⟨0,by omega,rfl,by omega,bw,bz⟩
  case round =>
   obtain ⟨t,ht,rfl,bQ,ap,aO⟩:=hrel;by_cases bA:t=0
   ·subst bA;obtain ⟨wo,rfl⟩:∃ wo:World,wo=wr:=⟨_,rfl⟩;have x3:=ap.out.cell ai.out.1;have x4:=ap.out.cell ai.out.2.1;have x5:=ap.out.cell ai.out.2.2;have bB:=World.block_lt_of_cell? _ _ x3;obtain ⟨w4,aC⟩:∃ w4,w4=wo.alloc (.cells #[.bool n2,.slice a3 l2 c3,.slice a4 m2 c4] 29):=⟨_,rfl⟩;have aD:gO wo w4:=by rw [aC];exact (gO.refl _).alloc _
    have a_:=af (aJ.out _ (ap.out.trans aD));have aF:Hid (SpnAt w4 G lo lo):=af (by have h:=aO.out;rw [if_pos rfl] at h;exact h.kept aD);have az:=gS.made wo #[.bool n2,.slice a3 l2 c3,.slice a4 m2 c4] 29;rw [<-aC] at az;have z0:=az.cell (i:=0) (by simp);have z1:=az.cell (i:=1) (by simp);have z2:=az.cell (i:=2) (by simp);simp only [List.getElem_cons_succ,List.getElem_cons_zero] at z0 z1 z2;have ah:=aF.out.free;have f0:=ah 0;have f1:=ah 1;have f2:=ah 2;have f3:=ah 3;have f4:=ah 4;have f5:=ah 5;obtain ⟨n5,l5,m5,n6,l6,m6,a5,c5,a6,c6,a7,c7,a8,c8,y0,y1,y2,y3,y4,y5,aP,bC,bD,_⟩:=aF.out.read;have bE:=af aC;have bF:=af aD;clear az ah aC aD;have bR:G<wo.heap.size:=by have h:=aO.out;rw [if_pos rfl] at h;obtain ⟨_,_,_,_,_,_,_,_,_,_,h,_⟩:=h.at;exact h
    go_upto_region 5 with fail
    rw [<-bE.out]
    go_region_law (first
     | (rw [if_pos (by rfl)];go_simp;go_at_call 59;(with_reducible refine (aH.out _ _ _ (bC.out.kept (by repeat (with_reducible first | exact gO.refl _ | apply gO.drew))) (a_.out.kept (by repeat (with_reducible first | exact gO.refl _ | apply gO.drew)))).mono ?_);rintro e w5 ⟨⟨v5,rfl,aQ⟩,bd⟩;have ag:gO w4 w5:=(gO.refl w4).drew.trans bd;have aR:=af ag;have bS:Hid (iq G w4 w5):=af (iq.kept ag);obtain ⟨s1,s2,s3,s4,s5,s6,s7,rfl⟩:=aQ.parts;have bG:=af aQ;have p0:=ag.cell y0;have p1:=ag.cell y1;have p2:=ag.cell y2;have p3:=ag.cell y3;have p4:=ag.cell y4;have p5:=ag.cell y5;have q0:=ag.cell z0;have q1:=ag.cell z1;have q2:=ag.cell z2;have bT:=World.block_lt_of_cell? _ _ p0;have bU:=World.block_lt_of_cell? _ _ q0;clear bd ag aQ)
     | (rw [if_pos (by rfl)];go_simp;go_at_call 57;(with_reducible refine (aI.out _ _ _ (bD.out.kept aR.out) (a_.out.kept aR.out)).mono ?_);rintro e w6 ⟨⟨v6,rfl,aS⟩,aT⟩;have ag:gO w4 w6:=aR.out.trans aT;have bf:=af ag;have bV:Hid (iq G w4 w6):=af (iq.kept ag);obtain ⟨r1,r2,r3,r4,r5,r6,r7,rfl⟩:=aS.parts;have bH:=af aS;have aU:=af (bG.out.kept aT);have t0:=ag.cell y0;have t1:=ag.cell y1;have t2:=ag.cell y2;have t3:=ag.cell y3;have t4:=ag.cell y4;have t5:=ag.cell y5;have bW:=World.block_lt_of_cell? _ _ t0;have ah:=(aF.out.kept ag).free;have j0:=ah 0;have j1:=ah 1;have j2:=ah 2;have j3:=ah 3;have j4:=ah 4;have j5:=ah 5;clear ah aT ag aS))
    all_goals
     have aB:=af (aF.out.kept bf.out |>.set (SpanV.of2 aU.out bH.out));have bI:=af ((((((((ap.out.trans bF.out).trans bf.out).store ar 0 (.bool s1)).store ar 1 (.slice s4 s2 s5)).store ar 2 (.slice s6 s3 s7)).store ar 3 (.bool r1)).store ar 4 (.slice r4 r2 r5)).store ar 5 (.slice r6 r3 r7));clear p0 p1 p2 p3 p4 p5 q0 q1 q2 t0 t1 t2 t3 t4 t5 j0 j1 j2 j3 j4 j5;go_wp2_with fail;go_roundg 0
     case measure=>omega
     case rel=>exact ⟨1,Nat.le_refl _,rfl,by omega,bI,af (by rw [if_neg (by decide)];exact aB.out)⟩
   ·have bJ:t=1:=by omega
    subst bJ;have hss:SpnAt wr G lo hi:=by have h:=aO.out;rw [if_neg (by decide)] at h;exact h
    obtain ⟨n5,l5,m5,n6,l6,m6,a5,c5,a6,c6,a7,c7,a8,c8,y0,y1,y2,y3,y4,y5,aP,_,_,bK⟩:=hss.read;obtain ⟨_,_,_,_,_,_,_,_,_,_,_,_,_,_,w',e9,hw',⟨⟨z0,p0⟩,⟨z1,p1⟩,⟨z2,p2⟩,⟨z3,p3⟩,⟨z4,p4⟩,⟨z5,p5⟩⟩,⟨f0,f1,f2,f3,f4,f5⟩,bX,Y,bh,_,_,bL⟩:=(bj.out.kept ap.out).put bK.out;simp only [Value.agg.injEq,Array.mk.injEq,List.cons.injEq,Value.bool.injEq,Value.slice.injEq,and_true] at e9;obtain ⟨rfl,⟨rfl,rfl,rfl⟩,⟨rfl,rfl,rfl⟩,rfl,⟨rfl,rfl,rfl⟩,rfl,rfl,rfl⟩:=e9;have bi:=af (bL.out _ (aY.out.trans ap.out) (Nat.le_refl _));rw [hw'] at Y bh bi;clear hw' hss;go_wp2;refine bodyPost_ret (v:=.agg #[.bool n5,.slice a5 l5 c5,.slice a6 m5 c6,.bool n6,.slice a7 l6 c7,.slice a8 m6 c8]) ?_ rfl ⟨⟨_,rfl,bh.out⟩,bi.out⟩;simp [results,Tryz.results140,go_sem,Y.out.1,Y.out.2.1,Y.out.2.2.1,Y.out.2.2.2.1,Y.out.2.2.2.2.1,Y.out.2.2.2.2.2]
def Lu (ps:List Rw) (l:List Nat) (m:Nat):List Rw:=(List.range 13).map fun k=>gR (KF ps l k m)
def Ln (ps:List Rw) (l:List Nat):List Rw:=(List.range 13).map fun k=>gR (Ke ps l k)
def Le (ps:List Rw) (l:List Nat) (k:Nat):List Rw:=(List.range 13).map fun j=>if j<k then gR (Jb ps l j) else ⟨false,[],[]⟩
def Ld (ps:List Rw) (l:List Nat):List Rw:=(List.range 13).map fun j=>gR (Jb ps l j)
def Lv (xs:List Int) (ps:List Rw) (k:Int):Rat:=if Js xs ps k=0 then Ke ps (iz xs) k.toNat else 0
def KZ (xs:List Int) (ps:List Rw) (k:Int):Rat:=if Js xs ps k=0 then Jb ps (iz xs) k.toNat else 0
def LA (ps:List Rw) (l:List Nat):Nat->Rat
 | 0=>0
 | k+1=>KU ps l k
def Lz (ps:List Rw) (l:List Nat):Nat->Rat
 | 0=>1
 | k+1=>KR ps l k
def Lf (xs:List Int) (ps:List Rw) (k:Int):Rat × Rat:=if Js xs ps k=0 then (KU ps (iz xs) k.toNat,KR ps (iz xs) k.toNat) else (0,0)
theorem Ed (v:Value) (a b:Rat) (w:World) (hv:SpanV w v (gR a) (gR b)) (ha:(gR a).Short 200000) (hb:(gR b).Short 200000) (hab:a<=b):Calls Tryz.prog 84 #[v] w fun e w'=>(∃ v',e=.returned v'/\SpanV w' v' (gR a) (gR b))/\gO w w':=by
 have am:Hid (∀ W u,SpanV W u (gR a) (gR b)->Calls Tryz.prog 37 #[u] W fun e w'=>e=.returned (.bool true)/\gO W w'):=af fun W u h=>BF u a b W h ha hb hab
 have ap:Hid (∀ W g,ArrAt W g 29 [gR a,gR b]->Calls Tryz.prog 140 #[.slice (some ⟨g,0,none⟩) 2 2] W fun e w'=>(∃ v',e=.returned v'/\SpanV w' v' (gR a) (gR b))/\gO W w'):=af fun W g h=>Ix g a b W h ha hb hab
 obtain ⟨lo,hlo⟩:∃ lo,lo=gR a:=⟨_,rfl⟩;obtain ⟨hi,aq⟩:∃ hi,hi=gR b:=⟨_,rfl⟩;rw [<-hlo,<-aq] at am ap hv⊢;clear ha hb hab hlo aq;obtain ⟨n1,l1,m1,n2,l2,m2,a1,c1,a2,c2,a3,c3,a4,c4,w1,rfl,ar,aw,ay,az,aA⟩:=hv.box;obtain ⟨w2,ag⟩:∃ w2,w2=w1.alloc (.cells #[.bool false,.slice none 0 0,.slice none 0 0,.bool false,.slice none 0 0,.slice none 0 0] 44):=⟨_,rfl⟩;have aI:Hid (SpnAt w2 (w.heap.size+1) ⟨false,[],[]⟩ ⟨false,[],[]⟩):=af (by rw [ag,<-aA];exact SpnAt.zero w1);have ah:gO w1 w2:=by rw [ag];exact (gO.refl _).alloc _
 have aJ:=af (az.kept ah);have HA:=af (aw.kept ah);have aK:=af (ay.trans ah);have aL:Hid (w2=(w.alloc (.cells #[.bool n1,.slice a1 l1 c1,.slice a2 m1 c2,.bool n2,.slice a3 l2 c3,.slice a4 m2 c4] 44)).alloc (.cells #[.bool false,.slice none 0 0,.slice none 0 0,.bool false,.slice none 0 0,.slice none 0 0] 44)):=af (by rw [ag,ar]);clear hv ar aw ay az aA ag ah;go_enter Tryz.func84,Tryz.ntmps84;go_wp2_with fail;rw [<-aL.out];refine (am.out _ _ aJ.out).mono ?_;rintro e w3 ⟨rfl,ai⟩;have aM:=af (aK.out.trans ai);have aN:=af (aI.out.kept ai);obtain ⟨n5,l5,m5,n6,l6,m6,a5,c5,a6,c6,a7,c7,a8,c8,x0,x1,x2,x3,x4,x5,aO,aP,aQ,_⟩:=(HA.out.kept ai).read;obtain ⟨w4,aj⟩:∃ w4,w4=w3.alloc (.cells #[.bool n5,.slice a5 l5 c5,.slice a6 m5 c6,.bool n6,.slice a7 l6 c7,.slice a8 m6 c8] 29):=⟨_,rfl⟩;have aR:Hid (ArrAt w4 w3.heap.size 29 [lo,hi]):=af (by rw [aj];exact ArrAt.two aP.out aQ.out);have aB:Hid (gO w3 w4):=af (by rw [aj];exact (gO.refl _).alloc _);have aS:=af aj;clear ai aj;go_wp2_with fail;rw [<-aS.out];refine (ap.out _ _ aR.out).mono ?_;rintro e w5 ⟨⟨v5,rfl,aC⟩,al⟩;have aT:=af (aM.out.trans (aB.out.trans al));obtain ⟨q1,q2,q3,q4,q5,q6,r1,r2,r3,r4,r5,r6,r7,r8,w6,rfl,aD,⟨⟨z0,p0⟩,⟨z1,p1⟩,⟨z2,p2⟩,⟨z3,p3⟩,⟨z4,p4⟩,⟨z5,p5⟩⟩,⟨f0,f1,f2,f3,f4,f5⟩,aU,Y,aF,_,_,aG⟩:=(aN.out.kept (aB.out.trans al)).put aC
 have aH:=af (aG.out _ aT.out (by omega));rw [aD] at Y aF aH;clear aC al aD x0 x1 x2 x3 x4 x5 aO aG;go_wp2;refine bodyPost_ret (v:=.agg #[.bool q1,.slice r1 q2 r2,.slice r3 q3 r4,.bool q4,.slice r5 q5 r6,.slice r7 q6 r8]) ?_ rfl ⟨⟨_,rfl,aF.out⟩,aH.out⟩;simp [results,Tryz.results84,go_sem,Y.out.1,Y.out.2.1,Y.out.2.2.1,Y.out.2.2.2.1,Y.out.2.2.2.2.1,Y.out.2.2.2.2.2]
theorem Ef (v:Value) (a b:Rat) (la lb:List UInt8) (w:World) (hv:SpanV w v (gR a) (gR b)) (hab:a<=b) (ha:(gR a).Short 200000) (hb:(gR b).Short 200000)
  (al:∀ W u,RatAt W u (gR a)->Calls Tryz.prog 44 #[u] W fun e w'=>e=.returned (.string ⟨la.toArray⟩)/\gO W w') (am:∀ W u,RatAt W u (gR b)->Calls Tryz.prog 44 #[u] W fun e w'=>e=.returned (.string ⟨lb.toArray⟩)/\gO W w') (aI:la.length<=100) (aJ:lb.length<=100) :
  Calls Tryz.prog 45 #[v] w fun e w'=>e=.returned (.string ⟨(la++[46,46]++lb).toArray⟩)/\gO w w':=by
 have ap:Hid (∀ W u,SpanV W u (gR a) (gR b)->Calls Tryz.prog 84 #[u] W fun e w'=>(∃ v',e=.returned v'/\SpanV w' v' (gR a) (gR b))/\gO W w'):=af fun W u h=>Ed u a b W h ha hb hab
 have aq:=af al;have ar:=af am;obtain ⟨lo,hlo⟩:∃ lo,lo=gR a:=⟨_,rfl⟩;obtain ⟨hi,ag⟩:∃ hi,hi=gR b:=⟨_,rfl⟩;rw [<-hlo,<-ag] at ap hv;rw [<-hlo] at aq;rw [<-ag] at ar
 have HS:Hid (((⟨la.toArray⟩:ByteArray)++(⟨#[46,46]⟩:ByteArray))++⟨lb.toArray⟩=⟨(la++[46,46]++lb).toArray⟩):=af (by
  apply ByteArray.ext;rw [ByteArray.data_append,ByteArray.data_append];apply Array.toList_inj.1;simp)
 have aw:¬ 9223372036854775807<la.length+2:=by omega
 have aU:¬ 9223372036854775807<la.length+2+lb.length:=by omega
 clear ha hb hab hlo ag al am aI aJ;obtain ⟨n1,l1,m1,n2,l2,m2,a1,c1,a2,c2,a3,c3,a4,c4,w1,rfl,ay,az,aA,aB,aw⟩:=hv.box;have aK:=af aB;have HA:=af az;have aL:=af aA;have aM:=af ay;clear hv ay az aA aB aw;go_enter Tryz.func45,Tryz.ntmps45;go_wp2_with fail;rw [<-aM.out];refine (ap.out _ _ aK.out).mono ?_;rintro e w3 ⟨⟨v3,rfl,aC⟩,ah⟩;have aN:=af (aL.out.trans ah);obtain ⟨q1,q2,q3,q4,q5,q6,r1,r2,r3,r4,r5,r6,r7,r8,w4,rfl,aD,⟨⟨z0,p0⟩,⟨z1,p1⟩,⟨z2,p2⟩,⟨z3,p3⟩,⟨z4,p4⟩,⟨z5,p5⟩⟩,⟨f0,f1,f2,f3,f4,f5⟩,aO,_,_,aP,aV,aF⟩:=(HA.out.kept ah).put aC;have aQ:=af (aF.out _ aN.out (Nat.le_refl _));have aR:=af aD;clear aC ah aD aF;go_upto_region 2 with fail
 rw [<-aR.out];clear p0 p1 p2 p3 p4 p5 f0 f1 f2 f3 f4 f5 aO;obtain ⟨g1,g2,g3,g4,g5,g6,s1,s2,s3,s4,s5,s6,s7,s8,x0,x1,x2,x3,x4,x5,aW,aS,aT,_⟩:=aP.out.read
 go_region_held3 (fun w'=>w'.cell? ⟨w.heap.size,0,none⟩=some (.bool g1)/\w'.cell? ⟨w.heap.size,1,none⟩=some (.slice s1 g2 s2)/\w'.cell? ⟨w.heap.size,2,none⟩=some (.slice s3 g3 s4)/\w'.cell? ⟨w.heap.size,3,none⟩=some (.bool g4)/\w'.cell? ⟨w.heap.size,4,none⟩=some (.slice s5 g5 s6)/\w'.cell? ⟨w.heap.size,5,none⟩=some (.slice s7 g6 s8))
  ((refine (fun hq:gO w4 _=>⟨hq.cell x0,hq.cell x1,hq.cell x2,hq.cell x3,hq.cell x4,hq.cell x5⟩) ?_;repeat (with_reducible first | exact aG.out | exact ai.out | exact gO.refl _ | apply gO.drew)))
  (first
  | (go_at_call 44;(with_reducible refine (aq.out _ _ (aS.out.kept (by repeat (with_reducible first | exact gO.refl _ | apply gO.drew)))).mono ?_);rintro e w5 ⟨rfl,aH⟩;have ai:Hid (gO w4 w5):=af ((gO.refl w4).drew.trans aH);clear aH)
  | (go_at_call 44;(with_reducible refine (ar.out _ _ (aT.out.kept (by repeat (with_reducible first | exact ai.out | apply gO.drew)))).mono ?_);rintro e w6 ⟨rfl,aj⟩;have aG:Hid (gO w4 w6):=af (ai.out.trans (by first | exact aj | exact (gO.refl _).drew.trans aj));clear aj))
 all_goals go_wp2
 all_goals go_ret
 all_goals exact ⟨by rw [<-HS.out];rfl,aQ.out.trans aG.out⟩
def Ku (n:Nat):Bool:=(decide (30<n)&&decide (n<=1024))||decide (3000<n)
theorem DR {w:World} {r1 r2 r3:Rw} {b1 b2 b3:Bool} {u1 v1 u2 v2 u3 v3:Value} (h1:RatAt w (.agg #[.bool b1,u1,v1]) r1) (h2:RatAt w (.agg #[.bool b2,u2,v2]) r2) (h3:RatAt w (.agg #[.bool b3,u3,v3]) r3) :
  RatsAt (w.alloc (.cells #[.bool b1,u1,v1,.bool b2,u2,v2,.bool b3,u3,v3] 29)) (.slice (some ⟨w.heap.size,0,none⟩) 3 3) [r1,r2,r3]:=by
 obtain ⟨x1,x2,e1,k1,k2⟩:=h1;obtain ⟨x3,x4,e2,k3,k4⟩:=h2;obtain ⟨x5,x6,e3,k5,k6⟩:=h3;simp only [Value.agg.injEq,Array.mk.injEq,List.cons.injEq,Value.bool.injEq,and_true] at e1 e2 e3;obtain ⟨rfl,rfl,rfl⟩:=e1;obtain ⟨rfl,rfl,rfl⟩:=e2;obtain ⟨rfl,rfl,rfl⟩:=e3;exact Bf k1 k2 k3 k4 k5 k6
theorem Bb (w:World):Calls Tryz.prog 42 #[] w fun e w'=>(∃ a c,e=.returned (.slice a 3 c)/\RatsAt w' (.slice a 3 c) mW)/\gO w w':=by
 have ap:Hid (∀ W,Calls Tryz.prog 85 #[.int .i64 1,.int .i64 10] W fun e w'=>(∃ v',e=.returned (.tuple #[v',.nilIface])/\RatAt w' v' (gR (mkRat 1 10)))/\gO W w'):=af fun W=>rL 1 10 W (by decide) (by decide) (by decide)
 have aq:Hid (∀ W,Calls Tryz.prog 85 #[.int .i64 1,.int .i64 5] W fun e w'=>(∃ v',e=.returned (.tuple #[v',.nilIface])/\RatAt w' v' (gR (mkRat 1 5)))/\gO W w'):=af fun W=>rL 1 5 W (by decide) (by decide) (by decide)
 have ar:Hid (∀ W,Calls Tryz.prog 85 #[.int .i64 1,.int .i64 4] W fun e w'=>(∃ v',e=.returned (.tuple #[v',.nilIface])/\RatAt w' v' (gR (mkRat 1 4)))/\gO W w'):=af fun W=>rL 1 4 W (by decide) (by decide) (by decide)
 go_enter Tryz.func42,Tryz.ntmps42;go_wp2_with fail;refine (ap.out _).mono ?_;rintro e w1 ⟨⟨v,rfl,hv⟩,hk⟩;obtain ⟨n2,l2,m2,a2,c2,b2,d2,w2,rfl,hw,hc,ag,hr,_⟩:=hv.box;have aw:=af hc;have ay:=af hw;have az:=af (hk.trans ag);clear hv hk hw hc ag hr;go_wp2_with fail;rw [<-ay.out];refine (aq.out _).mono ?_;rintro e w3 ⟨⟨v,rfl,hv⟩,hk⟩;obtain ⟨n4,l4,m4,a4,c4,b4,d4,w4,rfl,hw,hc,ag,hr,_⟩:=hv.box;have aA:=af hc;have aB:=af hw;have SK4:=af (hk.trans ag);clear hv hk hw hc ag hr;go_wp2_with fail;rw [<-aB.out];refine (ar.out _).mono ?_;rintro e w5 ⟨⟨v,rfl,hv⟩,hk⟩;obtain ⟨n6,l6,m6,a6,c6,b6,d6,w6,rfl,hw,⟨z0,z1,z2⟩,hc,ag,hr,_⟩:=hv.boxc;have aC:=af hr;have al:=af hw;have SK5:=af hk;have SK6:=af (hk.trans ag);have ah:=af ag;have aD:=af (SK4.out.trans SK6.out);obtain ⟨p1,p2,p3,q1,r1,q2,r2,x0,x1,x2,aK,aF⟩:=(aw.out.kept (SK4.out.trans SK5.out)).read;obtain ⟨p4,p5,p6,q3,r3,q4,r4,y0,y1,y2,aL,aG⟩:=(aA.out.kept SK5.out).read;have am:w6.heap.size=w5.heap.size+1:=by rw [al.out];simp
 have aj:=DR (aF.out.kept ah.out) (aG.out.kept ah.out) aC.out;obtain ⟨w7,ai⟩:∃ w7,w7=w6.alloc (.cells #[.bool p1,.slice q1 p2 r1,.slice q2 p3 r2,.bool p4,.slice q3 p5 r3,.slice q4 p6 r4,.bool n6,.slice a6 l6 c6,.slice b6 m6 d6] 29):=⟨_,rfl⟩;rw [<-ai,am] at aj;have aH:=af aj;have aI:Hid (gO w6 w7):=af (by rw [ai];exact (gO.refl _).alloc _);have aJ:=af ai;clear hv hk hw hc ag hr ai aj am z0 z1 z2;go_wp2_with fail;rw [<-al.out,<-aJ.out];go_ret;exact ⟨⟨_,_,rfl,aH.out⟩,az.out.trans (aD.out.trans aI.out)⟩
set_option linter.unusedSimpArgs false in
theorem Jk:ku [3,5]=0:=by
 obtain ⟨h0,h1,h2,h3,h4,h5,h6,h7⟩:=Kj;simp +decide [ku,iz,iA,oK,lI,iy,nP,iu,h0,h1,h2,h3,h4,h5,h6,h7]
theorem IJ:oz [1,6] mW=0:=by
 unfold oz;rw [if_neg (by rw [Jj];simp),if_neg (by decide +kernel),wX,if_neg (by simp)]
theorem IK:oz [3,5] mW=0:=by
 unfold oz;rw [if_neg (by rw [Jk];simp),if_neg (by decide +kernel),wX,if_neg (by simp)]
theorem Jp:rS [1,6] mW=mkRat 29 200:=by
 unfold rS;rw [if_pos IJ];decide +kernel
theorem Jo:rx [3,5] mW=mkRat 91 1000:=by
 unfold rx;rw [if_pos IK];decide +kernel
set_option linter.unusedSimpArgs false in
theorem FV:kD 3 5 wW=some [3,5]:=by
 have h:=pe IR;rw [show IL.nodes=wW from rfl] at h;rw [h,EJ];obtain ⟨h0,h1,h2,h3,h4,h5,h6,h7⟩:=Kj;simp +decide [sQ,l_,i_,kh,wW,jy,jo,iN,h_,iy,iA,oK,lI,nP,iu,oC,jz,h0,h1,h2,h3,h4,h5,h6,h7]
theorem CX:oD 3 5 IL mW=(0,mkRat 1 10,mkRat 29 200):=by
 unfold oD;rw [if_neg (by decide),wX,if_neg (by simp),JR,if_neg (by simp),show IL.nodes=wW from rfl,JS];simp only [FV,z'];have h1:mH (ir (gQ mW) [3,5]) (ik (fQ mW) [1,6])=mkRat 1 10:=by decide +kernel
 have h2:mI (1 - ir (fQ mW) [1,6]) (1 - ik (gQ mW) [3,5])=mkRat 29 200:=by decide +kernel
 rw [h1,h2]
theorem Hx (w:World):gU (w.alloc (.cells #[.int .i64 3,.int .i64 5] 3)) (.slice (some ⟨w.heap.size,0,none⟩) 2 2) [3,5] :=
 (gS.made w #[.int .i64 3,.int .i64 5] 3).ints (xs:=[3,5]) (c:=2) (by simp) (by simp)
theorem zZ (w:World):Calls Tryz.prog 10 #[] w fun e w'=>e=.returned (.bool true)/\gO w w':=by
 have al:=af (fun W=>Bb W);have aN:=af (fun W=>Am W)
 have aO:Hid (∀ (W W':World) (g:Nat) (v:Value),g=W.heap.size->gO (W.alloc (.cells #[.int .i64 1,.int .i64 6] 3)) W'->RatsAt W' v mW->Calls Tryz.prog 13 #[.slice (some ⟨g,0,none⟩) 2 2,v] W' fun e w'=>(∃ v',e=.returned (.tuple #[v',.nilIface])/\RatAt w' v' (gR (mkRat 29 200)))/\gO W' w'):=af fun W W' g v hg hk h2=>by
  subst hg;have h:=yo _ v [1,6] mW _ ((Hw W).kept hk) h2 rm (by decide);rw [Jp,IJ,kj] at h;exact h
 have aP:Hid (∀ (W W':World) (g:Nat) (v:Value),g=W.heap.size->gO (W.alloc (.cells #[.int .i64 3,.int .i64 5] 3)) W'->RatsAt W' v mW->Calls Tryz.prog 15 #[.slice (some ⟨g,0,none⟩) 2 2,v] W' fun e w'=>(∃ v',e=.returned (.tuple #[v',.nilIface])/\RatAt w' v' (gR (mkRat 91 1000)))/\gO W' w'):=af fun W W' g v hg hk h2=>by
  subst hg;have h:=ym _ v [3,5] mW _ ((Hx W).kept hk) h2 rm (by decide);rw [Jo,IK,kj] at h;exact h
 have aQ:Hid (∀ W u v,ii W u wW->RatsAt W v mW->Calls Tryz.prog 20 #[.agg #[.int .i64 3,u,.int .i64 5],v] W fun e w'=>(∃ v',e=.returned (.tuple #[v',.nilIface])/\SpanV w' v' (gR (mkRat 1 10)) (gR (mkRat 29 200)))/\gO W w'):=af fun W u v h1 h2=>by
  have h:=qJ u v IL 3 5 mW W h1 IR ER h2 rm (by decide);rw [CX,kj] at h;exact h
 have aR:Hid (∀ W v,RatAt W v (gR (mkRat 29 200))->Calls Tryz.prog 44 #[v] W fun e w'=>e=.returned (.string ⟨#[50,57,47,50,48,48]⟩)/\gO W w'):=af fun W v h=>od v _ 29 200 [50,57] [50,48,48] [50,57,47,50,48,48] W h (by decide +kernel) (by decide +kernel) (by decide) (by decide) (by decide) (by decide) (by decide) (by decide) (by decide) (by decide) (by decide)
 have aS:Hid (∀ W v,RatAt W v (gR (mkRat 91 1000))->Calls Tryz.prog 44 #[v] W fun e w'=>e=.returned (.string ⟨#[57,49,47,49,48,48,48]⟩)/\gO W w'):=af fun W v h=>od v _ 91 1000 [57,49] [49,48,48,48] [57,49,47,49,48,48,48] W h (by decide +kernel) (by decide +kernel) (by decide) (by decide) (by decide) (by decide) (by decide) (by decide) (by decide) (by decide) (by decide)
 have aT:Hid (∀ W v,SpanV W v (gR (mkRat 1 10)) (gR (mkRat 29 200))->Calls Tryz.prog 45 #[v] W fun e w'=>e=.returned (.string ⟨#[49,47,49,48,46,46,50,57,47,50,48,48]⟩)/\gO W w'):=af fun W v h=>Ef v (mkRat 1 10) (mkRat 29 200) [49,47,49,48] [50,57,47,50,48,48] W h (by decide +kernel) ⟨by decide +kernel,by decide +kernel⟩ ⟨by decide +kernel,by decide +kernel⟩
  (fun W u hu=>od u _ 1 10 [49] [49,48] [49,47,49,48] W hu (by decide +kernel) (by decide +kernel) (by decide) (by decide) (by decide) (by decide) (by decide) (by decide) (by decide) (by decide) (by decide))
  (fun W u hu=>od u _ 29 200 [50,57] [50,48,48] [50,57,47,50,48,48] W hu (by decide +kernel) (by decide +kernel) (by decide) (by decide) (by decide) (by decide) (by decide) (by decide) (by decide) (by decide) (by decide)) (by decide) (by decide)
 have az:Hid (∀ (W:World) (cs:Array Value) (t:TypeId),gO W (W.alloc (.cells cs t))):=af fun W cs t=>(gO.refl W).alloc _
 go_enter Tryz.func10,Tryz.ntmps10;go_wp2_with fail;refine (al.out _).mono ?_;rintro e w1 ⟨⟨a1,c1,rfl,aA⟩,aB⟩;have aU:=af aA;have aC:=af aB;clear aA aB;go_wp2_with fail;refine (aO.out w _ _ _ rfl aC.out aU.out).mono ?_;rintro e w2 ⟨⟨v,rfl,hv⟩,hk⟩;obtain ⟨n3,l3,m3,a3,c3,b3,d3,w3,rfl,hw,hc,ag,hr,aD⟩:=hv.box;have aV:=af aD.symm;clear aD;have aW:=af hc;have aX:=af hw;have aY:=af ((az.out w _ _).trans (aC.out.trans (hk.trans ag)));clear hv hk hw hc ag hr;go_wp2_with fail;rw [<-aX.out];refine (al.out _).mono ?_;rintro e w4 ⟨⟨a4,c4,rfl,aF⟩,aG⟩;have aZ:=af aF;have aH:=af aG;clear aF aG;go_wp2_with fail;refine (aP.out w3 _ _ _ aV.out aH.out aZ.out).mono ?_;rintro e w5 ⟨⟨v,rfl,hv⟩,hk⟩;obtain ⟨n6,l6,m6,a6,c6,b6,d6,w6,rfl,hw,hc,ag,hr,_⟩:=hv.box;have a_:=af hc;have bd:=af hw;have SK6:=af ((az.out w3 _ _).trans (aH.out.trans (hk.trans ag)));clear hv hk hw hc ag hr;go_wp2_with fail;rw [<-bd.out];refine (aN.out _).mono ?_;rintro e w7 ⟨⟨v7,rfl,⟨a7,n7,c7,rfl⟩,aI⟩,aJ⟩;have bf:=af aI;have aK:=af aJ;clear aI aJ;go_wp2_with fail;refine (al.out _).mono ?_;rintro e w8 ⟨⟨a8,c8,rfl,aL⟩,aM⟩;have bh:=af aL;have am:=af aM;clear aL aM;go_wp2_with fail;refine (aQ.out _ _ _ (bf.out.kept am.out) bh.out).mono ?_;rintro e w9 ⟨⟨v,rfl,hv⟩,hk⟩
 obtain ⟨s1,s2,s3,s4,s5,s6,t1,t2,t3,t4,t5,t6,t7,t8,w10,rfl,hw,hc,ag,hr,_⟩:=hv.box;have ap:=af hc;have aq:=af hw;have SK9:=af (aK.out.trans (am.out.trans hk));have KB:=af ag;have SK10:=af (aK.out.trans (am.out.trans (hk.trans ag)));clear hv hk hw hc ag hr;obtain ⟨p1,p2,p3,q1,r1,q2,r2,x0,x1,x2,bi,bj⟩:=(aW.out.kept (SK6.out.trans SK9.out)).read;go_wp2_with fail;rw [<-aq.out];refine (aR.out _ _ (bj.out.kept KB.out)).mono ?_;rintro e w11 ⟨rfl,ah⟩;have aj:=af (SK10.out.trans ah);have ar:=af (ap.out.kept ah);clear x0 x1 x2 bi ah;obtain ⟨p4,p5,p6,q3,r3,q4,r4,y0,y1,y2,bk,bl⟩:=(a_.out.kept aj.out).read;go_wp2_with fail;refine (aS.out _ _ bl.out).mono ?_;rintro e w12 ⟨rfl,ai⟩;have aw:=af (aj.out.trans ai);clear y0 y1 y2 bk;obtain ⟨f1,f2,f3,f4,f5,f6,q5,r5,q6,r6,q7,r7,q8,r8,z0,z1,z2,z3,z4,z5,bp,_,_,bo⟩:=(ar.out.kept ai).read;clear ai;go_wp2_with fail;refine (aT.out _ _ bo.out).mono ?_;rintro e w13 ⟨rfl,ay⟩;go_wp2;go_ret;exact ⟨rfl,aY.out.trans (SK6.out.trans (aw.out.trans ay))⟩
theorem sS (v pv:Value) (f:Fm) (V T:Nat) (ps:List Rw) (w:World) (hv:ii w v f.nodes) (cL:Ok f V T) (cM:jP f=0) (hp:RatsAt w pv ps) (h3:∀ r∈ps,r.Short 3) (cN:ps.length<=30) :
  Calls Tryz.prog 23 #[.agg #[.int .i64 V,v,.int .i64 T],pv] w fun e w'=>(∃ v',e=.returned (.tuple #[v',.int .i64 ((oD V T f ps).1:Nat)])/\SpanV w' v' (gR (oD V T f ps).2.1) (gR (oD V T f ps).2.2))/\gO w w':=by
 have bi:=af (fun W (h:gO w W)=>ug pv ps W (hp.kept h) (fun r hr=>⟨Nat.le_trans (h3 r hr).1 (by omega),Nat.le_trans (h3 r hr).2 (by omega)⟩));have bj:=hp.ok;have HV:=af hv;have HP:=af hp;have HO:=af cL;have cO:=af cM;have aW:=af h3;have aX:=af cN;have bk:=af bj;obtain ⟨va,vn,vc,rfl⟩:∃ a n c,v=.slice a n c:=by obtain ⟨a,c,h,_⟩:=hv;exact ⟨a,_,c,h⟩
 obtain ⟨pa,pc,rfl⟩:=hp.shape;obtain ⟨pn,bO⟩:∃ pn,pn=ps.length:=⟨_,rfl⟩;obtain ⟨B,hB⟩:∃ B,B=oD V T f ps:=⟨_,rfl⟩;rw [<-hB];unfold oD at hB;rw [<-bO] at bi HP hB⊢;have cP:=af bO;have HB:=af hB;obtain ⟨w1,bl⟩:∃ w1,w1=w.alloc (.cells #[.int .i64 V,.slice va vn vc,.int .i64 T] 41):=⟨_,rfl⟩;have bP:=gS.made w #[.int .i64 V,.slice va vn vc,.int .i64 T] 41;rw [<-bl] at bP;have cQ:w1.heap.size=w.heap.size+1:=by rw [bl];simp
 obtain ⟨w2,bo⟩:∃ w2,w2=w1.alloc (.cells #[.bool false,.slice none 0 0,.slice none 0 0,.bool false,.slice none 0 0,.slice none 0 0] 44):=⟨_,rfl⟩;have bQ:Hid (gO w1 w2):=af (by rw [bo];exact (gO.refl _).alloc _);have dl:Hid (gO w w2):=af (by rw [bo,bl];exact ((gO.refl _).alloc _).alloc _);have dm:Hid (SpnAt w2 (w.heap.size+1) ⟨false,[],[]⟩ ⟨false,[],[]⟩):=af (by rw [bo,<-cQ];exact SpnAt.zero w1);have dp:=af (bP.kept bQ.out);have dq:Hid (w2=(w.alloc (.cells #[.int .i64 V,.slice va vn vc,.int .i64 T] 41)).alloc (.cells #[.bool false,.slice none 0 0,.slice none 0 0,.bool false,.slice none 0 0,.slice none 0 0] 44)):=af (by rw [bo,bl]);clear hv hp cL cM h3 cN bj bO hB bl bo bP cQ;obtain ⟨w3,rfl⟩:∃ w3:World,w3=w2:=⟨_,rfl⟩;have bp:=dl;have aJ:=dm;have bq:=dp;have b0:=bq.out.cell (i:=0) (by simp);have b1:=bq.out.cell (i:=1) (by simp);have b2:=bq.out.cell (i:=2) (by simp);simp only [List.getElem_cons_succ,List.getElem_cons_zero] at b0 b1 b2;have dH:=bq.out.lt;go_enter Tryz.func23,Tryz.ntmps23;go_upto_region 1 with fail
 rw [<-dq.out];by_cases ap:pn=V
 ·have aY:=af ap;have dr:((pn:Int) != (V:Int))=false:=by simp [ap]
  clear ap;cases al:kQ ps with
  | true =>
   rw [al] at bi;have br:=af al;clear al;go_wp2_with fail;refine (bi.out _ bp.out).mono ?_;rintro e w4 ⟨rfl,aB⟩;have aC:=af (bp.out.trans aB);have aZ:=af (aJ.out.kept aB);clear aB b0 b1 b2;have HE:Hid (B=(3,0,0)):=af (by have h:=HB.out;rw [if_neg (by rw [aY.out];simp),br.out,if_pos rfl] at h;exact h);obtain ⟨n1,l1,m1,n2,l2,m2,a1,c1,a2,c2,a3,c3,a4,c4,w9,he,aq,⟨⟨z0,p0⟩,⟨z1,p1⟩,⟨z2,p2⟩,⟨z3,p3⟩,⟨z4,p4⟩,⟨z5,p5⟩⟩,⟨f0,f1,f2,f3,f4,f5⟩,bR,Y,ah,_,_,ai⟩:=aZ.out.put (SpanV.nought _);have aj:=af (ai.out _ aC.out (by first | exact Nat.le_refl _ | omega));simp only [Value.agg.injEq,Array.mk.injEq,List.cons.injEq,Value.bool.injEq,Value.slice.injEq,and_true] at he;obtain ⟨rfl,⟨rfl,rfl,rfl⟩,⟨rfl,rfl,rfl⟩,rfl,⟨rfl,rfl,rfl⟩,rfl,rfl,rfl⟩:=he;rw [aq] at Y ah aj;clear aq ai;go_wp2;refine bodyPost_ret (v:=.tuple #[.agg #[.bool false,.slice none 0 0,.slice none 0 0,.bool false,.slice none 0 0,.slice none 0 0],.int .i64 3]) ?_ rfl ⟨⟨_,by rw [HE.out];rfl,by rw [HE.out];exact ah.out⟩,aj.out⟩;simp [results,Tryz.results23,go_sem,Y.out.1,Y.out.2.1,Y.out.2.2.1,Y.out.2.2.2.1,Y.out.2.2.2.2.1,Y.out.2.2.2.2.2]
  | false =>
   rw [al] at bi;have br:=af al;clear al;go_wp2_with fail;refine (bi.out _ bp.out).mono ?_;rintro e w4 ⟨rfl,aB⟩;have aC:=af (bp.out.trans aB);have aZ:=af (aJ.out.kept aB);have a_:=af (bq.out.kept aB);clear aB b0 b1 b2;have b0:=a_.out.cell (i:=0) (by simp);have b1:=a_.out.cell (i:=1) (by simp);have b2:=a_.out.cell (i:=2) (by simp);simp only [List.getElem_cons_succ,List.getElem_cons_zero] at b0 b1 b2
   have cR:Hid (B=if kt V T f=false then (7,0,0) else match nc V T f.nodes with
    | none=>(4,0,0)
    | some p=>z' ps p.1 (kD V T f.nodes)):=af (by have h:=HB.out;rw [if_neg (by rw [aY.out];simp),br.out,if_neg (by simp)] at h;exact h)
   go_wp2_with fail;rcases Jd (.slice va vn vc) f V T HO.out cO.out ⟨_,_,_,rfl⟩ with ⟨q,hq,bt⟩ | ⟨p,hl,bw,bt⟩
   ·have bS:=af ((bt w4 (HV.out.kept aC.out)).2)
    have HE:Hid (B=(q,0,0)):=af (by
     have h:=cR.out;rcases hq with ⟨rfl,h1,h2⟩ | ⟨rfl,h1⟩
     ·rw [h1,if_neg (by simp),h2] at h;exact h
     ·rw [h1,if_pos rfl] at h;exact h)
    have cS:q≠0:=by rcases hq with ⟨rfl,_⟩ | ⟨rfl,_⟩ <;> decide
    have dt:((q:Nat):Int)≠0:=by omega
    have dI:(((q:Nat):Int) != 0)=true:=by simpa using dt
    have cU:iV q=.iface 60 (.int .i64 q):=iF cS;have dJ:=af cU;clear bt hq cS cU;refine bS.out.mono ?_;rintro e w5 ⟨rfl,aA⟩;have bd:=af (aC.out.trans aA);have bJ:=af (aZ.out.kept aA);clear aA b0 b1 b2;obtain ⟨n1,l1,m1,n2,l2,m2,a1,c1,a2,c2,a3,c3,a4,c4,w9,he,aq,⟨⟨z0,p0⟩,⟨z1,p1⟩,⟨z2,p2⟩,⟨z3,p3⟩,⟨z4,p4⟩,⟨z5,p5⟩⟩,⟨f0,f1,f2,f3,f4,f5⟩,bR,Y,ah,_,_,ai⟩:=bJ.out.put (SpanV.nought _);have aj:=af (ai.out _ bd.out (by first | exact Nat.le_refl _ | omega));simp only [Value.agg.injEq,Array.mk.injEq,List.cons.injEq,Value.bool.injEq,Value.slice.injEq,and_true] at he;obtain ⟨rfl,⟨rfl,rfl,rfl⟩,⟨rfl,rfl,rfl⟩,rfl,⟨rfl,rfl,rfl⟩,rfl,rfl,rfl⟩:=he;rw [aq] at Y ah aj;clear aq ai;go_wp2;refine bodyPost_ret (v:=.tuple #[.agg #[.bool false,.slice none 0 0,.slice none 0 0,.bool false,.slice none 0 0,.slice none 0 0],.int .i64 (q:Nat)]) ?_ rfl ⟨⟨_,by rw [HE.out],by rw [HE.out];exact ah.out⟩,aj.out⟩;simp [results,Tryz.results23,go_sem,Y.out.1,Y.out.2.1,Y.out.2.2.1,Y.out.2.2.2.1,Y.out.2.2.2.2.1,Y.out.2.2.2.2.2]
   ·have bT:=af bw;have dK:=af hl;obtain ⟨ar,du,_⟩:=nC HO.out bw hl;have bS:=af ((bt w4 (HV.out.kept aC.out)).2);have bz:Hid (∀ s∈p.1,s<16777216/\oy s<(ps.length:Int)):=af fun s hs=>oY (by rw [<-cP.out];exact aY.out) HO.out.v24 (sK HO.out bw hl s hs)
    have bK:Hid (p.1.length<=1024):=af ar.2;have cV:=af ar;obtain ⟨z,hz⟩:∃ z,z=kD V T f.nodes:=⟨_,rfl⟩;have HZ:=af hz
    have cW:Hid (∀ W,gO w W->Calls Tryz.prog 64 #[.agg #[.int .i64 V,.slice va vn vc,.int .i64 T]] W fun e w'=>qo w' e z/\gO W w'):=af fun W hk=>by
     rw [hz];exact xC _ f V T W (HV.out.kept hk) HO.out cO.out bT.out
    have cX:Hid (B=z' ps p.1 z):=af (by have h:=cR.out;rw [bw,if_neg (by simp),hl] at h;rw [hz];exact h);clear bt hl bw ar du hz;refine bS.out.mono ?_;rintro e w5 ⟨⟨v5,rfl,cZ⟩,aA⟩;have bd:=af (aC.out.trans aA);have bJ:=af (aZ.out.kept aA);have dv:=af cZ;clear b0 b1 b2;have b0:=(a_.out.kept aA).cell (i:=0) (by simp);have b1:=(a_.out.kept aA).cell (i:=1) (by simp);have b2:=(a_.out.kept aA).cell (i:=2) (by simp);simp only [List.getElem_cons_succ,List.getElem_cons_zero] at b0 b1 b2;clear cZ aA;go_wp2_with fail;cases z with
    | none =>
     refine (cW.out _ bd.out).mono ?_;rintro e w6 ⟨he,aD⟩;unfold qo at he;subst he;have aK:=af (bd.out.trans aD);have bL:=af (bJ.out.kept aD);clear aD b0 b1 b2;have HE:Hid (B=(4,0,0)):=cX;obtain ⟨n1,l1,m1,n2,l2,m2,a1,c1,a2,c2,a3,c3,a4,c4,w9,he,aq,⟨⟨z0,p0⟩,⟨z1,p1⟩,⟨z2,p2⟩,⟨z3,p3⟩,⟨z4,p4⟩,⟨z5,p5⟩⟩,⟨f0,f1,f2,f3,f4,f5⟩,bR,Y,ah,_,_,ai⟩:=bL.out.put (SpanV.nought _);have aj:=af (ai.out _ aK.out (by first | exact Nat.le_refl _ | omega));simp only [Value.agg.injEq,Array.mk.injEq,List.cons.injEq,Value.bool.injEq,Value.slice.injEq,and_true] at he;obtain ⟨rfl,⟨rfl,rfl,rfl⟩,⟨rfl,rfl,rfl⟩,rfl,⟨rfl,rfl,rfl⟩,rfl,rfl,rfl⟩:=he;rw [aq] at Y ah aj;clear aq ai;go_wp2;refine bodyPost_ret (v:=.tuple #[.agg #[.bool false,.slice none 0 0,.slice none 0 0,.bool false,.slice none 0 0,.slice none 0 0],.int .i64 4]) ?_ rfl ⟨⟨_,by rw [HE.out];rfl,by rw [HE.out];exact ah.out⟩,aj.out⟩;simp [results,Tryz.results23,go_sem,Y.out.1,Y.out.2.1,Y.out.2.2.1,Y.out.2.2.2.1,Y.out.2.2.2.2.1,Y.out.2.2.2.2.2]
    | some l =>
     refine (cW.out _ bd.out).mono ?_;rintro e w6 ⟨⟨v6,rfl,bU⟩,aD⟩;have aK:=af (bd.out.trans aD);have bL:=af (bJ.out.kept aD);have c_:=af (dv.out.kept aD);have da:=af bU.1.ints;obtain ⟨bM,_⟩:=qf HO.out bT.out HZ.out.symm;have aL:∀ s∈l,s<16777216/\oy s<(ps.length:Int):=fun s hs=>oY (by rw [<-cP.out];exact aY.out) HO.out.v24 (qS HO.out bT.out HZ.out.symm bU.2 s hs)
     have db:l.length<=1024:=bM.2;have aM:∀ s∈p.1,(gR (fQ ps s)).Short 91:=fun s _=>oX bk.out aW.out aX.out s
     have aN:∀ s∈l,(gR (gQ ps s)).Short 91:=fun s _=>qK bk.out br.out aW.out aX.out s
     have sF:=jV bK.out aM;have sG:=jV db aN;have gF:=kH aM;have gG:=kH aN;have sF2:=kF sF (by decide);have gG2:=kF gG (by decide);obtain ⟨R1,bV⟩:∃ R1,R1=gR (mH (ir (gQ ps) l) (ik (fQ ps) p.1)):=⟨_,rfl⟩;obtain ⟨R2,bW⟩:∃ R2,R2=gR (mI (1 - ir (fQ ps) p.1) (1 - ik (gQ ps) l)):=⟨_,rfl⟩;clear aD bU b0 b1 b2
     have bA:Hid (∀ (ss:List Nat),Good ss->(∀ s∈ss,s<16777216/\oy s<(ps.length:Int))->oz (ib ss) ps=0):=af fun ss hg hs=>by
      unfold oz;have bX:ku (ib ss)=0:=CQ hg fun s h=>by have:=(hs s h).1;unfold Mk;omega
      rw [if_neg (by rw [bX];simp),mh,if_neg (by
       intro h2;obtain ⟨s,h4,h5⟩:=List.any_eq_true.1 h2;have:=(hs s h4).2;have:=of_decide_eq_true h5;omega),br.out,if_neg (by simp)]
     have bB:Hid (∀ W,gO w W->RatsAt W (.slice pa pn pc) ps):=af fun W h=>HP.out.kept h
     have bY:Hid (∀ W,gO w6 W->Calls Tryz.prog 16 #[v6,.slice pa pn pc] W fun e w'=>(∃ v',e=.returned (.tuple #[v',.int .i64 0])/\RatAt w' v' (gR (ir (gQ ps) l)))/\gO W w'):=af fun W h=>by
      have h0:=bA.out l bM aL;have h1:=ui v6 (.slice pa pn pc) (ib l) ps W (da.out.kept h) (bB.out W (aK.out.trans h)) aW.out aX.out;unfold rx at h1;rw [h0,if_pos rfl,mh] at h1;exact h1
     have bZ:Hid (∀ W,gO w6 W->Calls Tryz.prog 25 #[v5,.slice pa pn pc] W fun e w'=>(∃ v',e=.returned (.tuple #[v',.int .i64 0])/\RatAt w' v' (gR (ik (fQ ps) p.1)))/\gO W w'):=af fun W h=>by
      have h0:=bA.out p.1 cV.out bz.out;have h1:=uh v5 (.slice pa pn pc) (ib p.1) ps W (c_.out.kept h) (bB.out W (aK.out.trans h)) aW.out aX.out;unfold Dk at h1;rw [h0,if_pos rfl,mh] at h1;exact h1
     have b_:Hid (∀ W,gO w6 W->Calls Tryz.prog 14 #[v5,.slice pa pn pc] W fun e w'=>(∃ v',e=.returned (.tuple #[v',.int .i64 0])/\RatAt w' v' (gR (1 - ir (fQ ps) p.1)))/\gO W w'):=af fun W h=>by
      have h0:=bA.out p.1 cV.out bz.out;have h1:=uj v5 (.slice pa pn pc) (ib p.1) ps W (c_.out.kept h) (bB.out W (aK.out.trans h)) aW.out aX.out;unfold rS at h1;rw [h0,if_pos rfl,mh] at h1;exact h1
     have cd:Hid (∀ W,gO w6 W->Calls Tryz.prog 27 #[v6,.slice pa pn pc] W fun e w'=>(∃ v',e=.returned (.tuple #[v',.int .i64 0])/\RatAt w' v' (gR (1 - ik (gQ ps) l)))/\gO W w'):=af fun W h=>by
      have h0:=bA.out l bM aL;have h1:=vf v6 (.slice pa pn pc) (ib l) ps W (da.out.kept h) (bB.out W (aK.out.trans h)) aW.out aX.out;unfold Dt at h1;rw [h0,if_pos rfl,mh] at h1;exact h1
     have ci:Hid (∀ W u1 u2,RatAt W u1 (gR (ir (gQ ps) l))->RatAt W u2 (gR (ik (fQ ps) p.1))->Calls Tryz.prog 65 #[u1,u2] W fun e w'=>(∃ v',e=.returned v'/\RatAt w' v' R1)/\gO W w'):=af fun W u1 u2 k1 k2=>by
      have h:=ul u1 u2 _ _ W k1 k2 ⟨Nat.le_trans sG.1 (by omega),Nat.le_trans sG.2 (by omega)⟩ ⟨Nat.le_trans gF.1 (by omega),Nat.le_trans gF.2 (by omega)⟩;rw [gV,gV,<-bV] at h;exact h
     have cj:Hid (∀ W u1 u2,RatAt W u1 (gR (1 - ir (fQ ps) p.1))->RatAt W u2 (gR (1 - ik (gQ ps) l))->Calls Tryz.prog 66 #[u1,u2] W fun e w'=>(∃ v',e=.returned v'/\RatAt w' v' R2)/\gO W w'):=af fun W u1 u2 k1 k2=>by
      have h:=ur u1 u2 _ _ W k1 k2 ⟨Nat.le_trans sF2.1 (by omega),Nat.le_trans sF2.2 (by omega)⟩ ⟨Nat.le_trans gG2.1 (by omega),Nat.le_trans gG2.2 (by omega)⟩;rw [gV,gV,<-bW] at h;exact h
     have bf:Hid (gR (mH (ir (gQ ps) l) (ik (fQ ps) p.1))=R1/\gR (mI (1 - ir (fQ ps) p.1) (1 - ik (gQ ps) l))=R2):=af ⟨bV.symm,bW.symm⟩;have bh:Hid (B=(0,mH (ir (gQ ps) l) (ik (fQ ps) p.1),mI (1 - ir (fQ ps) p.1) (1 - ik (gQ ps) l))):=cX;clear bM aL db aM aN sF sG gF gG sF2 gG2 bV bW;obtain ⟨x1,dd⟩:∃ x,x=ir (gQ ps) l:=⟨_,rfl⟩;obtain ⟨x2,de⟩:∃ x,x=ik (fQ ps) p.1:=⟨_,rfl⟩;obtain ⟨x3,df⟩:∃ x,x=ir (fQ ps) p.1:=⟨_,rfl⟩;obtain ⟨x4,dg⟩:∃ x,x=ik (gQ ps) l:=⟨_,rfl⟩;rw [<-dd] at bY ci bf bh;rw [<-de] at bZ ci bf bh;rw [<-df] at b_ cj bf bh;rw [<-dg] at cd cj bf bh;clear dd de df dg;obtain ⟨_,_,_,_,_,_,_,_,_,_,dh,_⟩:=bL.out.at;have bN:=af dh;clear dh;go_wp2_with fail;refine (bY.out _ (gO.refl _)).mono ?_;rintro e w7 ⟨⟨v7,rfl,hv⟩,hk⟩;obtain ⟨n7,l7,m7,a7,c7,i7,j7,w8,rfl,hw,⟨_,_,_⟩,hc,aw,hr,_⟩:=hv.boxc;have di:=af hc;have dL:=af hr;have dw:=af hw;have SK8:=af (hk.trans aw);have ck:=af (SK8.out);have cn:Hid (w7.heap.size≠w.heap.size+1):=af (by have h1:=hk.size;have h2:=bN.out;omega);clear hv hk hw hc aw hr;go_wp2_with fail;rw [<-dw.out];refine (bZ.out _ ck.out).mono ?_;rintro e w9 ⟨⟨v9,rfl,hv⟩,hk⟩;obtain ⟨n9,l9,m9,a9,c9,i9,j9,w10,rfl,hw,⟨_,_,_⟩,hc,aw,hr,_⟩:=hv.boxc;have bC:=af hc
     have dx:=af hr;have cq:=af hw;have SK10:=af (hk.trans aw);have aO:=af (ck.out.trans SK10.out);have cr:Hid (w9.heap.size≠w.heap.size+1):=af (by have h1:=(ck.out.trans hk).size;have h2:=bN.out;omega);clear hv hk hw hc aw hr;go_wp2_with fail;rw [<-cq.out];refine (b_.out _ aO.out).mono ?_;rintro e w11 ⟨⟨v11,rfl,hv⟩,hk⟩;obtain ⟨n11,l11,m11,a11,c11,i11,j11,w12,rfl,hw,⟨_,_,_⟩,hc,aw,hr,_⟩:=hv.boxc;have bD:=af hc;have dy:=af hr;have ct:=af hw;have SK12:=af (hk.trans aw);have aP:=af (aO.out.trans SK12.out);have aQ:Hid (w11.heap.size≠w.heap.size+1):=af (by have h1:=(aO.out.trans hk).size;have h2:=bN.out;omega);clear hv hk hw hc aw hr;go_wp2_with fail;rw [<-ct.out];refine (cd.out _ aP.out).mono ?_;rintro e w13 ⟨⟨v13,rfl,hv⟩,hk⟩;obtain ⟨n13,l13,m13,a13,c13,i13,j13,w14,rfl,hw,⟨u0,ua1,ua2⟩,hc,aw,hr,_⟩:=hv.boxc;have cu:=af hc;have cw:=af hr;have cz:=af hw;have SK14:=af (hk.trans aw);have bE:=af (aP.out.trans SK14.out);have aR:Hid (w13.heap.size≠w.heap.size+1):=af (by have h1:=(aP.out.trans hk).size;have h2:=bN.out;omega);clear hv hk hw hc aw hr;have bF:=af (di.out.kept (SK10.out.trans (SK12.out.trans SK14.out)));have aF:=af (bC.out.kept (SK12.out.trans SK14.out));have aG:=af (bD.out.kept SK14.out)
     obtain ⟨p1,p2,p3,q1,r1,q2,r2,x0,xa1,xa2,dz,dA⟩:=bF.out.read;obtain ⟨p4,p5,p6,q3,r3,q4,r4,y0,ya1,ya2,dB,dC⟩:=aF.out.read;obtain ⟨p7,p8,p9,q5,r5,q6,r6,t0,ta1,ta2,dD,dE⟩:=aG.out.read;have dF:=cw;have cC:=af (bL.out.kept bE.out);have bK:Hid ((fun W:World=>W.cell? ⟨w7.heap.size,0,none⟩=some (.bool p1)/\W.cell? ⟨w7.heap.size,1,none⟩=some (.slice q1 p2 r1)/\W.cell? ⟨w7.heap.size,2,none⟩=some (.slice q2 p3 r2)/\W.cell? ⟨w9.heap.size,0,none⟩=some (.bool p4)/\W.cell? ⟨w9.heap.size,1,none⟩=some (.slice q3 p5 r3)/\W.cell? ⟨w9.heap.size,2,none⟩=some (.slice q4 p6 r4)/\W.cell? ⟨w11.heap.size,0,none⟩=some (.bool p7)/\W.cell? ⟨w11.heap.size,1,none⟩=some (.slice q5 p8 r5)/\W.cell? ⟨w11.heap.size,2,none⟩=some (.slice q6 p9 r6)/\W.cell? ⟨w13.heap.size,0,none⟩=some (.bool n13)/\W.cell? ⟨w13.heap.size,1,none⟩=some (.slice a13 l13 c13)/\W.cell? ⟨w13.heap.size,2,none⟩=some (.slice i13 m13 j13)) w14):=af ⟨x0,xa1,xa2,y0,ya1,ya2,t0,ta1,ta2,u0,ua1,ua2⟩;have cD:Hid ((fun W:World=>W.cell? ⟨w7.heap.size,0,none⟩=some (.bool p1)/\W.cell? ⟨w7.heap.size,1,none⟩=some (.slice q1 p2 r1)/\W.cell? ⟨w7.heap.size,2,none⟩=some (.slice q2 p3 r2)/\W.cell? ⟨w9.heap.size,0,none⟩=some (.bool p4)/\W.cell? ⟨w9.heap.size,1,none⟩=some (.slice q3 p5 r3)/\W.cell? ⟨w9.heap.size,2,none⟩=some (.slice q4 p6 r4)/\W.cell? ⟨w11.heap.size,0,none⟩=some (.bool p7)/\W.cell? ⟨w11.heap.size,1,none⟩=some (.slice q5 p8 r5)/\W.cell? ⟨w11.heap.size,2,none⟩=some (.slice q6 p9 r6)/\W.cell? ⟨w13.heap.size,0,none⟩=some (.bool n13)/\W.cell? ⟨w13.heap.size,1,none⟩=some (.slice a13 l13 c13)/\W.cell? ⟨w13.heap.size,2,none⟩=some (.slice i13 m13 j13)) w14.drew):=af (by obtain ⟨h1,h2,h3,h4,h5,h6,h7,h8,h9,aS,aT,aU⟩:=bK.out;exact ⟨(gO.refl w14).drew.cell h1,(gO.refl w14).drew.cell h2,(gO.refl w14).drew.cell h3,(gO.refl w14).drew.cell h4,(gO.refl w14).drew.cell h5,(gO.refl w14).drew.cell h6,(gO.refl w14).drew.cell h7,(gO.refl w14).drew.cell h8,(gO.refl w14).drew.cell h9,(gO.refl w14).drew.cell aS,(gO.refl w14).drew.cell aT,(gO.refl w14).drew.cell aU⟩)
     clear x0 xa1 xa2 y0 ya1 ya2 t0 ta1 ta2 dz dB dD di bC bD cu bF aF aG bY bZ b_ cd bB bA;go_wp2_with fail;rw [<-cz.out];clear u0 ua1 ua2
     go_region_held3 (fun W=>W.cell? ⟨w7.heap.size,0,none⟩=some (.bool p1)/\W.cell? ⟨w7.heap.size,1,none⟩=some (.slice q1 p2 r1)/\W.cell? ⟨w7.heap.size,2,none⟩=some (.slice q2 p3 r2)/\W.cell? ⟨w9.heap.size,0,none⟩=some (.bool p4)/\W.cell? ⟨w9.heap.size,1,none⟩=some (.slice q3 p5 r3)/\W.cell? ⟨w9.heap.size,2,none⟩=some (.slice q4 p6 r4)/\W.cell? ⟨w11.heap.size,0,none⟩=some (.bool p7)/\W.cell? ⟨w11.heap.size,1,none⟩=some (.slice q5 p8 r5)/\W.cell? ⟨w11.heap.size,2,none⟩=some (.slice q6 p9 r6)/\W.cell? ⟨w13.heap.size,0,none⟩=some (.bool n13)/\W.cell? ⟨w13.heap.size,1,none⟩=some (.slice a13 l13 c13)/\W.cell? ⟨w13.heap.size,2,none⟩=some (.slice i13 m13 j13))
      (with_reducible first | exact aH.out | exact aI.out | exact ay.out | exact cD.out)
      (first
      | (go_at_call 65;(with_reducible refine (ci.out _ _ _ (dA.out.kept (gO.refl _).drew) (dC.out.kept (gO.refl _).drew)).mono ?_);rintro e w15 ⟨⟨v15,rfl,bG⟩,bH⟩;have hkd:=(gO.refl _).drew.trans bH;have cE:=af bG;have cF:=af (dE.out.kept hkd);have cG:=af (dF.out.kept hkd);have cH:=af (cC.out.kept hkd);have cI:=af (bE.out.trans hkd);have ay:Hid ((fun W:World=>W.cell? ⟨w7.heap.size,0,none⟩=some (.bool p1)/\W.cell? ⟨w7.heap.size,1,none⟩=some (.slice q1 p2 r1)/\W.cell? ⟨w7.heap.size,2,none⟩=some (.slice q2 p3 r2)/\W.cell? ⟨w9.heap.size,0,none⟩=some (.bool p4)/\W.cell? ⟨w9.heap.size,1,none⟩=some (.slice q3 p5 r3)/\W.cell? ⟨w9.heap.size,2,none⟩=some (.slice q4 p6 r4)/\W.cell? ⟨w11.heap.size,0,none⟩=some (.bool p7)/\W.cell? ⟨w11.heap.size,1,none⟩=some (.slice q5 p8 r5)/\W.cell? ⟨w11.heap.size,2,none⟩=some (.slice q6 p9 r6)/\W.cell? ⟨w13.heap.size,0,none⟩=some (.bool n13)/\W.cell? ⟨w13.heap.size,1,none⟩=some (.slice a13 l13 c13)/\W.cell? ⟨w13.heap.size,2,none⟩=some (.slice i13 m13 j13)) w15):=af (by obtain ⟨h1,h2,h3,h4,h5,h6,h7,h8,h9,aS,aT,aU⟩:=bK.out;exact ⟨hkd.cell h1,hkd.cell h2,hkd.cell h3,hkd.cell h4,hkd.cell h5,hkd.cell h6,hkd.cell h7,hkd.cell h8,hkd.cell h9,hkd.cell aS,hkd.cell aT,hkd.cell aU⟩);clear bG bH hkd)
      | (go_at_call 66;(with_reducible refine (cj.out _ _ _ cF.out cG.out).mono ?_);rintro e w16 ⟨⟨v16,rfl,aV⟩,ag⟩;have az:=af (cE.out.kept ag);have cJ:=af (cH.out.kept ag);have cK:=af (cI.out.trans ag);have aI:Hid ((fun W:World=>W.cell? ⟨w7.heap.size,0,none⟩=some (.bool p1)/\W.cell? ⟨w7.heap.size,1,none⟩=some (.slice q1 p2 r1)/\W.cell? ⟨w7.heap.size,2,none⟩=some (.slice q2 p3 r2)/\W.cell? ⟨w9.heap.size,0,none⟩=some (.bool p4)/\W.cell? ⟨w9.heap.size,1,none⟩=some (.slice q3 p5 r3)/\W.cell? ⟨w9.heap.size,2,none⟩=some (.slice q4 p6 r4)/\W.cell? ⟨w11.heap.size,0,none⟩=some (.bool p7)/\W.cell? ⟨w11.heap.size,1,none⟩=some (.slice q5 p8 r5)/\W.cell? ⟨w11.heap.size,2,none⟩=some (.slice q6 p9 r6)/\W.cell? ⟨w13.heap.size,0,none⟩=some (.bool n13)/\W.cell? ⟨w13.heap.size,1,none⟩=some (.slice a13 l13 c13)/\W.cell? ⟨w13.heap.size,2,none⟩=some (.slice i13 m13 j13)) w16):=af (by obtain ⟨h1,h2,h3,h4,h5,h6,h7,h8,h9,aS,aT,aU⟩:=ay.out;exact ⟨ag.cell h1,ag.cell h2,ag.cell h3,ag.cell h4,ag.cell h5,ag.cell h6,ag.cell h7,ag.cell h8,ag.cell h9,ag.cell aS,ag.cell aT,ag.cell aU⟩);clear ay ag;obtain ⟨d1,d2,d3,d4,d5,d6,d7,rfl⟩:=aV.parts;obtain ⟨g1,g2,g3,g4,g5,g6,g7,rfl⟩:=az.out.parts;have dj:=SpanV.of2 az.out aV;obtain ⟨z1,z2,z3,z4,z5,z6,y1,y2,y3,y4,y5,y6,y7,y8,w17,he,bI,⟨⟨z0,pp0⟩,⟨zz1,pp1⟩,⟨zz2,pp2⟩,⟨zz3,pp3⟩,⟨zz4,pp4⟩,⟨zz5,pp5⟩⟩,⟨ff0,ff1,ff2,ff3,ff4,ff5⟩,dG,Y,ah,_,am,ai⟩:=cJ.out.put dj;simp only [Value.agg.injEq,Array.mk.injEq,List.cons.injEq,Value.bool.injEq,Value.slice.injEq,and_true] at he;obtain ⟨rfl,⟨rfl,rfl,rfl⟩,⟨rfl,rfl,rfl⟩,rfl,⟨rfl,rfl,rfl⟩,rfl,rfl,rfl⟩:=he;have aj:=af (ai.out _ (aK.out.trans cK.out) (by omega));have aH:Hid ((fun W:World=>W.cell? ⟨w7.heap.size,0,none⟩=some (.bool p1)/\W.cell? ⟨w7.heap.size,1,none⟩=some (.slice q1 p2 r1)/\W.cell? ⟨w7.heap.size,2,none⟩=some (.slice q2 p3 r2)/\W.cell? ⟨w9.heap.size,0,none⟩=some (.bool p4)/\W.cell? ⟨w9.heap.size,1,none⟩=some (.slice q3 p5 r3)/\W.cell? ⟨w9.heap.size,2,none⟩=some (.slice q4 p6 r4)/\W.cell? ⟨w11.heap.size,0,none⟩=some (.bool p7)/\W.cell? ⟨w11.heap.size,1,none⟩=some (.slice q5 p8 r5)/\W.cell? ⟨w11.heap.size,2,none⟩=some (.slice q6 p9 r6)/\W.cell? ⟨w13.heap.size,0,none⟩=some (.bool n13)/\W.cell? ⟨w13.heap.size,1,none⟩=some (.slice a13 l13 c13)/\W.cell? ⟨w13.heap.size,2,none⟩=some (.slice i13 m13 j13)) w17):=af (by obtain ⟨h1,h2,h3,h4,h5,h6,h7,h8,h9,aS,aT,aU⟩:=aI.out;exact ⟨am.out.cell cn.out h1,am.out.cell cn.out h2,am.out.cell cn.out h3,am.out.cell cr.out h4,am.out.cell cr.out h5,am.out.cell cr.out h6,am.out.cell aQ.out h7,am.out.cell aQ.out h8,am.out.cell aQ.out h9,am.out.cell aR.out aS,am.out.cell aR.out aT,am.out.cell aR.out aU⟩);rw [bI] at Y ah aj aH;clear dj aV bI ai am az))
     all_goals
      go_wp2;refine bodyPost_ret (v:=.tuple #[.agg #[.bool g1,.slice g4 g2 g5,.slice g6 g3 g7,.bool d1,.slice d4 d2 d5,.slice d6 d3 d7],.int .i64 0]) ?_ rfl ⟨⟨_,by rw [bh.out];rfl,by rw [bh.out];show SpanV _ _ (gR _) (gR _);rw [bf.out.1,bf.out.2];exact ah.out⟩,aj.out⟩;simp [results,Tryz.results23,go_sem,Y.out.1,Y.out.2.1,Y.out.2.2.1,Y.out.2.2.2.1,Y.out.2.2.2.2.1,Y.out.2.2.2.2.2]
 ·have aY:=af ap;have dr:((pn:Int) != (V:Int))=true:=by simp;omega
  clear ap;have aC:=bp;have aZ:=aJ;have HE:Hid (B=(11,0,0)):=af (by have h:=HB.out;rw [if_pos aY.out] at h;exact h);obtain ⟨n1,l1,m1,n2,l2,m2,a1,c1,a2,c2,a3,c3,a4,c4,w9,he,aq,⟨⟨z0,p0⟩,⟨z1,p1⟩,⟨z2,p2⟩,⟨z3,p3⟩,⟨z4,p4⟩,⟨z5,p5⟩⟩,⟨f0,f1,f2,f3,f4,f5⟩,bR,Y,ah,_,_,ai⟩:=aZ.out.put (SpanV.nought _);have aj:=af (ai.out _ aC.out (by first | exact Nat.le_refl _ | omega));simp only [Value.agg.injEq,Array.mk.injEq,List.cons.injEq,Value.bool.injEq,Value.slice.injEq,and_true] at he;obtain ⟨rfl,⟨rfl,rfl,rfl⟩,⟨rfl,rfl,rfl⟩,rfl,⟨rfl,rfl,rfl⟩,rfl,rfl,rfl⟩:=he;rw [aq] at Y ah aj;clear aq ai;go_wp2;refine bodyPost_ret (v:=.tuple #[.agg #[.bool false,.slice none 0 0,.slice none 0 0,.bool false,.slice none 0 0,.slice none 0 0],.int .i64 11]) ?_ rfl ⟨⟨_,by rw [HE.out];rfl,by rw [HE.out];exact ah.out⟩,aj.out⟩;simp [results,Tryz.results23,go_sem,Y.out.1,Y.out.2.1,Y.out.2.2.1,Y.out.2.2.2.1,Y.out.2.2.2.2.1,Y.out.2.2.2.2.2]
theorem EQ (b:Int) (x:Nd):lv b x<=100:=by
 unfold lv;split
 ·omega
 ·split
  ·omega
  ·split
   ·omega
   ·unfold mF;split
    ·split <;> omega
    ·split
     ·split <;> omega
     ·split <;> omega
theorem Af (xs:List Nd):∀ b,kN b xs<=100:=by
 induction xs with
 | nil=>intro b;unfold kN;omega
 | cons x xs ih =>
  intro b;unfold kN;split
  ·exact ih _
  ·exact EQ b x
theorem Hm (f:Fm):jP f<=100:=by
 unfold jP;split
 ·omega
 ·split
  ·omega
  ·split
   ·split <;> omega
   ·exact Af _ _
theorem yc (v:Value) (f:Fm) (w:World) (hv:ii w v f.nodes) :
  Calls Tryz.prog 19 #[ot v f] w fun e w'=>(∃ b,e=.returned (.bool b))/\gO w w':=by
 have hh:∀ W,gO w W->Calls Tryz.prog 40 #[ot v f] W fun e w'=>(∃ b,e=.returned (.bool b))/\gO W w':=fun W hk=>Dd v f W (hv.kept hk)
 obtain ⟨a,n,c,rfl⟩:∃ a n c,v=.slice a n c:=by obtain ⟨a,c,h,_⟩:=hv;exact ⟨a,_,c,h⟩
 obtain ⟨vars,nodes,top⟩:=f;have HH:Hid (∀ W,gO w W->Calls Tryz.prog 40 #[.agg #[.int .i64 vars,.slice a n c,.int .i64 top]] W fun e w'=>(∃ b,e=.returned (.bool b))/\gO W w'):=af hh;show Calls _ _ #[.agg #[.int .i64 vars,.slice a n c,.int .i64 top]] _ _;obtain ⟨w0,ah⟩:∃ w0,w0=w.alloc (.cells #[.int .i64 vars,.slice a n c,.int .i64 top] 41):=⟨_,rfl⟩;have aj:Hid (gS w0 w.heap.size 41 [.int .i64 vars,.slice a n c,.int .i64 top]):=af (by rw [ah];exact gS.made w #[.int .i64 vars,.slice a n c,.int .i64 top] 41);have al:Hid (gO w w0):=af (by rw [ah];exact (gO.refl _).alloc _);have am:=af ah;obtain ⟨c0,c1,c2⟩:=pC aj.out;rw [ah] at c0 c1 c2;clear hv hh ah;go_enter Tryz.func19,Tryz.ntmps19;go_wp2_with fail;rw [<-am.out];refine (HH.out _ al.out).mono ?_;rintro e w1 ⟨⟨b,rfl⟩,ai⟩;have ap:=af (aj.out.kept ai);have ag:=af (al.out.trans ai);clear ai c0 c1 c2;obtain ⟨c0,c1,c2⟩:=pC ap.out;cases b with
 | true =>
  go_wp2;go_ret
  first | exact ⟨⟨_,rfl⟩,ag.out⟩ | exact ⟨.inl rfl,ag.out⟩ | exact ⟨.inr rfl,ag.out⟩
 | false =>
  by_cases h8:(8:Int)<vars
  ·by_cases aq:vars<=24
   ·go_wp2;go_ret
    first | exact ⟨⟨_,rfl⟩,ag.out⟩ | exact ⟨.inl rfl,ag.out⟩ | exact ⟨.inr rfl,ag.out⟩
   ·go_wp2;go_ret
    first | exact ⟨⟨_,rfl⟩,ag.out⟩ | exact ⟨.inl rfl,ag.out⟩ | exact ⟨.inr rfl,ag.out⟩
  ·go_wp2;go_ret
   first | exact ⟨⟨_,rfl⟩,ag.out⟩ | exact ⟨.inl rfl,ag.out⟩ | exact ⟨.inr rfl,ag.out⟩
theorem CV (v pv:Value) (f:Fm) (q:Nat) (hq:q≠0) (w:World) (hs:∃ a n c,v=.slice a n c) (hr:∀ W,gO w W->Calls Tryz.prog 30 #[ot v f] W fun e w'=>e=.returned (iV q)/\gO W w') :
  Calls Tryz.prog 20 #[ot v f,pv] w fun e w'=>(∃ v',e=.returned (.tuple #[v',iV q])/\SpanV w' v' (gR 0) (gR 0))/\gO w w':=by
 obtain ⟨a,n,c,rfl⟩:=hs;obtain ⟨V,nodes,T⟩:=f;have ay:Hid (∀ W,gO w W->Calls Tryz.prog 30 #[.agg #[.int .i64 V,.slice a n c,.int .i64 T]] W fun e w'=>e=.returned (iV q)/\gO W w'):=af hr;rw [iF hq] at *;show Calls _ _ #[.agg #[.int .i64 V,.slice a n c,.int .i64 T],pv] _ _;obtain ⟨w1,ag⟩:∃ w1,w1=w.alloc (.cells #[.int .i64 V,.slice a n c,.int .i64 T] 41):=⟨_,rfl⟩;have aj:Hid (w1.heap.size=w.heap.size+1):=af (by rw [ag];simp);have al:gO w w1:=by rw [ag];exact (gO.refl _).alloc _
 obtain ⟨w2,ah⟩:∃ w2,w2=w1.alloc (.cells #[.bool false,.slice none 0 0,.slice none 0 0,.bool false,.slice none 0 0,.slice none 0 0] 44):=⟨_,rfl⟩;have az:Hid (SpnAt w2 w1.heap.size ⟨false,[],[]⟩ ⟨false,[],[]⟩):=af (by rw [ah];exact SpnAt.zero w1);have am:Hid (gO w w2):=af (by rw [ah];exact al.alloc _);have aA:=af ag;have aB:=af ah;clear ag ah al hr;go_enter Tryz.func20,Tryz.ntmps20;go_wp2_with fail;rw [<-aA.out,<-aj.out,<-aB.out];refine (ay.out _ am.out).mono ?_;rintro e w3 ⟨rfl,ai⟩;have aC:=af (am.out.trans ai);have aD:Hid (w.heap.size<=w1.heap.size):=af (by have:=aj.out;omega);obtain ⟨n1,l1,m1,n2,l2,m2,a1,c1,a2,c2,a3,c3,a4,c4,w9,he,ap,⟨⟨z0,p0⟩,⟨z1,p1⟩,⟨z2,p2⟩,⟨z3,p3⟩,⟨z4,p4⟩,⟨z5,p5⟩⟩,⟨f0,f1,f2,f3,f4,f5⟩,aF,Y,aq,_,_,ar⟩:=(az.out.kept ai).put (SpanV.nought _);have aw:=af (ar.out _ aC.out aD.out);simp only [Value.agg.injEq,Array.mk.injEq,List.cons.injEq,Value.bool.injEq,Value.slice.injEq,and_true] at he;obtain ⟨rfl,⟨rfl,rfl,rfl⟩,⟨rfl,rfl,rfl⟩,rfl,⟨rfl,rfl,rfl⟩,rfl,rfl,rfl⟩:=he;rw [ap] at Y aq aw;clear ap ar ai;go_wp2;refine bodyPost_ret (v:=.tuple #[.agg #[.bool false,.slice none 0 0,.slice none 0 0,.bool false,.slice none 0 0,.slice none 0 0],.iface 60 (.int .i64 q)]) ?_ rfl ⟨⟨_,rfl,aq.out⟩,aw.out⟩;simp [results,Tryz.results20,go_sem,Y.out.1,Y.out.2.1,Y.out.2.2.1,Y.out.2.2.2.1,Y.out.2.2.2.2.1,Y.out.2.2.2.2.2]
theorem uX (v pv:Value) (f:Fm) (ps:List Rw) (w:World) (hv:ii w v f.nodes) (aZ:I_ f) (hp:lN w pv ps) :
  Calls Tryz.prog 4 #[ot v f,pv] w fun e w'=>e=.returned (.bool true)/\gO w w':=by
 have ht:f.top<=9223372036854775807:=aZ.2.1.2;have hh:∀ W,gO w W->Calls Tryz.prog 19 #[ot v f] W fun e w'=>(∃ b,e=.returned (.bool b))/\gO W w':=fun W hk=>yc v f W (hv.kept hk)
 have hc:∀ W,gO w W->Calls Tryz.prog 30 #[ot v f] W fun e w'=>e=.returned (iV (jP f))/\gO W w':=fun W hk=>mf v f W (hv.kept hk) ht
 have aG:∀ W,gO w W->Calls Tryz.prog 21 #[ot v f] W fun e w'=>e=.returned (.int .i64 (jP f))/\gO W w':=fun W hk=>t_ v f W (hv.kept hk) ht
 have aH:=af fun (am:ps.length<=30) (aj:∀ r∈ps,r.Short 3) (a_:RatsAt w pv ps) V T (al:Ok f V T) (bd:jP f=0) W (hk:gO w W)=>And.intro (qJ v pv f V T ps W (hv.kept hk) al bd (a_.kept hk) aj am) (sS v pv f V T ps W (hv.kept hk) al bd (a_.kept hk) aj am)
 have hs:∃ a n c,v=.slice a n c:=by obtain ⟨a,c,h,_⟩:=hv;exact ⟨a,_,c,h⟩
 have aI:jP f<=100:=Hm f;have az:=af fun (hq:jP f≠0) W (hk:gO w W)=>CV v pv f (jP f) hq W hs fun W' hk'=>hc W' (hk.trans hk')
 have aA:=af fun (h:jP f=0)=>IU f h
 obtain ⟨q,hq⟩:∃ q,q=jP f:=⟨_,rfl⟩;rw [<-hq] at aG aI az aA aH;have HL:=af (fun W (h:gO w W)=>Di pv ps W (hp.kept h));have bA:=af hp;obtain ⟨a,n,c,rfl⟩:=hs;obtain ⟨pa,pc,bf,_⟩:=id hp;obtain ⟨pn,bh⟩:∃ pn,pn=ps.length:=⟨_,rfl⟩;rw [<-bh] at bf;subst bf;obtain ⟨vars,nodes,top⟩:=f;have HH:Hid (∀ W,gO w W->Calls Tryz.prog 19 #[.agg #[.int .i64 vars,.slice a n c,.int .i64 top]] W fun e w'=>(∃ b,e=.returned (.bool b))/\gO W w'):=af hh;have bi:Hid (∀ W,gO w W->Calls Tryz.prog 21 #[.agg #[.int .i64 vars,.slice a n c,.int .i64 top]] W fun e w'=>e=.returned (.int .i64 q)/\gO W w'):=af aG;have HA:Hid (∀ W,Calls Tryz.prog 10 #[] W fun e w'=>e=.returned (.bool true)/\gO W w'):=af fun W=>zZ W
 show Calls _ _ #[.agg #[.int .i64 vars,.slice a n c,.int .i64 top],.slice pa pn pc] _ _;obtain ⟨w0,aB⟩:∃ w0,w0=w.alloc (.cells #[.int .i64 vars,.slice a n c,.int .i64 top] 41):=⟨_,rfl⟩;have bB:Hid (gS w0 w.heap.size 41 [.int .i64 vars,.slice a n c,.int .i64 top]):=af (by rw [aB];exact gS.made w #[.int .i64 vars,.slice a n c,.int .i64 top] 41);have bC:Hid (gO w w0):=af (by rw [aB];exact (gO.refl _).alloc _);have bD:=af aB;have bE:=af aI;clear hv hh hc aG hq ht aZ hp aB bh aI;go_enter Tryz.func4,Tryz.ntmps4;go_wp2_with fail;rw [<-bD.out];refine (HA.out _).mono ?_;rintro e w1 ⟨rfl,aJ⟩;have bj:=af (bB.out.kept aJ);have bk:=af (bC.out.trans aJ);obtain ⟨c0,c1,c2⟩:=pC bj.out;clear aJ;go_wp2_with fail;refine (HH.out _ bk.out).mono ?_;rintro e w2 ⟨⟨b,rfl⟩,ag⟩;have bF:=af (bj.out.kept ag);have aK:=af (bk.out.trans ag);clear ag c0 c1 c2;cases b with
 | true =>
  go_wp2_with fail;refine (HA.out _).mono ?_;rintro e w3 ⟨rfl,ap⟩;go_wp2;go_ret;exact ⟨rfl,aK.out.trans ap⟩
 | false =>
  go_wp2_with fail;refine (HL.out _ aK.out).mono ?_;rintro e w3 ⟨⟨u2,rfl,bb,rfl,bl⟩,ap⟩;have aL:=af (bF.out.kept ap);have aq:=af (aK.out.trans ap);have bG:=af bl;clear ap bl;cases bb with
  | true =>
   go_wp2_with fail;refine (HA.out _).mono ?_;rintro e w4 ⟨rfl,bH⟩;go_wp2;go_ret;exact ⟨rfl,aq.out.trans bH⟩
  | false =>
   obtain ⟨am,aj⟩:=bG.out rfl;have bo:=bA.out.small fun r hr=>⟨Nat.le_trans (aj r hr).1 (by omega),Nat.le_trans (aj r hr).2 (by omega)⟩
   have aM:=af (aH.out am aj bo);clear am aj bo aH;obtain ⟨c0,c1,c2⟩:=pC aL.out;by_cases bp:q=0
   ·subst bp;obtain ⟨V,T,al⟩:=aA.out rfl;have aN:=af (aM.out V T al rfl);have e1:vars=(V:Int):=al.vars;have e2:top=(T:Int):=al.top;subst e1 e2;have bI:=Hh V T ⟨V,nodes,T⟩ ps;obtain ⟨Q,hQ⟩:∃ Q,Q=(oD V T ⟨V,nodes,T⟩ ps).1:=⟨_,rfl⟩;obtain ⟨lo,hlo⟩:∃ lo,lo=gR (oD V T ⟨V,nodes,T⟩ ps).2.1:=⟨_,rfl⟩;obtain ⟨hi,aO⟩:∃ hi,hi=gR (oD V T ⟨V,nodes,T⟩ ps).2.2:=⟨_,rfl⟩;have aP:Hid (∀ W,Calls Tryz.prog 17 #[iV Q] W fun e w'=>e=.returned (.int .i64 Q)/\W=w'):=af fun W=>FJ Q W (by omega)
    have bJ:Hid (∀ W,gO w W->Calls Tryz.prog 20 #[.agg #[.int .i64 V,.slice a n c,.int .i64 T],.slice pa pn pc] W fun e w'=>(∃ v',e=.returned (.tuple #[v',iV Q])/\SpanV w' v' lo hi)/\gO W w'):=af fun W h=>by rw [hQ,hlo,aO];exact (aN.out W h).1
    have bK:Hid (∀ W,gO w W->Calls Tryz.prog 23 #[.agg #[.int .i64 V,.slice a n c,.int .i64 T],.slice pa pn pc] W fun e w'=>(∃ v',e=.returned (.tuple #[v',.int .i64 (Q:Nat)])/\SpanV w' v' lo hi)/\gO W w'):=af fun W h=>by rw [hQ,hlo,aO];exact (aN.out W h).2
    clear al hQ hlo aO bI aN aM az aA;go_wp2_with fail;refine (bJ.out _ aq.out).mono ?_;rintro e w7 ⟨⟨v,rfl,hv⟩,hk⟩;obtain ⟨n7,l7,m7,n8,l8,m8,a7,c7,b7,d7,a8,c8,b8,d8,w8,rfl,hw,hc,ag,hr,_⟩:=hv.box;have aQ:=af hc;have aR:=af hw;have ar:=af (aq.out.trans (hk.trans ag));have aC:=af (aL.out.kept (hk.trans ag));clear c0 c1 c2;obtain ⟨c0,c1,c2⟩:=pC aC.out;rw [hw] at c0 c1 c2;clear hv hk hw hc ag hr;go_wp2_with fail;rw [<-aR.out];refine (bi.out _ ar.out).mono ?_;rintro e w9 ⟨rfl,ai⟩;have bL:=af (aC.out.kept ai);have aS:=af (aQ.out.kept ai);have aD:=af (ar.out.trans ai);clear ai c0 c1 c2;obtain ⟨c0,c1,c2⟩:=pC bL.out;go_wp2_with fail;refine (bK.out _ aD.out).mono ?_;rintro e w10 ⟨⟨v,rfl,hv⟩,hk⟩;obtain ⟨n9,l9,m9,n10,l10,m10,a9,c9,b9,d9,a10,c10,b10,d10,w11,rfl,hw,hc,ag,hr,_⟩:=hv.box;have aw:=af hc;have aT:=af hw;have aU:=af (aD.out.trans (hk.trans ag));have ay:=af (aS.out.kept (hk.trans ag));clear hv hk hw hc ag hr c0 c1 c2;obtain ⟨f1,f2,f3,f4,f5,f6,q1,r1,q2,r2,q3,r3,q4,r4,x0,x1,x2,x3,x4,x5,aV,bq,aF,_⟩:=ay.out.read;obtain ⟨g1,g2,g3,g4,g5,g6,q5,r5,q6,r6,q7,r7,q8,r8,y0,y1,y2,y3,y4,y5,br,bM,bt,_⟩:=aw.out.read;go_wp2_with fail;rw [<-aT.out];refine (aP.out _).mono ?_;rintro e w12 ⟨rfl,rfl⟩;go_wp2_with fail
    refine (zg _ _ lo _ bq.out bM.out).mono ?_;rintro e w14 ⟨rfl,ah⟩;have aW:=af (aU.out.trans ah);clear x0 x1 x2 x3 x4 x5 y0 y1 y2 y3 y4 y5 aV br;obtain ⟨f1,f2,f3,f4,f5,f6,q1,r1,q2,r2,q3,r3,q4,r4,x0,x1,x2,x3,x4,x5,aV,_,aF,_⟩:=(ay.out.kept ah).read;obtain ⟨g1,g2,g3,g4,g5,g6,q5,r5,q6,r6,q7,r7,q8,r8,y0,y1,y2,y3,y4,y5,br,_,bt,_⟩:=(aw.out.kept ah).read;clear ah;go_wp2_with fail;refine (zg _ _ hi _ aF.out bt.out).mono ?_;rintro e w15 ⟨rfl,aX⟩;go_wp2;go_ret;exact ⟨rfl,aW.out.trans aX⟩
   ·have aP:Hid (∀ W,Calls Tryz.prog 17 #[iV q] W fun e w'=>e=.returned (.int .i64 q)/\W=w'):=af fun W=>FJ q W (by have:=bE.out;omega)
    have bw:Hid (∀ W,gO w W->Calls Tryz.prog 20 #[.agg #[.int .i64 vars,.slice a n c,.int .i64 top],.slice pa pn pc] W fun e w'=>(∃ v',e=.returned (.tuple #[v',iV q])/\SpanV w' v' (gR 0) (gR 0))/\gO W w'):=af fun W hk=>az.out bp W hk
    have bz:Hid (∀ W u,RatAt W u (gR 0)->Calls Tryz.prog 22 #[u] W fun e w'=>e=.returned (.int .i64 0)/\gO W w'):=af fun W u hu=>by
     have h1:=v_ u (gR 0) W hu ⟨Nat.zero_le _,Nat.zero_le _⟩;rw [gV] at h1;exact h1
    have b1:((q:Int) != 0)=true:=by simp;omega
    have b2:¬ (q:Int)=0:=by omega
    obtain ⟨lo,hlo⟩:∃ lo,lo=gR 0:=⟨_,rfl⟩;rw [<-hlo] at bw bz;clear hlo aM az aA;go_wp2_with fail;refine (bw.out _ aq.out).mono ?_;rintro e w7 ⟨⟨v,rfl,hv⟩,hk⟩;obtain ⟨n7,l7,m7,n8,l8,m8,a7,c7,b7,d7,a8,c8,b8,d8,w8,rfl,hw,hc,ag,hr,_⟩:=hv.box;have aQ:=af hc;have aR:=af hw;have ar:=af (aq.out.trans (hk.trans ag));have aC:=af (aL.out.kept (hk.trans ag));clear c0 c1 c2;obtain ⟨c0,c1,c2⟩:=pC aC.out;rw [hw] at c0 c1 c2;clear hv hk hw hc ag hr;go_wp2_with fail;rw [<-aR.out];refine (bi.out _ ar.out).mono ?_;rintro e w9 ⟨rfl,ai⟩;have aS:=af (aQ.out.kept ai);have aD:=af (ar.out.trans ai);clear ai c0 c1 c2;obtain ⟨f1,f2,f3,f4,f5,f6,q1,r1,q2,r2,q3,r3,q4,r4,x0,x1,x2,x3,x4,x5,aV,bq,aF,_⟩:=aS.out.read;go_wp2_with fail;refine (aP.out _).mono ?_;rintro e w10 ⟨rfl,rfl⟩;go_wp2_with fail;refine (bz.out _ _ aF.out).mono ?_;rintro e w11 ⟨rfl,aY⟩;go_wp2;go_ret;exact ⟨rfl,aD.out.trans aY⟩
section
open Go.RowKit Go.ChangeShapes Go.WideShapes Go.ChangeAt Go.Joins Go.Deep
def Kw (w:World) (v:Value) (L:List (Int × Int)):Prop :=
 ∃ (a:Option Addr) (c:Nat),v=.slice a L.length c/\(L.length<=c/\(a=none->c=0))/\L.length<=140737488355328 /\
  ∀ i (h:i<L.length),∃ b o,a=some ⟨b,o,none⟩/\w.rangeAt b (o+i*2) (Ac L[i])
section
variable {H:Type} {enc:TypeId × Value->H} {W:World} {base:Nat}
theorem Gl {v:Value} {d:DataW H} {p:List MemPlace} (hv:Value.okWide Tryz.prog W .any base 23 v) (hb:∀ n∈d.weights Tryz.prog 23,n<=reachBytes)
  (h:DataW.Trod enc Tryz.prog W 0 (fun _=>true) true 23 v d p):∃ xs:List Rw,lN W v xs:=by
 obtain ⟨fuel,ah⟩:=h;obtain ⟨u,xs,e3,ag⟩:=DS hb ah;obtain ⟨a,c,rfl,_⟩:=id ag;obtain ⟨a2,n2,c2,h5⟩:=okWide_slice Tryz.underlying23 hv;subst h5;have e4:Value.slice a xs.length c=.slice a2 n2 c2:=by simpa [Value.cells] using e3.symm
 rw [<-e4];exact ⟨xs,ag⟩
end
end
section
open Go.RowKit Go.ChangeShapes Go.WideShapes Go.ChangeAt Go.Joins Go.Deep
theorem Jv {s:ChangeSpec} (F:FuncId) (fn:Func) (ai:s.vars=[]) (ah:∀ (H:Type) (d1 d2:DataW H),s.fn H [d1,d2]={ results:=[.lit (.bool true)],args:=[d1,d2] })
  (hp:fn.params=#[41,23]) (hr:fn.resultTypes=#[4])
  (walk:∀ (W:World) (u v:Value) (f:Fm) (ps:List Rw),ii W u f.nodes->I_ f->lN W v ps->Calls Tryz.prog F #[ot u f,v] W fun e w'=>e=.returned (.bool true)/\gO W w')
  {H:Type} {enc:TypeId × Value->H} (W:World) (base:Nat) (args:Array Value) (ds gs:List (DataW H)) (before:List MemPlace)
  (ag:∀ (j:Nat) t v,fn.params[j]?=some t->args[j]?=some v->Value.okWide Tryz.prog W .any base t v)
  (hW:DataW.Whole enc Tryz.prog fn.params.toList s.vars false W args.toList ds gs before)
  (hsz:(DataW.weightsEach Tryz.prog (fn.params.toList++s.plain.varTypes Tryz.prog) (ds++gs)).all (·<=reachBytes)=true) :
  Calls Tryz.prog F args W fun e W'=>∃ v,e=.returned v/\s.post enc Tryz.prog fn false true false false W args v W':=by
 have hW':=hW;obtain ⟨p,q,hA,hV,rfl,ar,_⟩:=hW;rw [ai] at hV;obtain ⟨rfl,rfl⟩:=trodVars_none hV;rw [hp] at hA ag hsz;obtain ⟨v0,v1,d0,d1,p0,p1,rfl,rfl,rfl,h0,h1⟩:=trodAll_two hA;have al:=h0;have am:=h1
 obtain ⟨u,f,rfl,hx,ap⟩:=Hu (ag 0 _ _ rfl rfl) (fun n hn=>by
  have:=List.all_eq_true.1 hsz n (DataW.weights_mem_each (j:=0) rfl rfl n hn);simpa using this) h0
 obtain ⟨ps,aq⟩:=Gl (ag 1 _ _ rfl rfl) (fun n hn=>by
  have:=List.all_eq_true.1 hsz n (DataW.weights_mem_each (j:=1) rfl rfl n hn);simpa using this) h1
 have aj:∀ x∈p0++p1,x.block<W.heap.size:=fun x hx=>hW'.lt x (by simpa using hx)
 refine (walk W u v1 f ps hx ap aq).mono fun e W' ⟨he,hk⟩=>?_
 subst he;refine ⟨_,rfl,[d0,d1],[],(p0++p1)++[],[],p0++p1,[],hW',?_,?_,?_,Below.frame hk _,fun h=>by cases h⟩
 ·rw [hr];simp only [List.append_nil,ah];exact trodAll_mk1 (shut_bool Tryz.underlying4 _)
 ·rw [hp];simp only [List.append_nil,ah];exact trodAll_mk2 (Below.trod yC (by kernel_rfl) (of_decide_eq_true (by kernel_rfl)) al hk (fun x hx=>aj x (by simp [hx]))) (Below.trod yC (by kernel_rfl) (of_decide_eq_true (by kernel_rfl)) am hk (fun x hx=>aj x (by simp [hx])))
 ·rw [ai];simp only [List.append_nil,ah];rfl
end
end Go.Proofs.YtofibjflkebkpaaGreatDoor
