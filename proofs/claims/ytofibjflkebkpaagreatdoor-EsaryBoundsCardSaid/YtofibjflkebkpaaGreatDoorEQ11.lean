import Derived.Test.YtofibjflkebkpaaGreatDoorEQ10
set_option maxRecDepth 100000
set_option maxHeartbeats 16000000
namespace Go.Proofs.YtofibjflkebkpaaGreatDoor
open Go.RowKit
theorem Bj (v:Value) (f:Fm) (V T:Nat) (w:World) (hv:ii w v f.nodes) (am:Ok f V T) :
  Calls Tryz.prog 171 #[.agg #[.int .i64 V,v,.int .i64 T]] w fun e w'=>e=.returned (.bool (kt V T f))/\gO w w':=by
 have h2:∀ W,gO w W->Calls Tryz.prog 109 #[.agg #[.int .i64 V,v,.int .i64 T]] W fun e w'=>∃ g,e=.returned (.slice (some ⟨g,0,none⟩) (V+f.nodes.length) (V+f.nodes.length))/\W.heap.size<=g/\gS w' g 4 ((io V T f.nodes).map .bool)/\gO W w':=fun W hk=>nY v f V T W (hv.kept hk) am
 obtain ⟨r,hr⟩:∃ r:Bool,r=kt V T f:=⟨_,rfl⟩;rw [<-hr];unfold kt at hr;obtain ⟨mark,ah⟩:∃ m,m=io V T f.nodes:=⟨_,rfl⟩;have aA:mark.length=V+f.nodes.length:=by rw [ah,mr]
 rw [<-ah] at hr h2;obtain ⟨a,c,rfl,_,hl,hx⟩:=hv;obtain ⟨n,hn⟩:∃ n,n=f.nodes.length:=⟨_,rfl⟩;rw [<-hn] at h2 aA hr⊢;have aQ:n<=128:=by rw [hn];exact am.n128
 have aR:=am.v24;have aS:T<V+n:=by rw [hn];exact am.tlt
 have H2:=af h2;have HX:=af hx;have HN:=af hn;have HR:=af hr;have aD:=af aA;clear h2 hx hn am hr aA hl ah;go_enter Tryz.func171,Tryz.ntmps171;go_wp2_with (go_at_call 109;refine (H2.out _ ((gO.refl _).alloc _)).mono ?_;rintro e w2 ⟨gn,rfl,aT,aF,ar⟩;have d0:=ar.cell (p:=⟨w.heap.size,0,none⟩) (v:=.int .i64 V) (by simp);have d1:=ar.cell (p:=⟨w.heap.size,1,none⟩) (v:=.slice a n c) (by simp);have aG:=af aF;clear aF);have aM:=af ar;clear d0 d1 ar;go_loopw [4,5,11] (fun _ _ i wr=>∃ k:Nat,k<=n/\i=.int .i64 k/\Hid (kK (iB V mark f.nodes k)=true)/\gO w2 wr) (fun _ _ i _=>n - (intOf i).toNat)
 case atStart=>exact ⟨0,Nat.zero_le _,rfl,af rfl,gO.refl _⟩
 case round =>
  obtain ⟨k,hk,rfl,HM,hK⟩:=hrel;have aj:=aM.out.trans hK;have q0:=aj.cell (p:=⟨w.heap.size,0,none⟩) (v:=.int .i64 V) (by simp);have q1:=aj.cell (p:=⟨w.heap.size,1,none⟩) (v:=.slice a n c) (by simp);by_cases aU:k<n
  ·have aH:k<f.nodes.length:=by have:=HN.out;omega
   have aB:=(aG.out.kept hK).cell (i:=V+k) (by simp [aD.out];omega);rw [jh mark (V+k) (by rw [aD.out];omega)] at aB;obtain ⟨b,o,rfl,u,hc1,hc2,aI,hI⟩:=HX.out k aH;have ap:gO w wr:=((gO.refl w).alloc (.cells #[.int .i64 V,.slice (some ⟨b,o,none⟩) n c,.int .i64 T] 41)).trans aj;have ag:=jL (ap.cell hc1) (ap.cell hc2) (ap.cell aI);obtain ⟨ax,cx,rfl,_,aN,aO⟩:=hI
   have ai:iB V mark f.nodes (k+1)=if mark.getD (V+k) false then iB V mark f.nodes k++[f.nodes[k].kind] else iB V mark f.nodes k:=by
    show (if mark.getD (V+k) false then iB V mark f.nodes k++[(f.nodes.getD k iZ).kind] else iB V mark f.nodes k)=_;rw [show f.nodes.getD k iZ=f.nodes[k] by simp [List.getD_eq_getElem?_getD,aH]]
   obtain ⟨kd,hkd⟩:∃ x,x=f.nodes[k].kind:=⟨_,rfl⟩;obtain ⟨kk,aJ⟩:∃ x,x=f.nodes[k].k:=⟨_,rfl⟩;obtain ⟨na,aK⟩:∃ x,x=f.nodes[k].args.length:=⟨_,rfl⟩;rw [<-hkd,<-aJ,<-aK] at ag;rw [<-hkd] at ai;have aw:=af ag;have ay:=af ai;have az:=af ap;have HK:=af hK;have aV:(V:Int)+(k:Int)<(V:Int)+(n:Int):=by omega
   have aW:(V:Int)+(k:Int)<((V+n:Nat):Int):=by omega
   have aX:gn<wr.heap.size:=Nat.lt_of_lt_of_le aG.out.lt hK.size;have aY:w.heap.size<wr.heap.size:=by have:=aj.size;simp at this;omega
   clear hc1 hc2 aI ag aO aN aK ap hK aj ai hkd aJ;cases al:mark.getD (V+k) false with
   | false =>
    rw [al] at aB;have aq:=af al;clear al;go_wp2_with (with_reducible refine wpList_load_mid rfl 106 _ rfl b (o+k*3) rfl _ _ aw.out Tryz.underlying106 rfl (by kernel_rfl) ?_);go_roundw
    case rel=>exact ⟨k+1,by omega,by go_num,af (by rw [ay.out,aq.out];exact HM.out),HK.out.alloc _⟩
    case measure=>simp [intOf];omega
   | true =>
    rw [al] at aB;have aq:=af al;clear al;by_cases k1:kd=1
    ·subst k1;go_wp2_with (with_reducible refine wpList_load_mid rfl 106 _ rfl b (o+k*3) rfl _ _ aw.out Tryz.underlying106 rfl (by kernel_rfl) ?_);go_ret
     have aC:r=false:=by
      rw [HR.out];exact mP V mark f.nodes (k+1) (by rw [ay.out,aq.out,if_pos rfl,jX];simp [kK]) n (by omega)
     exact ⟨by rw [aC];rfl,az.out.alloc _⟩
    ·have e1:(kd == 1)=false:=by simpa using k1
     by_cases k5:kd=5
     ·subst k5;clear e1 k1;go_wp2_with (with_reducible refine wpList_load_mid rfl 106 _ rfl b (o+k*3) rfl _ _ aw.out Tryz.underlying106 rfl (by kernel_rfl) ?_);go_ret
      have aC:r=false:=by
       rw [HR.out];exact mP V mark f.nodes (k+1) (by rw [ay.out,aq.out,if_pos rfl,jX];simp [kK]) n (by omega)
      exact ⟨by rw [aC];rfl,az.out.alloc _⟩
     ·have e5:(kd == 5)=false:=by simpa using k5
      have E1:=af k1;have E5:=af k5;clear k1 k5;go_wp2_with (with_reducible refine wpList_load_mid rfl 106 _ rfl b (o+k*3) rfl _ _ aw.out Tryz.underlying106 rfl (by kernel_rfl) ?_);go_roundw
      case rel=>exact ⟨k+1,by omega,by go_num,af (by rw [ay.out,aq.out,if_pos rfl,jX,HM.out];simp [kK,E1.out,E5.out]),HK.out.alloc _⟩
      case measure=>simp [intOf];omega
  ·have e:k=n:=by omega
   have aL:r=true:=by rw [HR.out,<-e];exact HM.out
   have az:=af (((gO.refl w).alloc _).trans aj);have aP:=af aL;clear aL e aj;go_wp2;go_ret;exact ⟨by rw [aP.out];rfl,az.out⟩
theorem xB (v:Value) (f:Fm) (V T:Nat) (w:World) (hv:ii w v f.nodes) (ag:Ok f V T) (am:jP f=0) (hs:kt V T f=true) :
  Calls Tryz.prog 108 #[.agg #[.int .i64 V,v,.int .i64 T]] w fun e w'=>e=.returned (.int .i64 0)/\gO w w':=by
 have ap:ot v f=.agg #[.int .i64 V,v,.int .i64 T]:=by unfold ot;rw [ag.vars,ag.top]
 have HC:Hid (∀ W,gO w W->Calls Tryz.prog 21 #[.agg #[.int .i64 V,v,.int .i64 T]] W fun e w'=>e=.returned (.int .i64 0)/\gO W w'):=af fun W hk=>by
  have h:=t_ v f W (hv.kept hk) (by rw [ag.top];have:=ag.tlt;have:=ag.n128;have:=ag.v24;omega);rw [am,ap] at h;exact h
 have HS:Hid (∀ W,gO w W->Calls Tryz.prog 171 #[.agg #[.int .i64 V,v,.int .i64 T]] W fun e w'=>e=.returned (.bool true)/\gO W w'):=af fun W hk=>by
  have h:=Bj v f V T W (hv.kept hk) ag;rw [hs] at h;exact h
 obtain ⟨a,n,c,rfl⟩:∃ a n c,v=.slice a n c:=by obtain ⟨a,c,h,_⟩:=hv;exact ⟨a,_,c,h⟩
 clear hv ag am hs ap;obtain ⟨w1,ai⟩:∃ w1,w1=w.alloc (.cells #[.int .i64 V,.slice a n c,.int .i64 T] 41):=⟨_,rfl⟩;have aj:=gS.made w #[.int .i64 V,.slice a n c,.int .i64 T] 41;rw [<-ai] at aj;have al:=af aj;have aq:Hid (gO w w1):=af (by rw [ai];exact (gO.refl w).alloc _);have ay:=af ai;clear aj ai;go_enter Tryz.func108,Tryz.ntmps108;go_wp2_with fail;rw [<-ay.out];refine (HC.out _ aq.out).mono ?_;rintro e w2 ⟨rfl,ah⟩;have b0:=(al.out.kept ah).cell (i:=0) (by simp);have b1:=(al.out.kept ah).cell (i:=1) (by simp);have b2:=(al.out.kept ah).cell (i:=2) (by simp);simp only [List.getElem_cons_succ,List.getElem_cons_zero] at b0 b1 b2;have ar:=af (aq.out.trans ah);clear ah;go_wp2_with fail;refine (HS.out _ ar.out).mono ?_;rintro e w3 ⟨rfl,aw⟩;have az:=af (ar.out.trans aw);clear aw b0 b1 b2;go_wp2;go_ret;exact ⟨rfl,az.out⟩
theorem Ap {V Y:Nat} {out:List (List Nat)} (h:Y<V):jz V out (Y:Int)=[2^Y]:=by unfold jz;rw [if_pos (by omega)];rfl
theorem yq {V Z:Nat} {out:List (List Nat)}:jz V out ((V+Z:Nat):Int)=out.getD Z []:=by
 unfold jz;rw [if_neg (by omega),show (((V+Z:Nat):Int) - (V:Int)).toNat=Z by omega]
theorem Bn (v bv:Value) (V K:Nat) (T:Int) (kd kk:Int) (ax:Option Addr) (cx:Nat) (args:List Int) (out:List (List Nat)) (w:World) (hs:∃ a n c,v=.slice a n c) (hV:V<=24) (hx:gU w (.slice ax args.length cx) args) (hb:OwnFams w 0 bv out)
  (cV:out.length<=1000) (hK:K<=out.length) (aB:∀ a∈args,0<=a/\a<(V:Int)+K) (cq:args.length<=16) (hkd:kd=0\/kd=2\/kd=3\/kd=4) (h4:kd=4->1<=kk/\kk<=args.length) :
  Calls Tryz.prog 110 #[.agg #[.int .i64 V,v,.int .i64 T],.agg #[.int .i64 kd,.int .i64 kk,.slice ax args.length cx],bv] w fun e w'=>qo w' e (jy kd kk (args.map (jz V out)))/\gO w w':=by
 obtain ⟨va,vn,vc,rfl⟩:=hs;have bL:Hid (∀ (x y:List Nat) (vx vy:Value) (W:World),gZ W vx x->gZ W vy y->Calls Tryz.prog 172 #[vx,vy] W fun e w'=>qo w' e (iN x y)/\gO W w'):=af fun x y vx vy W h1 h2=>DY x y vx vy W h1 h2
 have bM:Hid (∀ (x y:List Nat) (vx vy:Value) (W:World),gZ W vx x->gZ W vy y->Calls Tryz.prog 173 #[vx,vy] W fun e w'=>qo w' e (h_ x y)/\gO W w'):=af fun x y vx vy W h1 h2=>xJ x y vx vy W h1 h2
 obtain ⟨fams,aw⟩:∃ fams,fams=args.map (jz V out):=⟨_,rfl⟩;obtain ⟨r,hr⟩:∃ r,r=jy kd kk fams:=⟨_,rfl⟩;rw [<-aw,<-hr];have bN:=af aw;have HR:=af hr;have cr:=af hkd;have H4:=af h4;have HB:=af hb;have ct:=af aB;have bO:=af hx;obtain ⟨na,bi⟩:∃ na,na=args.length:=⟨_,rfl⟩;rw [<-bi] at bO cq⊢;have aY:=af bi;obtain ⟨ba,bn,bc,rfl⟩:∃ a n c,bv=.slice a n c:=by obtain ⟨a,c,h,_⟩:=hb.at;exact ⟨a,_,c,h⟩
 obtain ⟨w1,aJ⟩:∃ w1,w1=w.alloc (.cells #[.int .i64 V,.slice va vn vc,.int .i64 T] 41):=⟨_,rfl⟩;have bP:w1.heap.size=w.heap.size+1:=by rw [aJ];simp
 obtain ⟨w2,aK⟩:∃ w2,w2=w1.alloc (.cells #[.int .i64 kd,.int .i64 kk,.slice ax na cx] 106):=⟨_,rfl⟩;have bj:Hid (gO w1 w2):=af (by rw [aK];exact (gO.refl w1).alloc _);have cu:Hid (gO w w2):=af (by rw [aK,aJ];exact ((gO.refl w).alloc _).alloc _)
 have cw:Hid (gS w2 w.heap.size 41 [.int .i64 V,.slice va vn vc,.int .i64 T]):=af (by
  have h:=(gS.made w #[.int .i64 V,.slice va vn vc,.int .i64 T] 41);rw [<-aJ] at h;exact h.kept bj.out)
 have bk:Hid (gS w2 (w.heap.size+1) 106 [.int .i64 kd,.int .i64 kk,.slice ax na cx]):=af (by
  have h:=(gS.made w1 #[.int .i64 kd,.int .i64 kk,.slice ax na cx] 106);rw [<-aK,bP] at h;exact h)
 have cz:Hid (w2=(w.alloc (.cells #[.int .i64 V,.slice va vn vc,.int .i64 T] 41)).alloc (.cells #[.int .i64 kd,.int .i64 kk,.slice ax na cx] 106)):=af (by rw [aK,aJ]);have n2:=bk.out.cell (i:=2) (by simp);simp only [List.getElem_cons_succ,List.getElem_cons_zero] at n2;clear aw hr hkd h4 hb aB hx bi aJ aK bP;go_enter Tryz.func110,Tryz.ntmps110;go_wp2_with fail;rw [<-cz.out];go_loopg [8,32] na (fun kx s8 s32 wr=>∃ (p:Nat) (acc:List (List Nat)),p<=na/\s32=.int .i64 p/\na - p<=kx/\Hid (acc=(args.take p).map (jz V out))/\Hid (OwnFams wr w2.heap.size s8 acc)/\Hid (gO w2 wr))
 case atStart=>exact ⟨0,[],Nat.zero_le _,rfl,by omega,af rfl,af (OwnFams.nil _ _),af (gO.refl _)⟩
 case round =>
  obtain ⟨p,acc,hp,rfl,cW,HA,bl,aD⟩:=hrel;have ay:=af (cu.out.trans aD.out);have f0:=(cw.out.kept aD.out).cell (i:=0) (by simp);simp only [List.getElem_cons_zero] at f0;by_cases cX:p<na
  ·have bQ:p<args.length:=by have:=aY.out;omega
   have cC:(p:Int)<(na:Int):=by omega
   obtain ⟨b2,o2,rfl,am⟩:=bO.out.get p bQ;have al:=ay.out.cell am;obtain ⟨y,hy⟩:∃ y,y=args[p]:=⟨_,rfl⟩;have bR:=ct.out args[p] (List.getElem_mem _);rw [<-hy] at al bR;obtain ⟨Y,hY⟩:=Int.eq_ofNat_of_zero_le bR.1;subst hY
   have aL:(args.take (p+1)).map (jz V out)=acc++[jz V out (Y:Int)]:=by
    rw [List.take_succ_eq_append_getElem bQ,List.map_append,<-HA.out,<-hy];rfl
   have bS:=af aL;have aM:acc.length<=16:=by rw [HA.out,List.length_map,List.length_take];omega
   have aN:=af aM;have hz:=aD.out.size;clear am hy aL aM;by_cases cD:Y<V
   ·have bo:(Y:Int)<(V:Int):=by omega
    have bp:=af (Ap (out:=out) cD);go_wp2_with (at_builtin;refine qr rfl _ _ rfl w2.heap.size _ acc rfl (bl.out.kept (((gO.refl _).alloc _).alloc _)) _ _ [2^Y] rfl (by simp) ((hC.shl wr Y (by omega)).kept ((gO.refl _).alloc _)) (by have:=aN.out;omega) (by simp;omega) ?_;intro nv' w7 ai bq aO;have O7:=af ai;have aP:=af (((aD.out.alloc _).alloc _).app (aO.mono (by simp)));clear ai bq aO);go_roundg (na - (p+1))
    case measure=>omega
    case rel=>exact ⟨p+1,_,by omega,by go_num,Nat.le_refl _,af (by rw [bS.out,bp.out]),O7,aP⟩
   ·have bo:¬ (Y:Int)<(V:Int):=by omega
    obtain ⟨Z,hZ⟩:∃ Z,Y=V+Z:=⟨Y - V,by omega⟩;subst hZ;have aZ:Z<out.length:=by omega
    have bp:Hid (jz V out ((V+Z:Nat):Int)=out[Z]):=af (by rw [yq];simp [List.getD_eq_getElem?_getD,aZ]);obtain ⟨g,cap,he,cE,cF,hcap⟩:=HB.out.shape (by intro e;rw [e] at aZ;simp at aZ);simp only [Value.slice.injEq] at he;obtain ⟨rfl,rfl,rfl⟩:=he;obtain ⟨uz,aQ,aR⟩:=HB.out.cell Z aZ;have cZ:=ay.out.cell aQ;have br:=aR.kept ay.out;obtain ⟨za,zn,zc,rfl⟩:=br.1.ints.shape;have cG:=af br;have c_:(0:Int)<=(Z:Int):=by omega
    have da:(Z:Int)<(out.length:Int):=by omega
    have db:((V+Z:Nat):Int) - (V:Int)=(Z:Int):=by omega
    have dd:(V:Int)+(Z:Int) - (V:Int)=(Z:Int):=by omega
    clear br aQ aR cE cF hcap;go_wp2_with (at_builtin;refine qr rfl _ _ rfl w2.heap.size _ acc rfl (bl.out.kept ((gO.refl _).alloc _)) _ _ out[Z] rfl (by simp) (cG.out.kept ((gO.refl _).alloc _)) (by have:=aN.out;omega) (by simp;omega) ?_;intro nv' w7 ai bq aO;have O7:=af ai;have aP:=af ((aD.out.alloc _).app (aO.mono (by simp)));clear ai bq aO);go_roundg (na - (p+1))
    case measure=>omega
    case rel=>exact ⟨p+1,_,by omega,by go_num,Nat.le_refl _,af (by rw [bS.out,bp.out]),O7,aP⟩
  ·have cC:¬ (p:Int)<(na:Int):=by omega
   have aS:acc=fams:=by rw [HA.out,List.take_of_length_le (by have:=aY.out;omega),<-bN.out]
   subst aS;have bt:acc.length=na:=by rw [bN.out,List.length_map];exact aY.out.symm
   obtain ⟨w3,rfl⟩:∃ w3:World,w3=wr:=⟨_,rfl⟩;obtain ⟨_,_,es8,_,_,bT⟩:=bl.out.at;obtain ⟨sa,sc,rfl⟩:∃ sa sc,u8=.slice sa na sc:=⟨_,_,by rw [es8,bt]⟩
   have HX:Hid (∀ i (h:i<acc.length),∃ b o u,sa=some ⟨b,o,none⟩/\w3.cell? ⟨b,o+i,none⟩=some u/\gZ w3 u acc[i]):=af (by
    simp only [Value.slice.injEq] at es8;obtain ⟨rfl,_,_⟩:=es8;exact bT)
   have aF:=af bt;have n0:=(bk.out.kept aD.out).cell (i:=0) (by simp);have n1:=(bk.out.kept aD.out).cell (i:=1) (by simp);simp only [List.getElem_cons_succ,List.getElem_cons_zero] at n0 n1;clear HA bT bt es8 n2;rcases cr.out with hk | hk | hk | hk
   ·subst hk;by_cases a_:kk=1
    ·subst a_;have ap:Hid (r=some []):=af (by rw [HR.out];rfl);go_wp2;go_ret2;exact ⟨by rw [ap.out];exact ⟨_,rfl,hC.nil _ _⟩,ay.out⟩
    ·have ap:Hid (r=some [0]):=af (by rw [HR.out];unfold jy;rw [if_pos rfl,if_neg a_]);have de:(kk == 1)=false:=by simpa using a_
     clear a_;go_wp2;go_ret2;exact ⟨by rw [ap.out];exact ⟨_,rfl,hC.one _ 0 0 (by unfold Mk;omega) (Nat.zero_le _)⟩,ay.out.alloc _⟩
   ·subst hk;have ap:Hid (r=jo iN [] acc):=af (by rw [HR.out];rfl);go_wp2_with fail;go_loopg [11,69] na (fun qx so si wq=>∃ (q:Nat) (l:List Nat),q<=na/\si=.int .i64 q/\na - q<=qx/\Hid (jo iN [] (acc.take q)=some l)/\Hid (hC wq 0 so l)/\Hid (gO w3 wq))
    case atStart=>exact ⟨0,[],Nat.zero_le _,rfl,by omega,af rfl,af (hC.nils _ _),af (gO.refl _)⟩
    case round =>
     obtain ⟨q,l,hq,rfl,bU,HL,HO,aq⟩:=hrel;have az:=af (ay.out.trans aq.out);by_cases bV:q<na
     ·have aT:q<acc.length:=by have:=aF.out;omega
      have bw:(q:Int)<(na:Int):=by omega
      obtain ⟨b,o,u,rfl,am,hu⟩:=HX.out q aT;have al:=aq.out.cell am;have HC:=af (bL.out l acc[q] u11 u wr HO.out.sets (hu.kept aq.out));have ag:=nJ iN [] acc q aT;rw [HL.out] at ag;simp only [Option.bind_some] at ag;have HS:=af ag;clear am hu ag;obtain ⟨z,hz⟩:∃ z,z=iN l acc[q]:=⟨_,rfl⟩;rw [<-hz] at HC HS;cases z with
      | none =>
       have aj:Hid (r=none):=af (by rw [ap.out];exact nI iN [] acc (q+1) HS.out);clear hz;go_wp2_with fail;refine HC.out.mono ?_;rintro e w5 ⟨he,ah⟩;unfold qo at he;subst he;have ar:=af (az.out.trans ah);clear ah;go_wp2;go_ret2;exact ⟨by rw [aj.out];rfl,ar.out⟩
      | some l2 =>
       clear hz;go_wp2_with fail;refine HC.out.mono ?_;rintro e w5 ⟨⟨v5,rfl,aC⟩,ah⟩;have O5:=af aC;have ar:=af (aq.out.trans ah);clear aC ah;go_wp2_with fail;go_roundg (na - (q+1))
       case measure=>omega
       case rel=>exact ⟨q+1,l2,by omega,by go_num,Nat.le_refl _,HS,O5,ar⟩
     ·have bw:¬ (q:Int)<(na:Int):=by omega
      have h1:=HL.out;rw [List.take_of_length_le (by have:=aF.out;omega),<-ap.out] at h1;have H1:=af h1;clear h1;go_wp2;go_ret2;exact ⟨by rw [H1.out];exact ⟨_,rfl,HO.out⟩,az.out⟩
   ·subst hk;have ap:Hid (r=jo h_ [0] acc):=af (by rw [HR.out];rfl);go_wp2_with fail;go_loopg [17,102] na (fun qx so si wq=>∃ (q:Nat) (l:List Nat),q<=na/\si=.int .i64 q/\na - q<=qx/\Hid (jo h_ [0] (acc.take q)=some l)/\Hid (hC wq 0 so l)/\Hid (gO w3 wq))
    case atStart=>exact ⟨0,[0],Nat.zero_le _,rfl,by omega,af rfl,af (hC.one _ 0 0 (by unfold Mk;omega) (Nat.zero_le _)),af ((gO.refl _).alloc _)⟩
    case round =>
     obtain ⟨q,l,hq,rfl,bU,HL,HO,aq⟩:=hrel;have az:=af (ay.out.trans aq.out);by_cases bV:q<na
     ·have aT:q<acc.length:=by have:=aF.out;omega
      have bw:(q:Int)<(na:Int):=by omega
      obtain ⟨b,o,u,rfl,am,hu⟩:=HX.out q aT;have al:=aq.out.cell am;have HC:=af (bM.out l acc[q] u17 u wr HO.out.sets (hu.kept aq.out));have ag:=nJ h_ [0] acc q aT;rw [HL.out] at ag;simp only [Option.bind_some] at ag;have HS:=af ag;clear am hu ag;obtain ⟨z,hz⟩:∃ z,z=h_ l acc[q]:=⟨_,rfl⟩;rw [<-hz] at HC HS;cases z with
      | none =>
       have aj:Hid (r=none):=af (by rw [ap.out];exact nI h_ [0] acc (q+1) HS.out);clear hz;go_wp2_with fail;refine HC.out.mono ?_;rintro e w5 ⟨he,ah⟩;unfold qo at he;subst he;have ar:=af (az.out.trans ah);clear ah;go_wp2;go_ret2;exact ⟨by rw [aj.out];rfl,ar.out⟩
      | some l2 =>
       clear hz;go_wp2_with fail;refine HC.out.mono ?_;rintro e w5 ⟨⟨v5,rfl,aC⟩,ah⟩;have O5:=af aC;have ar:=af (aq.out.trans ah);clear aC ah;go_wp2_with fail;go_roundg (na - (q+1))
       case measure=>omega
       case rel=>exact ⟨q+1,l2,by omega,by go_num,Nat.le_refl _,HS,O5,ar⟩
     ·have bw:¬ (q:Int)<(na:Int):=by omega
      have h1:=HL.out;rw [List.take_of_length_le (by have:=aF.out;omega),<-ap.out] at h1;have H1:=af h1;clear h1;go_wp2;go_ret2;exact ⟨by rw [H1.out];exact ⟨_,rfl,HO.out⟩,az.out⟩
   ·subst hk;obtain ⟨kn,rfl⟩:=Int.eq_ofNat_of_zero_le (show 0<=kk by have:=H4.out rfl;omega);have cH:=H4.out rfl;rw [<-aY.out] at cH;obtain ⟨m,hm⟩:∃ m,m=na - kn+1:=⟨_,rfl⟩;have ap:Hid (r=kT acc m):=af (by rw [HR.out,hm,<-aF.out];rfl);have bW:(na:Int) - (kn:Int)+1=(m:Int):=by omega
    have df:1<=m:=by omega
    have dg:m<=1000:=by omega
    clear hm;go_wp2_with (at_make;refine tI rfl _ _ rfl (m+1) (by show Value.int .i64 (_+1)=.int .i64 ((m+1:Nat):Int);first | rw [bW,Int.natCast_add] | rw [Int.natCast_add];rfl) (by show Value.int .i64 (_+1)=.int .i64 ((m+1:Nat):Int);first | rw [bW,Int.natCast_add] | rw [Int.natCast_add];rfl) (by omega) ?_;intro w4 bd aU bX;obtain ⟨u0,am,_⟩:=bd.cell 0 (by simp);have cI:=bd.free 0;have bz:¬ w4.heap.size=w3.heap.size:=(by omega);have O4:=af bd;clear bd);have bY:gO w3 ((w4.setCell ⟨w3.heap.size,0,none⟩ (.slice (some ⟨w4.heap.size,0,none⟩) 1 1)).alloc (.cells #[.int .i64 0] 3)):=((aU.store (Nat.le_refl _) _ _).alloc _)
    have bZ:OwnFams ((w4.setCell ⟨w3.heap.size,0,none⟩ (.slice (some ⟨w4.heap.size,0,none⟩) 1 1)).alloc (.cells #[.int .i64 0] 3)) w3.heap.size (.slice (some ⟨w3.heap.size,0,none⟩) (m+1) (m+1)) ([0] :: List.replicate m []):=by
     have h1:=(O4.out.kept ((gO.refl _).alloc (.cells #[.int .i64 0] 3))).store (by simp) 0 (hC.one w4 0 0 (by unfold Mk;omega) (Nat.zero_le _));rw [List.replicate_succ] at h1;rw [<-World.setCell_alloc_past _ _ _ _ bX];exact h1
    have b_:=af bZ;have cd:=af bY;clear bZ bY am cI aU n0 n1 f0;go_loopg [126] na (fun kx i wq=>∃ (q:Nat) (t:List (List Nat)),q<=na/\i=.int .i64 q/\na - q<=kx/\Hid (t.length=m+1)/\Hid (OwnFams wq w3.heap.size (.slice (some ⟨w3.heap.size,0,none⟩) (m+1) (m+1)) t)/\Hid (mw ([0] :: List.replicate m []) (acc.take q)=some t)/\Hid (gO w3 wq))
    case atStart=>exact ⟨0,_,Nat.zero_le _,rfl,by omega,af (by simp),b_,af rfl,cd⟩
    case round =>
     clear b_ cd O4 bX bz;obtain ⟨q,t,hq,rfl,bU,aG,ci,HG,aq⟩:=hrel;by_cases bV:q<na
     ·have aV:q<acc.length:=by have:=aF.out;omega
      have cJ:(q:Int)<(na:Int):=by omega
      obtain ⟨b,o,u,rfl,am,hu⟩:=HX.out q aV;have al:=aq.out.cell am;have ag:=tY (t:=[0] :: List.replicate m []) aV;rw [HG.out] at ag;simp only [Option.bind_some] at ag;obtain ⟨arg,aW⟩:∃ x,x=acc[q]:=⟨_,rfl⟩;rw [<-aW] at hu ag;have HU:=af hu;have bA:=af ag;clear am hu ag aW;go_wp2_with fail;obtain ⟨wo,rfl⟩:∃ wo:World,wo=wr:=⟨_,rfl⟩;go_loopg [25] m (fun jx s9 wi=>∃ (j:Nat) (t':List (List Nat)),j<=m/\s9=.int .i64 j/\j<=jx/\Hid (s' t t' arg j)/\Hid (OwnFams wi w3.heap.size (.slice (some ⟨w3.heap.size,0,none⟩) (m+1) (m+1)) t')/\Hid (gO w3 wi))
      case atStart=>exact ⟨m,t,Nat.le_refl _,rfl,by omega,af (s'.start t arg aG.out),ci,aq⟩
      case round =>
       obtain ⟨j,t',hj,rfl,dh,HV,bf,bh⟩:=hrel;by_cases di:0<j
       ·obtain ⟨p2,rfl⟩:∃ p2,j=p2+1:=⟨j - 1,by omega⟩;have cK:(1:Int)<=((p2+1:Nat):Int):=by omega
        have ep:((p2+1:Nat):Int)=(p2:Int)+1:=by omega
        rw [ep] at cK⊢;have aX:p2+1<t.length:=by have:=aG.out;omega
        have hl':t'.length=t.length:=HV.out.1;have g1:=HV.out.2.1 p2 (by omega);have g2:=HV.out.2.1 (p2+1) (Nat.le_refl _);obtain ⟨up2,cj,bB⟩:=bf.out.cell p2 (by omega);obtain ⟨uq,bC,bD⟩:=bf.out.cell (p2+1) (by omega);have e1:t'[p2]'(by omega)=t.getD p2 []:=by rw [<-g1];simp [List.getD_eq_getElem?_getD,show p2<t'.length by omega]
        have e2:t'[p2+1]'(by omega)=t.getD (p2+1) []:=by rw [<-g2];simp [List.getD_eq_getElem?_getD,show p2+1<t'.length by omega]
        rw [e1] at bB;rw [e2] at bD;have HC:=af (bM.out (t.getD p2 []) arg up2 u wr bB.sets (HU.out.kept bh.out));have bE:Hid (tZ t arg p2=(h_ (t.getD p2 []) arg).bind (iN (t.getD (p2+1) []))):=af rfl;obtain ⟨z,hz⟩:∃ z,z=h_ (t.getD p2 []) arg:=⟨_,rfl⟩;rw [<-hz] at HC bE;have cL:=af bD;have bF:=af aX;have dj:(0:Int)<=(p2:Int):=by omega
        have dl:(p2:Int)<(m:Int)+1:=by omega
        have cM:(p2:Int)+1<(m:Int)+1:=by omega
        have dm:(p2:Int)+1 - 1=(p2:Int):=by omega
        have az:=af (ay.out.trans bh.out);clear hz bB bD g1 g2 e1 e2 hl' aX ep;cases z with
        | none =>
         have aj:Hid (r=none):=af (by
          have h1:lE t arg=none:=mQ bF.out bE.out;have h2:=bA.out;rw [h1] at h2;rw [ap.out];unfold kT;rw [nU h2];rfl)
         go_wp2_with fail;refine HC.out.mono ?_;rintro e w5 ⟨he,ah⟩;unfold qo at he;subst he;have ar:=af (az.out.trans ah);clear ah cj bC;go_wp2;go_ret2;exact ⟨by rw [aj.out];rfl,ar.out⟩
        | some x =>
         go_wp2_with fail;refine HC.out.mono ?_;rintro e w5 ⟨⟨v5,rfl,aC⟩,ah⟩;have bG:=af (bf.out.kept ah);have ar:=af (bh.out.trans ah);have aH:=ah.cell bC;have bH:=af (bL.out (t.getD (p2+1) []) x uq v5 w5 (cL.out.kept ah).sets aC.sets);have aI:Hid (tZ t arg p2=iN (t.getD (p2+1) []) x):=af (by rw [bE.out];rfl);obtain ⟨y,hy⟩:∃ y,y=iN (t.getD (p2+1) []) x:=⟨_,rfl⟩;rw [<-hy] at bH aI;clear aC ah cj bC hy;cases y with
         | none =>
          have aj:Hid (r=none):=af (by
           have h1:lE t arg=none:=mQ bF.out aI.out;have h2:=bA.out;rw [h1] at h2;rw [ap.out];unfold kT;rw [nU h2];rfl)
          go_wp2_with fail;refine bH.out.mono ?_;rintro e w6 ⟨he,aA⟩;unfold qo at he;subst he;have bI:=af (ay.out.trans (ar.out.trans aA));clear aA aH;go_wp2;go_ret2;exact ⟨by rw [aj.out];rfl,bI.out⟩
         | some y =>
          go_wp2_with fail;refine bH.out.mono ?_;rintro e w6 ⟨⟨v6,rfl,bJ⟩,aA⟩;obtain ⟨xa,xn,xc,rfl⟩:=bJ.1.ints.shape;have bI:=af (ar.out.trans aA);have cN:=aA.cell aH;have dp:=(bG.out.kept aA).free (p2+1);have cO:=af (HV.out.step bF.out aI.out);have ck:=(bG.out.kept aA).store (bG.out.kept aA).len (p2+1) bJ;have cP:=af ck;have aP:=af (bI.out.store (Nat.le_refl _) (p2+1) (.slice xa xn xc));clear aA aH bJ ck;go_wp2_with fail;go_roundg p2
          case measure=>omega
          case rel=>exact ⟨p2,t'.set (p2+1) y,by omega,by go_num,Nat.le_refl _,cO,cP,aP⟩
       ·have cQ:j=0:=by omega
        subst cQ;have cR:Hid (mw ([0] :: List.replicate m []) (acc.take (q+1))=some t'):=af (by rw [bA.out];exact HV.out.done (by have:=aG.out;omega));have bK:Hid (t'.length=m+1):=af (by rw [HV.out.1];exact aG.out);go_wp2_with fail;go_roundg (na - (q+1))
        case measure=>omega
        case rel=>exact ⟨q+1,t',by omega,by go_num,Nat.le_refl _,bK,bf,cR,bh⟩
     ·have cJ:¬ (q:Int)<(na:Int):=by omega
      have cS:Hid (r=some (t.getD m [])):=af (by
       have h:=HG.out;rw [List.take_of_length_le (by have:=aF.out;omega)] at h;rw [ap.out];unfold kT;rw [h];rfl)
      obtain ⟨um,dq,cn⟩:=ci.out.cell m (by have:=aG.out;omega)
      have cU:Hid (hC wr 0 um (t.getD m [])):=af (by
       have e:t.getD m []=t[m]'(by have:=aG.out;omega):=by simp [List.getD_eq_getElem?_getD,show m<t.length by have:=aG.out;omega]
       rw [e];exact cn)
      have dr:(m:Int)<(m:Int)+1:=by omega
      have dt:(0:Int)<=(m:Int):=by omega
      have az:=af (ay.out.trans aq.out);clear cn;go_wp2;go_ret2;exact ⟨by rw [cS.out];exact ⟨_,rfl,cU.out⟩,az.out⟩
theorem wJ (V:Nat) (nodes:List Nd):∀ k m,(∀ i,m.getD (V+i) false=false)->jg V nodes k m=m:=by
 intro k;induction k with
 | zero=>intro m _;rfl
 | succ k ih =>
  intro m h;unfold jg;rw [h k,if_neg (by simp)];exact ih m h
theorem CJ {V T:Nat} {nodes:List Nd} (h:T<V) (i:Nat):(io V T nodes).getD (V+i) false=false:=by
 have h1:∀ i,((List.replicate (V+nodes.length) false).set T true).getD (V+i) false=false:=fun i=>by
  rw [List.getD_eq_getElem?_getD,List.getElem?_set_ne (by omega)];by_cases hi:V+i<V+nodes.length
  ·simp [hi]
  ·simp [hi]
 unfold io;rw [wJ V nodes _ _ h1];exact h1 i
theorem AY {V T:Nat} {f:Fm} (ag:Ok f V T) (h:T<V):kD V T f.nodes=some [2^T]:=by
 rw [pe ag]
 have h1:∀ k,i_ V (io V T f.nodes) f.nodes k=some (List.replicate f.nodes.length []):=by
  intro k;induction k with
  | zero=>rfl
  | succ k ih =>
   unfold i_;rw [ih];simp only [Option.bind_some];unfold kh;rw [CJ h k];rfl
 rw [h1];simp only [Option.map_some];rw [if_pos h]
theorem xC (v:Value) (f:Fm) (V T:Nat) (w:World) (hv:ii w v f.nodes) (ar:Ok f V T) (bz:jP f=0) (hs:kt V T f=true) :
  Calls Tryz.prog 64 #[.agg #[.int .i64 V,v,.int .i64 T]] w fun e w'=>qo w' e (kD V T f.nodes)/\gO w w':=by
 have bA:=af (fun W (hk:gO w W)=>xB v f V T W (hv.kept hk) ar bz hs);have a_:Hid (∀ W,gO w W->Calls Tryz.prog 109 #[.agg #[.int .i64 V,v,.int .i64 T]] W fun e w'=>∃ g,e=.returned (.slice (some ⟨g,0,none⟩) (V+f.nodes.length) (V+f.nodes.length))/\W.heap.size<=g/\gS w' g 4 ((io V T f.nodes).map .bool)/\gO W w'):=af fun W hk=>nY v f V T W (hv.kept hk) ar
 obtain ⟨r,hr⟩:∃ r,r=kD V T f.nodes:=⟨_,rfl⟩;rw [<-hr];have ay:=AY (f:=f) ar;have heq:=pe ar;rw [<-hr] at ay heq
 have aj:∀ k,k<=f.nodes.length->i_ V (io V T f.nodes) f.nodes k=none->r=none:=fun k hk h=>by
  rw [heq,xr V _ f.nodes k h _ hk];rfl
 have ap:∀ i (hi:i<f.nodes.length),(io V T f.nodes).getD (V+i) false=true->f.nodes[i].kind=0\/f.nodes[i].kind=2\/f.nodes[i].kind=3\/f.nodes[i].kind=4:=fun i hi hm=>mg ar hs i hi hm
 have aO:(io V T f.nodes).length=V+f.nodes.length:=mr V T f.nodes;obtain ⟨mark,aw⟩:∃ mark,mark=io V T f.nodes:=⟨_,rfl⟩;rw [<-aw] at a_ heq aj ap aO;obtain ⟨va,vc,rfl,_,hl,hx⟩:=hv;obtain ⟨n,hn⟩:∃ n,n=f.nodes.length:=⟨_,rfl⟩;have bB:n<=128:=by rw [hn];exact ar.n128
 have bd:=ar.v24;have cu:T<V+n:=by rw [hn];exact ar.tlt
 rw [<-hn] at bA a_ heq aj aO hl⊢;have HX:=af hx;have HN:=af hn;have HO:=af ar;have bf:=af ay;have bQ:=af heq;have bR:=af aj;have bS:=af ap;have bC:=af aO;obtain ⟨w1,aP⟩:∃ w1,w1=w.alloc (.cells #[.int .i64 V,.slice va n vc,.int .i64 T] 41):=⟨_,rfl⟩;have bh:=gS.made w #[.int .i64 V,.slice va n vc,.int .i64 T] 41;rw [<-aP] at bh;have bT:=af bh;have bD:Hid (gO w w1):=af (by rw [aP];exact (gO.refl w).alloc _);have bU:=af aP;clear hx hn ar ay heq aj ap aO aP bh hr bz hs aw;go_enter Tryz.func64,Tryz.ntmps64;go_wp2_with fail;rw [<-bU.out];refine (bA.out _ bD.out).mono ?_;rintro e w2 ⟨rfl,bi⟩;have bj:=af (bD.out.trans bi);have aQ:=af (bT.out.kept bi);have b0:=aQ.out.cell (i:=0) (by simp);have b1:=aQ.out.cell (i:=1) (by simp);have b2:=aQ.out.cell (i:=2) (by simp);simp only [List.getElem_cons_succ,List.getElem_cons_zero] at b0 b1 b2;clear bi;by_cases bE:T<V
 ·have bk:(T:Int)<(V:Int):=by omega
  have bV:=af (bf.out bE);have bW:=af (hC.shl w2 T (by omega));go_wp2;go_ret2;exact ⟨by rw [bV.out];exact ⟨_,rfl,bW.out⟩,bj.out.alloc _⟩
 ·have bk:¬ (T:Int)<(V:Int):=by omega
  go_wp2_with (at_make;refine tI rfl _ _ rfl n rfl rfl (by omega) ?_;intro w3 bF aH cw;have bG:=af bF;have az:=af aH;have c0:=aH.cell b0;have c1:=aH.cell b1;have c2:=aH.cell b2;clear bF aH);refine (a_.out _ (bj.out.trans az.out)).mono ?_;rintro e w4 ⟨gn,rfl,cz,bH,aR⟩;have bI:=af (bG.out.kept aR);have aS:=af bH;have aI:=af (az.out.trans aR);have d1:=aR.cell c1;clear aR bH b0 b1 b2 c0 c1 c2;go_wp2_with fail;go_loopg [34] n (fun kx s34 wr=>∃ (k:Nat) (out:List (List Nat)),k<=n/\s34=.int .i64 k/\n - k<=kx/\Hid (i_ V mark f.nodes k=some out)/\Hid (OwnFams wr w2.heap.size (.slice (some ⟨w2.heap.size,0,none⟩) n n) out)/\Hid (gO w2 wr)/\Hid (gS wr gn 4 (mark.map .bool)))
  case atStart=>exact ⟨0,_,Nat.zero_le _,rfl,by omega,af rfl,by rw [<-HN.out];exact bI,aI,aS⟩
  case round =>
   clear bG bI aS az aI d1;obtain ⟨k,out,hk,rfl,cC,HL,aB,aT,aU⟩:=hrel;have aC:=af (bj.out.trans aT.out);have aV:=af (aQ.out.kept aT.out);have b0:=aV.out.cell (i:=0) (by simp);have b1:=aV.out.cell (i:=1) (by simp);have b2:=aV.out.cell (i:=2) (by simp);simp only [List.getElem_cons_succ,List.getElem_cons_zero] at b0 b1 b2;have cD:=aV.out.lt;have aJ:Hid (out.length=n):=af (by rw [HN.out];exact mO V mark f.nodes k out HL.out);by_cases cE:k<n
   ·have bX:(k:Int)<(n:Int):=by omega
    have aD:k<f.nodes.length:=by have:=HN.out;omega
    have bl:=aU.out.cell (i:=V+k) (by simp [bC.out];omega);rw [jh mark (V+k) (by rw [bC.out];omega)] at bl;obtain ⟨b,o,rfl,u,hc1,hc2,bJ,hI⟩:=HX.out k aD;have ag:=jL (aC.out.cell hc1) (aC.out.cell hc2) (aC.out.cell bJ);obtain ⟨ax,cx,rfl,_⟩:=id hI
    have ai:i_ V mark f.nodes (k+1)=kh V mark f.nodes out k:=by
     show (i_ V mark f.nodes k).bind _=_;rw [HL.out];rfl
    unfold kh at ai;rw [show f.nodes.getD k iZ=f.nodes[k] by simp [List.getD_eq_getElem?_getD,aD]] at ai;have al:=HO.out.args k aD;have am:=HO.out.argc k aD;have ah:=HO.out.arity k aD;have hkd:=bS.out k aD;obtain ⟨x,bK⟩:∃ x,x=f.nodes[k]:=⟨_,rfl⟩;rw [<-bK] at ag hI ai al am ah hkd;obtain ⟨kd,kk,args⟩:=x;simp only at ag hI ai al am ah hkd;have bL:=me am
    have h4:kd=4->1<=kk/\kk<=args.length:=by
     intro h0;unfold mF at ah;rw [if_neg (by omega),if_pos h0] at ah;split at ah
     ·assumption
     ·cases ah
    have HI:=af hI;obtain ⟨na,bo⟩:∃ na,na=args.length:=⟨_,rfl⟩;rw [<-bo] at ag;have bY:=af bo;have bZ:=af al;have b_:=af bL;have H4:=af h4;have cd:=af hkd;have bM:=af ai;have bp:=af ag;obtain ⟨w5,aW⟩:∃ w5,w5=wr.alloc (.cells #[.int .i64 kd,.int .i64 kk,.slice ax na cx] 106):=⟨_,rfl⟩;have aK:=gS.made wr #[.int .i64 kd,.int .i64 kk,.slice ax na cx] 106;rw [<-aW] at aK;have aF:gO wr w5:=by rw [aW];exact (gO.refl _).alloc _
    have n0:=aK.cell (i:=0) (by simp);have n1:=aK.cell (i:=1) (by simp);have n2:=aK.cell (i:=2) (by simp);simp only [List.getElem_cons_succ,List.getElem_cons_zero] at n0 n1 n2;have f0:=aF.cell b0;have f1:=aF.cell b1;have f2:=aF.cell b2;have aX:=aF.cell bl;have aA:=af aF;have bq:=af aW;have cF:(V:Int)+(k:Int)<(V:Int)+(n:Int):=by omega
    have cG:(V:Int)+(k:Int)<((V+n:Nat):Int):=by omega
    have cH:(0:Int)<=(V:Int)+(k:Int):=by omega
    clear hc1 hc2 bJ hI ag ai al am ah hkd bK bL h4 bo aW aK aF bl;cases aG:mark.getD (V+k) false with
    | false =>
     rw [aG] at aX;have aY:=af aG;clear aG;go_upto_region 11 with (with_reducible refine wpList_load_mid rfl 106 _ rfl b (o+k*3) rfl _ _ bp.out Tryz.underlying106 rfl (by kernel_rfl) ?_)
     rw [<-bq.out];clear b0 b1 b2;go_wp2_with fail;go_roundg (n - (k+1))
     case measure=>omega
     case rel=>exact ⟨k+1,out,by omega,by go_num,Nat.le_refl _,af (by rw [bM.out,aY.out];rfl),af (aB.out.kept aA.out),af (aT.out.trans aA.out),af (aU.out.kept aA.out)⟩
    | true =>
     rw [aG] at aX;have aY:=af aG
     have br:Hid (∀ W,gO wr W->Calls Tryz.prog 110 #[.agg #[.int .i64 V,.slice (some ⟨b,o,none⟩) n vc,.int .i64 T],.agg #[.int .i64 kd,.int .i64 kk,.slice ax na cx],.slice (some ⟨w2.heap.size,0,none⟩) n n] W fun e w'=>qo w' e (jy kd kk (args.map (jz V out)))/\gO W w'):=af fun W hk=>by
      have h:=HI.out.kept (aC.out.trans hk);rw [bY.out];exact Bn (.slice (some ⟨b,o,none⟩) n vc) _ V k T kd kk ax cx args out W ⟨_,_,_,rfl⟩ bd h ((aB.out.kept hk).mono (Nat.zero_le _)) (by rw [aJ.out];omega) (by rw [aJ.out];omega) bZ.out b_.out (cd.out aY.out) H4.out
     obtain ⟨z,hz⟩:∃ z,z=jy kd kk (args.map (jz V out)):=⟨_,rfl⟩;have aL:Hid (i_ V mark f.nodes (k+1)=z.map fun l=>out.set k l):=af (by rw [bM.out,aY.out,if_pos rfl,<-hz]);rw [<-hz] at br;obtain ⟨uo,aM,_⟩:=aB.out.cell k (by rw [aJ.out];omega);clear aG hz;cases z with
     | none =>
      have aS:Hid (r=none):=af (bR.out (k+1) (by omega) aL.out);go_upto_region 11 with (with_reducible refine wpList_load_mid rfl 106 _ rfl b (o+k*3) rfl _ _ bp.out Tryz.underlying106 rfl (by kernel_rfl) ?_)
      rw [<-bq.out];clear b0 b1 b2;go_wp2_with fail;refine (br.out _ aA.out).mono ?_;rintro e w8 ⟨he,aN⟩;unfold qo at he;subst he;have ci:=af (aC.out.trans (aA.out.trans aN));clear aN n0 n1 n2 f0 f1 f2 aX;go_wp2;go_ret2;exact ⟨by rw [aS.out];rfl,ci.out⟩
     | some y =>
      go_upto_region 11 with (with_reducible refine wpList_load_mid rfl 106 _ rfl b (o+k*3) rfl _ _ bp.out Tryz.underlying106 rfl (by kernel_rfl) ?_)
      rw [<-bq.out];clear b0 b1 b2;go_wp2_with fail;refine (br.out _ aA.out).mono ?_;rintro e w8 ⟨⟨v8,rfl,bt⟩,aN⟩;obtain ⟨xa,xn,xc,rfl⟩:=bt.1.ints.shape;have aq:=aA.out.trans aN;have cj:=aq.cell aM;have aZ:=aB.out.kept aq;have cI:=aZ.free k;have bN:=aZ.store aZ.len k bt;have ck:=af bN;have cn:=af ((aT.out.trans aq).store (Nat.le_refl _) k (.slice xa xn xc))
      have bw:Hid (gS (w8.setCell ⟨w2.heap.size,k,none⟩ (.slice xa xn xc)) gn 4 (mark.map .bool)):=af ((aU.out.kept aq).other (by
       intro e;have h1:=aU.out;obtain ⟨us,_,⟨_,h3⟩,_⟩:=aB.out;rcases h3 with ⟨h3,_⟩ | ⟨g',cap',cur,h3,_,h4,_⟩
       ·cases h3
       ·cases h3;obtain ⟨cur2,h5,_⟩:=h1;rw [e,h4] at h5;simp at h5) k _)
      clear aN aq bt aZ bN n0 n1 n2 f0 f1 f2 aX aM;go_wp2_with fail;go_roundg (n - (k+1))
      case measure=>omega
      case rel=>exact ⟨k+1,out.set k y,by omega,by go_num,Nat.le_refl _,aL,ck,cn,bw⟩
   ·have bX:¬ (k:Int)<(n:Int):=by omega
    obtain ⟨Z,hZ⟩:∃ Z,T=V+Z:=⟨T - V,by omega⟩
    have cq:Hid (r=some (out.getD Z [])):=af (by
     have cr:k=n:=by omega
     have h:=HL.out;rw [cr] at h;rw [bQ.out,h];simp only [Option.map_some];rw [if_neg bE,show T - V=Z by omega])
    have bO:Z<out.length:=by rw [aJ.out];omega
    obtain ⟨uz,cJ,bP⟩:=aB.out.cell Z bO
    have ct:Hid (hC wr 0 uz (out.getD Z [])):=af (by
     have e:out.getD Z []=out[Z]:=by simp [List.getD_eq_getElem?_getD,bO]
     rw [e];exact bP)
    have cK:(0:Int)<=(Z:Int):=by omega
    have cL:(Z:Int)<(n:Int):=by have:=aJ.out;omega
    have cM:(T:Int) - (V:Int)=(Z:Int):=by omega
    clear bP hZ;go_wp2;go_ret2;exact ⟨by rw [cq.out];exact ⟨_,rfl,ct.out⟩,aC.out⟩
def gY (r:Nat):List Nat:=(List.range 128).filter fun j=>r.testBit (24+j)
theorem iL {r j:Nat}:j∈gY r ↔ j<128/\r.testBit (24+j)=true:=by simp [gY]
theorem iS (r:Nat):(gY r).Pairwise (·<·):=List.Pairwise.filter _ List.pairwise_lt_range
theorem kA (r:Nat):(gY r).length<=128:=by
 unfold gY;exact Nat.le_trans (List.length_filter_le ..) (by simp)
theorem ry {l r:List Nat} (hl:l.Pairwise (·<·)) (hr:r.Pairwise (·<·)) (h:∀ x,x∈l ↔ x∈r):l=r :=
 kC (·<·) (fun a h=>Nat.lt_irrefl a h) (fun _ _ _ h k=>Nat.lt_trans h k) l r hl hr h
theorem AO (r a:Nat) (h:a<24):gY (r ||| 2^a)=gY r:=by
 refine ry (iS _) (iS _) fun j=>?_
 rw [iL,iL,iU]
 have:¬ a=24+j:=by omega
 simp [this]
theorem xi (r n:Nat) (h:n<128):gY (r ||| 2^(24+n))=(gY r).filter (fun x=>decide (x<n))++n :: (gY r).filter (fun x=>decide (n<x)):=by
 refine ry (iS _) ?_ fun j=>?_
 ·rw [List.pairwise_append];refine ⟨(iS r).filter _,?_,fun a ha b hb=>?_⟩
  ·rw [List.pairwise_cons];refine ⟨fun b hb=>?_,(iS r).filter _⟩;simpa using (List.mem_filter.1 hb).2
  ·have h1:a<n:=by simpa using (List.mem_filter.1 ha).2
   rcases List.mem_cons.1 hb with hb | hb
   ·omega
   ·have h2:n<b:=by simpa using (List.mem_filter.1 hb).2
    omega
 ·rw [iL,iU,List.mem_append,List.mem_cons,List.mem_filter,List.mem_filter,iL];simp only [Bool.or_eq_true,decide_eq_true_eq];constructor
  ·rintro ⟨h1,h2 | h2⟩
   ·by_cases e:j<n
    ·exact .inl ⟨⟨h1,h2⟩,e⟩
    ·by_cases e2:j=n
     ·exact .inr (.inl e2)
     ·exact .inr (.inr ⟨⟨h1,h2⟩,by omega⟩)
   ·exact .inr (.inl (by omega))
  ·rintro (⟨⟨h1,h2⟩,_⟩ | h1 | ⟨⟨h1,h2⟩,_⟩)
   ·exact ⟨h1,.inl h2⟩
   ·subst h1;exact ⟨h,.inr rfl⟩
   ·exact ⟨h1,.inl h2⟩
theorem xh (r n:Nat) (hn:n<128) (hb:r.testBit (24+n)=true) (ag:∀ j,r.testBit (24+j)=true->j<=n):gY r=gY (iH r (2^(24+n)))++[n]:=by
 refine ry (iS _) ?_ fun j=>?_
 ·rw [List.pairwise_append];refine ⟨iS _,by simp,fun a ha b ah=>?_⟩;simp at ah;subst ah;have h:=iL.1 ha;rw [jr] at h;simp only [Bool.and_eq_true,Bool.not_eq_true',decide_eq_false_iff_not] at h;have:=ag a h.2.1;omega
 ·rw [List.mem_append,iL,iL,jr];simp only [Bool.and_eq_true,Bool.not_eq_true',decide_eq_false_iff_not,List.mem_singleton];constructor
  ·rintro ⟨h1,h2⟩;by_cases e:j=n
   ·exact .inr e
   ·exact .inl ⟨h1,h2,by omega⟩
  ·rintro (⟨h1,h2,_⟩ | h1)
   ·exact ⟨h1,h2⟩
   ·subst h1;exact ⟨hn,hb⟩
theorem Jn (r n:Nat):iM (iH r (2^(24+n)))=iM r:=Nat.eq_of_testBit_eq fun i=>by
 rw [jn,jn,jr];by_cases h:i<24
 ·have:¬ 24+n=i:=by omega
  simp [this]
 ·simp [h]
theorem El {r:Nat} (hr:ie 152 r) (h:gY r=[]):oB r (-1):=⟨fun j hj=>(by
 have:j∈gY r:=iL.2 ⟨by have:=hr _ hj;omega,hj⟩
 rw [h] at this;cases this),.inl rfl⟩
theorem BK {r x:Nat} {l:List Nat} (hr:ie 152 r) (h:gY r=l++[x]):oB r (x:Int):=by
 refine ⟨fun j hj=>?_,.inr ⟨x,rfl,?_⟩⟩
 ·have hm:j∈gY r:=iL.2 ⟨by have:=hr _ hj;omega,hj⟩;have hs:=iS r;rw [h] at hm hs;rcases List.mem_append.1 hm with hm | hm
  ·have:=(List.pairwise_append.1 hs).2.2 j hm x (by simp);omega
  ·simp at hm;omega
 ·exact (iL.1 (show x∈gY r by rw [h];simp)).2
theorem Jm (r n:Nat):iM (r ||| 2^(24+n))=iM r:=Nat.eq_of_testBit_eq fun i=>by
 rw [jn,jn,iU];by_cases h:i<24
 ·have:¬ 24+n=i:=by omega
  simp [this]
 ·simp [h]
def mR (la:List Nat) (k x:Nat):Nat:=if la[k]?=some x then k+1 else k
def lU (la lb:List Nat) (k:Nat):Nat:=lb.foldl (mR la) k
theorem Br:∀ (lb la:List Nat) (k:Nat),lU la lb k=k+lU (la.drop k) lb 0:=by
 intro lb;induction lb with
 | nil=>intro la k;simp [lU]
 | cons x lb ih =>
  intro la k;show lU la lb (mR la k x)=k+lU (la.drop k) lb (mR (la.drop k) 0 x);have e:(la.drop k)[0]?=la[k]?:=by rw [List.getElem?_drop];simp
  unfold mR;rw [e];by_cases h:la[k]?=some x
  ·rw [if_pos h,if_pos h,ih la (k+1),ih (la.drop k) (0+1),List.drop_drop];rw [show k+(0+1)=k+1 by omega];omega
  ·rw [if_neg h,if_neg h,ih la k]
theorem Eb (lb:List Nat):lU [] lb 0=0:=by
 induction lb with
 | nil=>rfl
 | cons x lb ih=>show lU [] lb (mR [] 0 x)=0;rw [show mR [] 0 x=0 from rfl];exact ih
theorem Ea:∀ (lb la:List Nat),la.Pairwise (·<·)->lb.Pairwise (·<·)->(lU la lb 0=la.length ↔ ∀ x∈la,x∈lb):=by
 intro lb;induction lb with
 | nil =>
  intro la _ _;cases la with
  | nil=>simp [lU]
  | cons a la =>
   constructor
   ·intro h;simp [lU] at h
   ·intro h;have:=h a (by simp);cases this
 | cons b lb ih =>
  intro la ai aj;have ag:=(List.pairwise_cons.1 aj);cases la with
  | nil=>simp [Eb]
  | cons a la =>
   have ah:=(List.pairwise_cons.1 ai);show lU (a :: la) lb (mR (a :: la) 0 b)=_ ↔ _;by_cases h:a=b
   ·subst h;rw [show mR (a :: la) 0 a=1 by simp [mR],Br,show (a :: la).drop 1=la from rfl,List.length_cons];have:=ih la ah.2 ag.2;constructor
    ·intro e x hx;rcases List.mem_cons.1 hx with hx | hx
     ·subst hx;simp
     ·exact List.mem_cons_of_mem _ (this.1 (by omega) x hx)
    ·intro e
     have h2:=this.2 fun x hx=>by
      rcases List.mem_cons.1 (e x (List.mem_cons_of_mem _ hx)) with h3 | h3
      ·have:=ah.1 x hx;omega
      ·exact h3
     omega
   ·rw [show mR (a :: la) 0 b=0 by simp [mR,h],ih (a :: la) ai ag.2];constructor
    ·intro e x hx;exact List.mem_cons_of_mem _ (e x hx)
    ·intro e;have ha:a∈lb:=(List.mem_cons.1 (e a (by simp))).resolve_left h;have al:=ag.1 a ha;intro x hx;rcases List.mem_cons.1 (e x hx) with h3 | h3
     ·rcases List.mem_cons.1 hx with h4 | h4
      ·omega
      ·have:=ah.1 x h4;omega
     ·exact h3
theorem FU {a:Nat} (b:Nat) (ha:ie 152 a):iE a b=(iE (iM a) (iM b)&&decide (lU (gY a) (gY b) 0=(gY a).length)):=by
 rw [Bool.eq_iff_iff,Bool.and_eq_true,decide_eq_true_eq,Ea _ _ (iS a) (iS b),iI,iI];constructor
 ·intro h;refine ⟨fun i hi=>?_,fun x hx=>?_⟩
  ·rw [jn] at hi⊢;simp only [Bool.and_eq_true,decide_eq_true_eq] at hi⊢;exact ⟨hi.1,h i hi.2⟩
  ·rw [iL] at hx⊢;exact ⟨hx.1,h _ hx.2⟩
 ·rintro ⟨h1,h2⟩ i hi;by_cases c:i<24
  ·have:=h1 i (by rw [jn];simp [c,hi]);rw [jn] at this;simp only [Bool.and_eq_true,decide_eq_true_eq] at this;exact this.2
  ·have ag:=ha i hi;have:=(iL.1 (h2 (i - 24) (iL.2 ⟨by omega,by rw [show 24+(i - 24)=i by omega];exact hi⟩))).2;rw [show 24+(i - 24)=i by omega] at this;exact this
def IV (L:List Nat) (i j:Nat):Bool:=decide (i≠j)&&(iE (L.getD j 0) (L.getD i 0)&&(!iE (L.getD i 0) (L.getD j 0)||decide (j<i)))
def rt (L:List Nat) (i:Nat):Bool:=(List.range L.length).all fun j=>!IV L i j
def ki (L:List Nat) (m:Nat):List Nat:=((List.range m).filter (rt L)).map fun i=>L.getD i 0
def rK (L:List Nat):List Nat:=ki L L.length
theorem vd (L:List Nat) (m:Nat):ki L (m+1)=ki L m++(if rt L m=true then [L.getD m 0] else []):=by
 unfold ki;rw [List.range_succ,List.filter_append,List.map_append];cases h:rt L m <;> simp [h]
theorem xA (L:List Nat) (m:Nat):(ki L m).length<=m:=by
 unfold ki;rw [List.length_map];exact Nat.le_trans (List.length_filter_le ..) (by simp)
theorem vD {x:Nat}:∀ {L:List Nat},x∈L->∃ i,i<L.length/\L.getD i 0=x/\∀ j,j<i->L.getD j 0≠x:=by
 intro L;induction L with
 | nil=>intro h;cases h
 | cons a L ih =>
  intro h;by_cases e:a=x
  ·exact ⟨0,by simp,by simp [e],fun j hj=>by omega⟩
  ·obtain ⟨i,h1,h2,h3⟩:=ih ((List.mem_cons.1 h).resolve_left fun h=>e h.symm);refine ⟨i+1,by simpa using h1,by simpa using h2,fun j hj=>?_⟩;cases j with
   | zero=>simpa using e
   | succ j=>simpa using h3 j (by omega)
theorem yu {L:List Nat} {i:Nat} (h:i<L.length):L.getD i 0∈L:=by
 rw [List.getD_eq_getElem?_getD,List.getElem?_eq_getElem h];exact List.getElem_mem h
theorem Fy {L:List Nat} {x:Nat} (h:x∈L):∃ i,i<L.length/\L.getD i 0=x:=let ⟨i,h1,h2,_⟩:=vD h;⟨i,h1,h2⟩
theorem pZ (L:List Nat) (i:Nat):rt L i=true ↔ ∀ j,j<L.length->i≠j->iE (L.getD j 0) (L.getD i 0)=true->iE (L.getD i 0) (L.getD j 0)=true/\i<=j:=by
 unfold rt IV;rw [List.all_eq_true];simp only [List.mem_range,Bool.not_eq_true',Bool.and_eq_false_iff,Bool.or_eq_false_iff,decide_eq_false_iff_not,Decidable.not_not,Bool.not_eq_false'];constructor
 ·intro h j hj ag hs;rcases h j hj with h1 | h1 | h1
  ·exact absurd h1 ag
  ·rw [hs] at h1;cases h1
  ·exact ⟨h1.1,by omega⟩
 ·intro h j hj;by_cases ag:i=j
  ·exact .inl ag
  ·cases hs:iE (L.getD j 0) (L.getD i 0) with
   | false=>exact .inr (.inl rfl)
   | true =>
    have:=h j hj ag hs;exact .inr (.inr ⟨this.1,by omega⟩)
theorem zj (L:List Nat):(rK L).Perm (iy L):=by
 refine sw ?_ (vP (kZ L)) fun x=>?_
 ·unfold rK ki List.Nodup;rw [List.pairwise_map];refine List.Pairwise.imp_of_mem (R:=(·<·)) (fun {a b} ha hb hab=>?_) (List.Pairwise.filter _ List.pairwise_lt_range);intro e;have ha2:=List.mem_filter.1 ha;have ai:=List.mem_filter.1 hb;have aj:a<L.length:=by simpa using ha2.1
  have:=((pZ L b).1 ai.2 a aj (by omega) (by rw [e];exact jU _)).2;omega
 ·rw [jw];unfold rK ki;rw [List.mem_map];constructor
  ·rintro ⟨i,hi,rfl⟩;have ah:=List.mem_filter.1 hi;have al:i<L.length:=by simpa using ah.1
   refine ⟨yu al,fun t ht hs=>?_⟩;obtain ⟨j,hj,rfl⟩:=Fy ht;by_cases e:i=j
   ·rw [e]
   ·exact ml hs ((pZ L i).1 ah.2 j hj e hs).1
  ·rintro ⟨hx,ag⟩;obtain ⟨i,h1,h2,h3⟩:=vD hx;refine ⟨i,List.mem_filter.2 ⟨by simpa using h1,(pZ L i).2 fun j hj ap hs=>?_⟩,h2⟩;have e:=ag _ (yu hj) (by rw [<-h2];exact hs);refine ⟨by rw [h2,e];exact jU x,?_⟩;apply Nat.le_of_not_lt;intro am;exact h3 j am e
def jp (V:Nat):List Int->Nat->Nat->Int->List Nat
 | [],k,r,_=>if k=0 then [r] else []
 | a :: l,k,r,room=>if k=0 then [r] else if l.length+1<k\/room<0 then [] else
   jp V l (k - 1) (iv V r a) room++jp V l k r (room - (jp V l (k - 1) (iv V r a) room).length)
theorem mz (V:Nat) (args:List Int) (r:Nat) (room:Int):jp V args 0 r room=[r]:=by
 cases args <;> unfold jp <;> rw [if_pos rfl]
theorem rJ (V:Nat):∀ (args:List Int) (k r:Nat) (room:Int),k≠0->((jp V args k r room).length:Int)<=max (room+1) 0:=by
 intro args;induction args with
 | nil=>intro k r room h;unfold jp;rw [if_neg h];simp;omega
 | cons a l ih =>
  intro k r room h;unfold jp;rw [if_neg h];split
  ·simp;omega
  ·rename_i h2;rw [List.length_append];have h3:=ih k r (room - (jp V l (k - 1) (iv V r a) room).length) h
   have h4:((jp V l (k - 1) (iv V r a) room).length:Int)<=room+1:=by
    by_cases e:k - 1=0
    ·rw [e,mz];simp;omega
    ·have:=ih (k - 1) (iv V r a) room e;omega
   omega
theorem qt (V:Nat) (args:List Int) (r:Nat):hJ V args 0 r=[r]:=by
 cases args <;> unfold hJ <;> rw [if_pos rfl]
theorem Bh (V:Nat):∀ (args:List Int) (k r:Nat) (room:Int),0<=room ->
  (((hJ V args k r).length:Int)<=room->jp V args k r room=hJ V args k r)/\(room<(hJ V args k r).length->room<(jp V args k r room).length):=by
 intro args;induction args with
 | nil=>intro k r room _;unfold jp hJ;exact ⟨fun _=>rfl,fun h=>h⟩
 | cons a l ih =>
  intro k r room hr;by_cases hk:k=0
  ·subst hk;rw [mz,qt];exact ⟨fun _=>rfl,fun h=>h⟩
  ·by_cases hm:l.length+1<k
   ·rw [lw V (a :: l) k r (by simpa using hm)];unfold jp;rw [if_neg hk,if_pos (.inl hm)];exact ⟨fun _=>rfl,fun h=>h⟩
   ·have e1:jp V (a :: l) k r room=jp V l (k - 1) (iv V r a) room++jp V l k r (room - (jp V l (k - 1) (iv V r a) room).length):=by
     conv=>lhs;unfold jp
     rw [if_neg hk,if_neg (by omega)]
    have e2:hJ V (a :: l) k r=hJ V l (k - 1) (iv V r a)++hJ V l k r:=by
     conv=>lhs;unfold hJ
     rw [if_neg hk]
    rw [e1,e2,List.length_append,List.length_append];obtain ⟨i1,i2⟩:=ih (k - 1) (iv V r a) room hr;by_cases h1:((hJ V l (k - 1) (iv V r a)).length:Int)<=room
    ·rw [i1 h1];obtain ⟨j1,j2⟩:=ih k r (room - (hJ V l (k - 1) (iv V r a)).length) (by omega);exact ⟨fun h=>by rw [j1 (by omega)],fun h=>by have:=j2 (by omega);omega⟩
    ·have:=i2 (by omega);exact ⟨fun h=>by omega,fun h=>by omega⟩
theorem yf (V:Nat):∀ (args:List Int) (r:Nat),hJ V args args.length r=[args.foldl (iv V) r]:=by
 intro args;induction args with
 | nil=>intro r;rfl
 | cons a l ih =>
  intro r;unfold hJ;rw [if_neg (by simp),List.length_cons,Nat.add_sub_cancel,ih,lw V l (l.length+1) r (by omega)];rfl
theorem yg (V:Nat):∀ (args:List Int) (r:Nat),hJ V args 1 r=args.map (iv V r):=by
 intro args;induction args with
 | nil=>intro r;rfl
 | cons a l ih =>
  intro r;unfold hJ;rw [if_neg (by omega),show 1 - 1=0 by omega,qt,ih];rfl
theorem po (V:Nat) (x:Nd) (i:Nat) (L:List Nat) (k:Nat):(iP V x i (L.take k)).length<=(iP V x i L).length:=by
 have:iP V x i L=iP V x i (L.take k)++iP V x i (L.drop k):=by
  unfold iP;rw [<-List.flatMap_append,List.take_append_drop]
 rw [this,List.length_append];omega
section
open Go.RowKit
variable {Z:Option Nat}
theorem vJ:(Tryz.prog.info? 131).map (fun i=>(i.zero,i.size,i.bytes))=some (some (.agg #[.int .i64 0,.slice none 0 0]),2,32):=by kernel_rfl
def jl (Z:Option Nat) (w:World) (u:Value) (r:Nat):Prop:=OwnInts w 0 u (ib (gY r))/\∀ g,u.ownBlock=some g->Z≠some g
theorem jl.kept {w w':World} {u:Value} {r:Nat} (h:jl Z w u r) (hk:gO w w'):jl Z w' u r:=⟨OwnInts.kept h.1 hk,h.2⟩
theorem jl.shape {w:World} {u:Value} {r:Nat} (h:jl Z w u r):∃ a c,u=.slice a (gY r).length c:=by
 obtain ⟨a,c,h,_⟩:=OwnInts.ints h.1;exact ⟨a,c,by rw [h];simp [ib]⟩
theorem jl.get {w:World} {a:Option Addr} {n c:Nat} {r:Nat} (h:jl Z w (.slice a n c) r) (i:Nat) (hi:i<(gY r).length):∃ b o,a=some ⟨b,o,none⟩/\w.cell? ⟨b,o+i,none⟩=some (.int .i64 ((gY r)[i]:Nat)):=by
 obtain ⟨a',c',h1,_,_,h4⟩:=OwnInts.ints h.1;injection h1 with h1 h2 h3
 subst h1;obtain ⟨b,o,h5,h6⟩:=h4 i (by simpa [ib] using hi);exact ⟨b,o,h5,by simpa [ib] using h6⟩
def g_ (Z:Option Nat) (w:World) (B:Nat) (v:Value) (L:List Nat):Prop :=
 ∃ cells:List Value,w.ownsRow B 131 2 v L.length cells/\(L.length<=20000/\∀ c∈L,ie 152 c) /\
  ∀ i (h:i<L.length),∃ u,cells[i*2]?=some (.int .i64 (iM L[i]))/\cells[i*2+1]?=some u/\jl Z w u L[i]
theorem g_.kept {w w':World} {B:Nat} {v:Value} {L:List Nat} (h:g_ Z w B v L) (hk:gO w w'):g_ Z w' B v L:=by
 obtain ⟨cells,h1,h2,h3⟩:=h;exact ⟨cells,lT h1 hk,h2,fun i hi=>let ⟨u,a,b,c⟩:=h3 i hi;⟨u,a,b,c.kept hk⟩⟩
theorem g_.mono {w:World} {B B':Nat} {v:Value} {L:List Nat} (h:g_ Z w B v L) (hb:B'<=B):g_ Z w B' v L:=by
 obtain ⟨cells,h1,h2,h3⟩:=h;exact ⟨cells,nz h1 hb,h2,h3⟩
theorem g_.nil (w:World) (B:Nat):g_ Z w B (.slice none 0 0) []:=⟨[],World.ownsRow_nil _ _ _ _,⟨by simp,by simp⟩,fun i h=>by simp at h⟩
theorem g_.lt {w:World} {B:Nat} {v:Value} {L:List Nat} (h:g_ Z w B v L):∀ c∈L,ie 152 c:=by obtain ⟨_,_,h,_⟩:=h;exact h.2
theorem g_.len {w:World} {B:Nat} {v:Value} {L:List Nat} (h:g_ Z w B v L):L.length<=20000:=by obtain ⟨_,_,h,_⟩:=h;exact h.1
theorem g_.slice {w:World} {B:Nat} {v:Value} {L:List Nat} (h:g_ Z w B v L):∃ a c,v=.slice a L.length c/\(a=none->c=0):=by
 obtain ⟨cells,⟨_,h⟩,_⟩:=h;rcases h with ⟨rfl,h0⟩ | ⟨g,cp,_,rfl,_⟩
 ·exact ⟨none,0,by rw [h0],fun _=>rfl⟩
 ·exact ⟨_,_,rfl,fun h=>by cases h⟩
theorem nD {w:World} {b o:Nat} {x u:Value} (h1:w.cell? ⟨b,o,none⟩=some x) (h2:w.cell? ⟨b,o+1,none⟩=some u):w.rangeAt b o [x,u]:=by
 intro j v hj
 match j,hj with
 | 0,hj=>simp at hj;subst hj;exact h1
 | 1,hj=>simp at hj;subst hj;exact h2
theorem g_.get {w:World} {B:Nat} {a:Option Addr} {n c:Nat} {L:List Nat} (h:g_ Z w B (.slice a n c) L) (i:Nat) (hi:i<L.length) :
  ∃ b ua un uc,a=some ⟨b,0,none⟩/\un=(gY L[i]).length/\jl Z w (.slice ua un uc) L[i]/\w.rangeAt b (i*2) [.int .i64 (iM L[i]),.slice ua un uc]:=by
 obtain ⟨cells,⟨h1,h2⟩,h3,h4⟩:=h;rcases h2 with ⟨_,h6⟩ | ⟨g,cap,cur,hv,h6,h7,h8,h9,ai,ag⟩
 ·omega
 ·injection hv with ah aj al
  obtain ⟨u,e0,e1,e2⟩:=h4 i hi;obtain ⟨ua,uc,rfl⟩:=e2.shape
  have hc:∀ j,j<L.length*2->w.cell? ⟨g,j,none⟩=cells[j]?:=by
   intro j hj;have e1:(cur.toList.take (L.length*2))[j]?=cells[j]?:=by rw [ag]
   rw [List.getElem?_take_of_lt hj] at e1;simp only [World.cell?,h7];simpa using e1
  exact ⟨g,ua,_,uc,ah,rfl,e2,nD (by rw [hc _ (by omega)];exact e0) (by rw [hc _ (by omega)];exact e1)⟩
theorem Ha {o:Oper} {a:Act} {K:Act->World->Prop} {Q:Exit->Act->World->Prop} {w:World} (s x:Operand)
  (ho:o.op=.call { callee:=.builtin .append,args:=#[s,x],argTypes:=#[127,127] }) (B:Nat) (v:Value) (L:List Nat) (hs:a.eval s=v) (ah:g_ Z w B v L)
  (u:Value) (M:List Nat) (hx:a.eval x=u) (hu:g_ Z w 0 u M) (hl:L.length+M.length<=20000) (hB:B<=w.heap.size)
  (h:∀ v' w',g_ Z w' B v' (L++M)->Below B w w'->K (a.put o.dst v') w'):Oper.wp Tryz.prog o a w K Q:=by
 obtain ⟨i0,aq,az,aA,aB⟩:=info_parts vJ;have ai:=ah;obtain ⟨cells,ag,⟨aI,aC⟩,aj⟩:=ah;obtain ⟨cs,⟨al,aD⟩,⟨aJ,am⟩,ar⟩:=hu;rcases aD with ⟨rfl,aF⟩ | ⟨g,cap,cur,rfl,h6,h7,h8,h9,aK,aG⟩
 ·have hM:M=[]:=List.eq_nil_of_length_eq_zero aF;subst hM;have ap:=run_append_owned_none (P:=Tryz.prog) (w:=w) B 127 o.type 131 i0 2 Tryz.underlying127 aq v L.length _ ag;unfold Oper.wp;simp [execOp,ho,resolve,invoke,builtin,hs,hx,ap,Result.andThen];exact h v w (by simpa using ai) (Below.refl _ _)
 ·refine wp_append_own _ s x 127 ho B 131 i0 _ 2 32 Tryz.underlying127 aq az aA aB rfl (by decide) v L.length cells hs ag ⟨g,0,none⟩ M.length cap cs hx al ?_ ?_ (by unfold maxLen;omega) (by omega) hB ?_
  ·intro j y hj;have hj':j<M.length*2:=by rw [<-al];exact (List.getElem?_eq_some_iff.1 hj).1
   have e1:(cur.toList.take (M.length*2))[j]?=cs[j]?:=by rw [aG]
   rw [List.getElem?_take_of_lt hj',hj] at e1;rw [tb];simp only [World.cell?,h7,Nat.zero_add];simpa using e1
  ·intro y hy;obtain ⟨j,hj⟩:=List.getElem?_of_mem hy;have hj':j<M.length*2:=by rw [<-al];exact (List.getElem?_eq_some_iff.1 hj).1
   obtain ⟨u,e0,e1,e2⟩:=ar (j / 2) (by omega);obtain ⟨ua,uc,rfl⟩:=e2.shape;by_cases hp:j % 2=0
   ·rw [show j / 2*2=j by omega,hj] at e0;rw [Option.some.inj e0];simp [Value.oneCell']
   ·rw [show j / 2*2+1=j by omega,hj] at e1;rw [Option.some.inj e1];simp [Value.oneCell']
  ·intro v' w' h3 h4 _;have hg:∀ k,k<w.heap.size->some k≠v.ownBlock->w'.heap[k]?=w.heap[k]?:=fun k hk aH=>h4.block k hk aH
   refine h v' w' ⟨cells++cs,by rw [List.length_append];exact h3,⟨by simp;omega,fun c hc=>?_⟩,?_⟩ (iD h4 ag hB)
   ·rcases List.mem_append.1 hc with hc | hc
    ·exact aC c hc
    ·exact am c hc
   ·intro i hi;have aw:cells.length=L.length*2:=ag.1;by_cases ay:i<L.length
    ·obtain ⟨u,e0,e1,e2⟩:=aj i ay;rw [List.getElem_append_left ay];refine ⟨u,?_,?_,⟨⟨nQ e2.1.1 ag (by decide) hg,e2.1.2⟩,e2.2⟩⟩
     ·rw [List.getElem?_append_left (by omega),e0]
     ·rw [List.getElem?_append_left (by omega),e1]
    ·rw [List.length_append] at hi;obtain ⟨u,e0,e1,e2⟩:=ar (i - L.length) (by omega);rw [List.getElem_append_right (by omega)];refine ⟨u,?_,?_,⟨⟨nQ e2.1.1 ag (by decide) hg,e2.1.2⟩,e2.2⟩⟩
     ·rw [List.getElem?_append_right (by omega),aw,show i*2 - L.length*2=(i - L.length)*2 by omega,e0]
     ·rw [List.getElem?_append_right (by omega),aw,show i*2+1 - L.length*2=(i - L.length)*2+1 by omega,e1]
theorem wG {ops:Array Oper} {rest:List Oper} {o:Oper} {a:Act} {Q:Exit->Act->World->Prop} {w:World} (ah:o.guard=none) (s x:Operand)
  (ho:o.op=.call { callee:=.builtin .append,args:=#[s,x],argTypes:=#[127,127] }) (B:Nat) (v:Value) (L:List Nat) (hs:a.eval s=v) (ag:g_ Z w B v L)
  (u:Value) (M:List Nat) (hx:a.eval x=u) (hu:g_ Z w 0 u M) (hl:L.length+M.length<=20000) (hB:B<=w.heap.size)
  (h:∀ v' w',g_ Z w' B v' (L++M)->Below B w w'->wpList Tryz.prog ops Q rest (a.put o.dst v') w'):wpList Tryz.prog ops Q (o :: rest) a w :=
 wpList_plain ah fun _ hK=>Ha s x ho B v L hs ag u M hx hu hl hB fun v' w' h1 h2=>hK _ _ (h v' w' h1 h2)
theorem zK {ops:Array Oper} {o:Oper} {a:Act} {K:Act->World->Prop} {Q:Exit->Act->World->Prop} {E:Prop} {w:World} (ah:o.guard=none) (s x:Operand)
  (ho:o.op=.call { callee:=.builtin .append,args:=#[s,x],argTypes:=#[127,127] }) (B:Nat) (v:Value) (L:List Nat) (hs:a.eval s=v) (ag:g_ Z w B v L)
  (u:Value) (M:List Nat) (hx:a.eval x=u) (hu:g_ Z w 0 u M) (hl:L.length+M.length<=20000) (hB:B<=w.heap.size)
  (h:∀ v' w',g_ Z w' B v' (L++M)->Below B w w'->K (a.put o.dst v') w'):if Region.wanted o (yielded ops a.tmps)=true then Oper.wp Tryz.prog o a w K Q else E:=by
 have hw:Region.wanted o (yielded ops a.tmps)=true:=by simp [Region.wanted,ah]
 rw [if_pos hw];exact Ha s x ho B v L hs ag u M hx hu hl hB h
theorem g_.one {w:World} {g B r:Nat} {u:Value} (h:w.heap[g]?=some (.cells #[.int .i64 (iM r),u] 131 (0,0))) (hu:jl Z w u r) (hr:ie 152 r) (hB:B<=g):g_ Z w B (.slice (some ⟨g,0,none⟩) 1 1) [r] :=
 ⟨[.int .i64 (iM r),u],⟨rfl,.inr ⟨g,1,#[.int .i64 (iM r),u],rfl,hB,h,Nat.le_refl _,by unfold maxLen;omega,rfl,rfl⟩⟩,⟨by simp,by simpa using hr⟩,fun i hi=>by
  have:i=0:=by simpa using hi
  subst this;exact ⟨u,rfl,rfl,hu⟩⟩
theorem wF {ops:Array Oper} {rest:List Oper} {o:Oper} {a:Act} {Q:Exit->Act->World->Prop} {w:World} (am:o.guard=none) (s x:Operand)
  (ho:o.op=.call { callee:=.builtin .append,args:=#[s,x],argTypes:=#[127,127] }) (B:Nat) (v:Value) (L:List Nat) (hs:a.eval s=v) (ai:g_ Z w B v L)
  (g r:Nat) (u:Value) (hx:a.eval x=.slice (some ⟨g,0,none⟩) 1 1) (hc:w.rangeAt g 0 [.int .i64 (iM r),u]) (hu:jl Z w u r) (hr:ie 152 r) (hl:L.length<20000) (hB:B<=w.heap.size)
  (h:∀ v' w',g_ Z w' B v' (L++[r])->Below B w w'->wpList Tryz.prog ops Q rest (a.put o.dst v') w'):wpList Tryz.prog ops Q (o :: rest) a w:=by
 obtain ⟨i0,ap,aq,ar,aw⟩:=info_parts vJ;obtain ⟨cells,ag,⟨aA,ay⟩,ah⟩:=ai;obtain ⟨sa,sc,rfl⟩:=hu.shape;refine wpList_append_own _ am s x 127 ho B 131 i0 _ 2 32 Tryz.underlying127 ap aq ar aw rfl (by decide) v L.length cells hs ag ⟨g,0,none⟩ 1 1 [.int .i64 (iM r),.slice sa (gY r).length sc] hx rfl ?_ ?_ (by unfold maxLen;omega) (by omega) hB ?_
 ·intro j u hj;have:=hc j u hj;rw [tb];exact this
 ·intro u hu;simp at hu;rcases hu with rfl | rfl <;> rfl
 ·intro v' w' h3 h4 _;have hg:∀ k,k<w.heap.size->some k≠v.ownBlock->w'.heap[k]?=w.heap[k]?:=fun k hk az=>h4.block k hk az
  refine h v' w' ⟨cells++[.int .i64 (iM r),.slice sa (gY r).length sc],by simpa using h3,⟨by simp;omega,fun c hc=>?_⟩,?_⟩ (iD h4 ag hB)
  ·rcases List.mem_append.1 hc with hc | hc
   ·exact ay c hc
   ·simp at hc;subst hc;exact hr
  ·intro i hi;simp at hi;have aj:cells.length=L.length*2:=ag.1;by_cases al:i<L.length
   ·obtain ⟨u,e0,e1,e2⟩:=ah i al;rw [List.getElem_append_left al];refine ⟨u,?_,?_,⟨⟨nQ e2.1.1 ag (by decide) hg,e2.1.2⟩,e2.2⟩⟩
    ·rw [List.getElem?_append_left (by omega),e0]
    ·rw [List.getElem?_append_left (by omega),e1]
   ·have e:i=L.length:=by omega
    subst e;rw [List.getElem_append_right (Nat.le_refl _)];simp only [Nat.sub_self,List.getElem_cons_zero];refine ⟨.slice sa (gY r).length sc,?_,?_,⟨⟨nQ hu.1.1 ag (by decide) hg,hu.1.2⟩,hu.2⟩⟩
    ·rw [List.getElem?_append_right (by omega),aj];simp
    ·rw [List.getElem?_append_right (by omega),aj];simp
theorem jl.prefix {w:World} {a:Option Addr} {n c r q x:Nat} (h:jl Z w (.slice a n c) r) (he:gY r=gY q++[x]):jl Z w (.slice a (n - 1) c) q:=by
 obtain ⟨⟨⟨h1,h2⟩,h3⟩,hz⟩:=h;rw [he] at h2 h3;simp only [ib,List.map_append,List.length_append,List.map_cons,List.map_nil,List.length_cons,List.length_nil,List.length_map] at h2 h3;rcases h2 with ⟨_,h4⟩ | ⟨g,cap,cur,hv,h5,h6,h7,h8,h9,ag⟩
 ·omega
 ·injection hv with ah ai aj
  refine ⟨⟨⟨by simp [ib],.inr ⟨g,cap,cur,?_,h5,h6,?_,h8,h9,?_⟩⟩,?_⟩,fun g hg=>hz g (by rw [ah] at hg⊢;exact hg)⟩
  ·rw [ah,ai,aj];simp [ib]
  ·simp [ib];omega
  ·simp only [ib,List.length_map,Nat.mul_one,List.map_map] at ag⊢;have e:=congrArg (fun l=>l.take (gY q).length) ag;simp only [List.take_take] at e;rw [Nat.min_eq_left (by omega)] at e;rw [e,List.take_append_of_le_length (by simp),List.take_of_length_le (by simp)]
  ·simp [ib];omega
end
section
open Go.RowKit
variable {Z:Option Nat}
theorem Bt (la lb:List Nat) (j:Nat) (h:j<lb.length):lU la (lb.take (j+1)) 0=mR la (lU la (lb.take j) 0) lb[j]:=by
 unfold lU;rw [List.take_succ_eq_append_getElem h,List.foldl_append];rfl
theorem uE {a b:Nat} (ha:ie 152 a) (ua ub:Value) (w:World) (ar:jl Z w ua a) (aw:jl Z w ub b) :
  Calls Tryz.prog 229 #[.agg #[.int .i64 (iM a),ua],.agg #[.int .i64 (iM b),ub]] w fun e w'=>e=.returned (.bool (iE a b))/\gO w w':=by
 have he:=FU b ha;have aQ:=nH a;have aR:=nH b;have hs:=CE (iM a) (iM b) (by omega) (by omega);obtain ⟨sa,ca,rfl⟩:=ar.shape;obtain ⟨sb,cb,rfl⟩:=aw.shape;have aD:=af (fun i hi=>ar.get i hi);have aF:=af (fun i hi=>aw.get i hi);have aG:=kA a;have aH:=kA b;rw [he];clear he ar aw ha;generalize gY a=la at *;generalize gY b=lb at *;generalize iE (iM a) (iM b)=x1 at *;generalize iM a=ea at *;generalize iM b=eb at *;obtain ⟨na,am⟩:∃ n,n=la.length:=⟨_,rfl⟩;obtain ⟨nb,ap⟩:∃ n,n=lb.length:=⟨_,rfl⟩;rw [<-am] at aG⊢;rw [<-ap] at aH⊢;have aB:=af am;have ay:=af ap;cases x1 with
 | false =>
  have b1:(bits .andNot .i64 (ea:Int) (eb:Int) != 0)=true:=by rw [bne,hs];rfl
  clear hs am ap;go_enter Tryz.func229,Tryz.ntmps229;go_wp2;go_ret;exact ⟨rfl,((gO.refl _).alloc _).alloc _⟩
 | true =>
  have b1:(bits .andNot .i64 (ea:Int) (eb:Int) != 0)=false:=by rw [bne,hs];rfl
  clear hs am ap;go_enter Tryz.func229,Tryz.ntmps229;go_wp2;obtain ⟨L1,aq⟩:∃ L:World,L=(w.alloc (.cells #[.int .i64 ea,.slice sa na ca] 131)).alloc (.cells #[.int .i64 eb,.slice sb nb cb] 131):=⟨_,rfl⟩;have az:Hid (gO w L1):=af (by rw [aq];exact ((gO.refl _).alloc _).alloc _);have c1:L1.cell? ⟨w.heap.size,1,none⟩=some (.slice sa na ca):=by rw [aq];simp
  have aI:=af aq;clear aq;go_loopg [5,17] nb (fun kx s5 s17 wr=>∃ j k:Nat,s5=.int .i64 k/\s17=.int .i64 j/\j<=nb/\nb - j<=kx/\k<=na/\Hid (k=lU la (lb.take j) 0)/\Hid (gO L1 wr))
  case atStart=>exact ⟨0,0,rfl,rfl,Nat.zero_le _,by omega,Nat.zero_le _,af (by rw [List.take_zero];rfl),af (by rw [aI.out];exact gO.refl _)⟩
  case round =>
   obtain ⟨j,k,rfl,rfl,hj,aS,hk,aC,HK⟩:=hrel;have d1:=HK.out.cell c1;by_cases aJ:j<nb
   ·have aK:j<lb.length:=by have:=ay.out;omega
    obtain ⟨bb,ob,rfl,ah⟩:=aF.out j (by rw [<-ay.out];exact aJ);have aL:=(az.out.trans HK.out).cell ah;have ag:=Bt la lb j aK;rw [<-aC.out] at ag;obtain ⟨y,hy⟩:∃ y,y=lb[j]:=⟨_,rfl⟩;rw [<-hy] at aL ag;have aM:(j:Int)<(nb:Int):=by omega
    clear ah hy;by_cases aT:k<na
    ·have ai:k<la.length:=by have:=aB.out;omega
     obtain ⟨ba,oa,rfl,aj⟩:=aD.out k ai;have aN:=(az.out.trans HK.out).cell aj;unfold mR at ag;rw [List.getElem?_eq_getElem ai] at ag;obtain ⟨x,hx⟩:∃ x,x=la[k]:=⟨_,rfl⟩;rw [<-hx] at aN ag;have aO:(k:Int)<(na:Int):=by omega
     clear aj hx;by_cases aA:x=y
     ·subst aA;rw [if_pos rfl] at ag;have al:=af ag;clear ag;go_wp2;go_roundg (nb - (j+1))
      case measure=>omega
      case rel=>exact ⟨j+1,k+1,by go_num,by go_num,by omega,Nat.le_refl _,by omega,af al.out.symm,HK⟩
     ·rw [if_neg (by simpa using aA)] at ag;have b2:((x:Int) == (y:Int))=false:=by simp;omega
      have al:=af ag;clear ag aA;go_wp2;go_roundg (nb - (j+1))
      case measure=>omega
      case rel=>exact ⟨j+1,k,rfl,by go_num,by omega,Nat.le_refl _,by omega,af al.out.symm,HK⟩
    ·have aP:k=na:=by omega
     unfold mR at ag;rw [List.getElem?_eq_none (by have:=aB.out;omega),if_neg (by simp)] at ag;have al:=af ag;have aO:¬ (k:Int)<(na:Int):=by omega
     clear ag aP;go_wp2;go_roundg (nb - (j+1))
     case measure=>omega
     case rel=>exact ⟨j+1,k,rfl,by go_num,by omega,Nat.le_refl _,by omega,af al.out.symm,HK⟩
   ·have HF:Hid (k=lU la lb 0):=af (by have h:=aC.out;rw [show j=nb by omega,ay.out,List.take_length] at h;exact h);have aM:¬ (j:Int)<(nb:Int):=by omega
    go_wp2;go_ret;refine ⟨?_,az.out.trans HK.out⟩;rw [<-HF.out];show Ending.returned (Value.bool ((k:Int) == (na:Int)))=_;congr 2;rw [Bool.eq_iff_iff];simp;omega
theorem vh (B:Nat) (v:Value) (L:List Nat) (w:World) (hv:g_ Z w B v L):Calls Tryz.prog 167 #[v] w fun e w'=>(∃ r:Int,e=.returned (.int .i64 r)/\ni L r)/\gO w w':=by
 have HV:=af hv;have aB:=hv.len;obtain ⟨sa,sc,rfl,_⟩:=hv.slice;obtain ⟨n,hn⟩:∃ n,n=L.length:=⟨_,rfl⟩;rw [<-hn] at HV aB⊢;have HN:=af hn;clear hn hv;go_enter Tryz.func167,Tryz.ntmps167;go_wp2;go_loopg [3,8] n (fun kx s3 s8 wr=>∃ (k:Nat) (r:Int),s3=.int .i64 r/\s8=.int .i64 k/\k<=n/\n - k<=kx/\-1<=r/\r<=1000/\Hid (ni (L.take k) r)/\Hid (gO w wr))
 case atStart=>exact ⟨0,-1,rfl,rfl,Nat.zero_le _,by omega,by omega,by omega,af ni.nil,af (gO.refl _)⟩
 case round =>
  obtain ⟨k,r,rfl,rfl,hk,aJ,aC,aD,HG,HK⟩:=hrel;by_cases aK:k<n
  ·have aq:k<L.length:=by have:=HN.out;omega
   obtain ⟨b,ua,un,uc,rfl,ai,am,ap⟩:=(HV.out.kept HK.out).get k aq;have ag:ie 152 L[k]:=HV.out.lt _ (List.getElem_mem _)
   have HS:Hid (∀ s,oB L[k] s->ni (L.take (k+1)) (max r s)):=af fun s hs=>by
    rw [List.take_succ_eq_append_getElem aq];exact HG.out.snoc hs
   have ar:=af ap;have aF:(k:Int)<(n:Int):=by omega
   have aj:=kA L[k];by_cases hz:gY L[k]=[]
   ·have aG:un=0:=by rw [ai,hz];rfl
    subst aG;have HF:Hid (ni (L.take (k+1)) r):=af (by have h:=HS.out _ (El ag hz);rw [show max r (-1)=r by omega] at h;exact h);clear hz ai am ap HS aj;generalize iM L[k]=z0 at *;go_wp2_with (with_reducible refine wpList_load_mid rfl 131 _ rfl b (k*2) rfl _ _ ar.out Tryz.underlying131 rfl (by kernel_rfl) ?_);go_roundg (n - (k+1))
    case measure=>omega
    case rel=>exact ⟨k+1,r,rfl,by go_num,by omega,Nat.le_refl _,aC,aD,HF,af (HK.out.alloc _)⟩
   ·obtain ⟨l,x,ah⟩:∃ l x,gY L[k]=l++[x]:=⟨_,_,(List.dropLast_concat_getLast hz).symm⟩;have aw:un=l.length+1:=by rw [ai,ah];simp
    have ay:x∈gY L[k]:=by rw [ah];simp
    have az:=(iL.1 ay).1;obtain ⟨bu,ou,rfl,al⟩:=am.get l.length (by rw [ah];simp);have aA:(gY L[k])[l.length]'(by rw [ah];simp)=x:=by simp [ah]
    rw [aA] at al;obtain ⟨m,hm⟩:∃ m,m=l.length:=⟨_,rfl⟩;rw [<-hm] at al aw;have aL:m<=128:=by rw [ah] at aj;simp at aj;omega
    have HF:Hid (ni (L.take (k+1)) (max r x)):=af (HS.out _ (BK ag ah));have q1:(un:Int) - 1=(m:Int):=by omega
    have q2:(0:Int)<(un:Int):=by omega
    have aH:=((gO.refl wr).alloc (.cells #[.int .i64 (iM L[k]),.slice (some ⟨bu,ou,none⟩) un uc] 131)).cell al;clear hz ai am ap HS aj ah ay aA hm al aw;generalize iM L[k]=z0 at *;go_wp2_with (with_reducible refine wpList_load_mid rfl 131 _ rfl b (k*2) rfl _ _ ar.out Tryz.underlying131 rfl (by kernel_rfl) ?_);go_roundg (n - (k+1))
    case measure=>omega
    case rel=>exact ⟨k+1,max r x,by go_num,by go_num,by omega,Nat.le_refl _,by omega,by omega,HF,af (HK.out.alloc _)⟩
  ·have aI:k=n:=by omega
   have HF:Hid (ni L r):=af (by have h:=HG.out;rw [aI,HN.out,List.take_length] at h;exact h);have aF:¬ (k:Int)<(n:Int):=by omega
   go_wp2;go_ret;exact ⟨⟨_,rfl,HF.out⟩,HK.out⟩
end
section
open Go.RowKit
variable {Z:Option Nat}
theorem OwnInts.store_lt {w:World} {B g:Nat} {v:Value} {xs:List Int} (h:OwnInts w B v xs) (hg:g<B) (i:Nat) (u:Value):OwnInts (w.setCell ⟨g,i,none⟩ u) B v xs:=by
 obtain ⟨⟨h1,h2⟩,h3⟩:=h;refine ⟨⟨h1,h2.imp id ?_⟩,h3⟩;rintro ⟨g2,cap,cur,h4,h5,h6,h7⟩;exact ⟨g2,cap,cur,h4,h5,(Below.heap_setCell w ⟨g,i,none⟩ u g2 (show g2≠g by omega)).trans h6,h7⟩
theorem gS.below {w w':World} {B g:Nat} {e:TypeId} {xs:List Value} (h:gS w g e xs) (hb:Below B w w') (hg:g<B):gS w' g e xs:=h.same (hb.block g hg)
theorem sk (p:Nat->Bool) (l:List Nat) (k:Nat) (h:k<l.length):(l.take (k+1)).filter p=(l.take k).filter p++(if p l[k]=true then [l[k]] else []):=by
 rw [List.take_succ_eq_append_getElem h,List.filter_append];cases hp:p l[k] <;> simp [hp]
theorem lV (p:Nat->Bool) (l:List Nat) (k:Nat):((l.take k).filter p).length<=l.length :=
 Nat.le_trans (List.length_filter_le ..) (by rw [List.length_take];omega)
theorem D_ (r a V:Nat) (v:Value) (T:Int) (hs:∃ a n c,v=.slice a n c) (hV:V<=24) (ha:a<V) (u:Value) (w:World) (hu:jl Z w u r) :
  Calls Tryz.prog 166 #[.agg #[.int .i64 V,v,.int .i64 T],.agg #[.int .i64 (iM r),u],.int .i64 a] w fun e w'=>(∃ u',e=.returned (.agg #[.int .i64 (iM (r ||| 2^a)),u'])/\jl Z w' u' (r ||| 2^a))/\gO w w':=by
 obtain ⟨sa,n,c,rfl⟩:=hs;have h1:(a:Int)<(V:Int):=by omega
 have h2:¬ (a:Int)<0:=by omega
 have p1:=Cu a (by omega);have hp:=zd (show a<24 by omega)
 have HU:Hid (∀ W,gO w W->jl Z W u (r ||| 2^a)):=af fun W hk=>by
  have:=hu.kept hk;unfold jl at this⊢;rw [AO r a (by omega)];exact this
 rw [(Co (show a<24 by omega)).1];obtain ⟨ua,uc,rfl⟩:=hu.shape;obtain ⟨z,hz⟩:∃ z,z=2^a:=⟨_,rfl⟩;have ag:=nH r;generalize iM r=e0 at *;rw [<-hz] at p1 hp HU⊢;have p2:=AV e0 z (by omega) (by omega);clear hz hu;obtain ⟨y,hy⟩:∃ y,y=e0 ||| z:=⟨_,rfl⟩
 rw [<-hy] at p2⊢;clear hy;generalize (gY r).length=un at *;go_enter Tryz.func166,Tryz.ntmps166;go_wp2;go_region;all_goals go_wp2
 all_goals exact bodyPost_ret (v:=.agg #[.int .i64 y,.slice ua un uc]) (by simp [results,Tryz.results166,go_sem]) rfl ⟨⟨_,rfl,HU.out _ (by first | exact ((((gO.refl _).alloc _).alloc _).alloc _) | exact ((((gO.refl _).alloc _).alloc _).alloc _).drew)⟩,by first | exact ((((gO.refl _).alloc _).alloc _).alloc _) | exact ((((gO.refl _).alloc _).alloc _).alloc _).drew⟩
theorem zz (r j V:Nat) (v:Value) (T:Int) (hs:∃ a n c,v=.slice a n c) (hV:V<=24) (hj:j<128) (u:Value) (w:World) (hZ:∀ z,Z=some z->z<w.heap.size) (hu:jl Z w u r) :
  Calls Tryz.prog 166 #[.agg #[.int .i64 V,v,.int .i64 T],.agg #[.int .i64 (iM r),u],.int .i64 (V+j:Nat)] w fun e w'=>(∃ u',e=.returned (.agg #[.int .i64 (iM (r ||| 2^(24+j))),u'])/\jl Z w' u' (r ||| 2^(24+j)))/\gO w w':=by
 obtain ⟨sf,nf,cf,rfl⟩:=hs;rw [Jm];have ay:=af (xi r j hj)
 have HZ:Hid (∀ {W:World} {v:Value} {xs:List Int},OwnInts W (w.heap.size+4) v xs->∀ g,v.ownBlock=some g->Z≠some g):=af fun ho g hg hz=>by
  have h1:=(ho.1.lt g hg).1;have h2:=hZ g hz;omega
 obtain ⟨sa,ca,rfl⟩:=hu.shape;have HG:=af (fun i hi=>hu.get i hi);have aT:=kA r;obtain ⟨t,ht⟩:∃ t,t=r ||| 2^(24+j):=⟨_,rfl⟩
 rw [<-ht] at ay⊢;clear hu ht hZ;generalize gY r=l at *;generalize iM r=ev at *;obtain ⟨na,aD⟩:∃ n,n=l.length:=⟨_,rfl⟩;rw [<-aD] at aT⊢;have aw:=af aD;obtain ⟨a,aP⟩:∃ a,a=V+j:=⟨_,rfl⟩;rw [<-aP];have h1:¬ (a:Int)<(V:Int):=by omega
 have h3:IntKind.i64.wrap ((a:Int) - (V:Int))=(j:Int):=by rw [IntKind.wrap_i64];omega
 have h4:(a:Int) - (V:Int)=(j:Int):=by omega
 clear aD aP;go_enter Tryz.func166,Tryz.ntmps166;go_wp2;obtain ⟨L0,aB⟩:∃ L:World,L=((w.alloc (.cells #[.int .i64 V,.slice sf nf cf,.int .i64 T] 41)).alloc (.cells #[.int .i64 ev,.slice sa na ca] 131)).alloc (.cells #[.int .i64 0,.slice none 0 0] 131):=⟨_,rfl⟩;have aF:L0.heap.size=w.heap.size+3:=by rw [aB];simp
 have aG:Hid (gO w L0):=af (by rw [aB];exact (((gO.refl _).alloc _).alloc _).alloc _);have c1:L0.cell? ⟨w.heap.size+1,1,none⟩=some (.slice sa na ca):=by rw [aB];exact ((gO.refl _).alloc _).cell (by simp)
 have aU:Hid (gS L0 (w.heap.size+1+1) 131 [.int .i64 0,.slice none 0 0]):=af (by rw [aB];have:=gS.made ((w.alloc (.cells #[.int .i64 V,.slice sf nf cf,.int .i64 T] 41)).alloc (.cells #[.int .i64 ev,.slice sa na ca] 131)) #[.int .i64 0,.slice none 0 0] 131;simpa using this);have aV:Hid (gS (L0.alloc (.cells #[.int .i64 ev,.slice none 0 0] 131)) (w.heap.size+1+1+1) 131 [.int .i64 ev,.slice none 0 0]):=af (by have:=gS.made L0 #[.int .i64 ev,.slice none 0 0] 131;rw [aF] at this;exact this);have aQ:=af aB;clear aB;go_loopg [35] na (fun kx s35 wr=>∃ (k:Nat) (vo:Value),s35=.int .i64 k/\k<=na/\na - k<=kx/\Hid (OwnInts wr (w.heap.size+4) vo (ib ((l.take k).filter (fun x=>decide (x<j)))))/\Hid (gS wr (w.heap.size+1+1+1) 131 [.int .i64 ev,vo])/\Hid (gO L0 wr))
 case atStart=>exact ⟨0,_,rfl,Nat.zero_le _,by omega,af (OwnInts.nil _ _),af (by have:=aV.out;rw [aQ.out] at this;exact this),af (by rw [aQ.out];exact (gO.refl _).alloc _)⟩
 case round =>
  obtain ⟨k,vo,rfl,hk,aW,HO,HR,HK⟩:=hrel;have d1:=HK.out.cell c1;have aH:=HR.out.lt;have m1:=HR.out.cell (i:=1) (by simp);have f1:=HR.out.free 1;simp only [List.getElem_cons_succ,List.getElem_cons_zero] at m1;obtain ⟨oa,on,oc,rfl⟩:=HO.out.ints.shape;by_cases aI:k<na
  ·have aJ:k<l.length:=by have:=aw.out;omega
   obtain ⟨bb,ob,rfl,al⟩:=HG.out k (by rw [<-aw.out];exact aI);have aK:=(aG.out.trans HK.out).cell al;have ah:=sk (fun x=>decide (x<j)) l k aJ;have am:=lV (fun x=>decide (x<j)) l k;obtain ⟨x,hx⟩:∃ x,x=l[k]:=⟨_,rfl⟩;rw [<-hx] at aK ah;have aL:(k:Int)<(na:Int):=by omega
   clear al hx;by_cases aC:x<j
   ·rw [if_pos (by simpa using aC)] at ah;have ai:(ib ((l.take k).filter (fun x=>decide (x<j)))).length<17592186044416:=by have:=aw.out;simp [ib] at am⊢;omega
    have ap:ib ((l.take (k+1)).filter (fun x=>decide (x<j)))=ib ((l.take k).filter (fun x=>decide (x<j)))++[(x:Int)]:=by rw [ah];simp [ib]
    have aM:=af ap;have az:(x:Int)<(j:Int):=by omega
    clear ah ap am;generalize aX:ib ((l.take k).filter (fun x=>decide (x<j)))=fk at *;go_wp2_with (at_builtin;refine kp rfl _ _ rfl (w.heap.size+4) _ fk rfl (HO.out.kept ((gO.refl _).alloc _)) _ (x:Int) rfl (by simp) ai (by simp;omega) ?_;intro v7 w7 ag _ aq;have aj:=af ((HR.out.kept ((gO.refl wr).alloc _)).below aq (by omega));have O7:=af ag;have aA:Hid (gO L0 w7):=af (Below.trans (HK.out.alloc _) (Below.mono aq (by omega)));have n1:=aj.out.cell (i:=1) (by simp);have g1:=aj.out.free 1;obtain ⟨pa,pn,pc,rfl⟩:=ag.ints.shape;clear ag aq);go_roundg (na - (k+1))
    case measure=>omega
    case rel=>exact ⟨k+1,_,by go_num,by omega,Nat.le_refl _,af (by rw [aM.out];exact O7.out.store_lt (by omega) _ _),af (aj.out.store 1 _),af (aA.out.store (by omega) 1 _)⟩
   ·rw [if_neg (by simpa using aC),List.append_nil] at ah;have aN:Hid (OwnInts wr (w.heap.size+4) (.slice oa on oc) (ib ((l.take (k+1)).filter (fun x=>decide (x<j))))):=af (by rw [ah];exact HO.out);have az:¬ (x:Int)<(j:Int):=by omega
    clear ah am;go_wp2;go_roundg (na - (k+1))
    case measure=>omega
    case rel=>exact ⟨k+1,_,by go_num,by omega,Nat.le_refl _,aN,HR,HK⟩
  ·have aL:¬ (k:Int)<(na:Int):=by omega
   have am:=lV (fun x=>decide (x<j)) l k;have aO:Hid (OwnInts wr (w.heap.size+4) (.slice oa on oc) (ib (l.filter (fun x=>decide (x<j))))):=af (by have h:=HO.out;rw [show k=na by omega,aw.out,List.take_length] at h;exact h);rw [show k=na by omega,aw.out,List.take_length] at am;have ai:(ib (l.filter (fun x=>decide (x<j)))).length<17592186044416:=by have:=aw.out;simp [ib] at am⊢;omega
   obtain ⟨fa,aR⟩:∃ fa,fa=l.filter (fun x=>decide (x<j)):=⟨_,rfl⟩;rw [<-aR] at ay aO ai am;clear aR HO;go_wp2_with (at_builtin;refine kp rfl _ _ rfl (w.heap.size+4) _ (ib fa) rfl (aO.out.kept ((gO.refl _).alloc _)) _ (j:Int) rfl (by simp) ai (by simp;omega) ?_;intro v7 w7 ag _ aq;have aj:=af ((HR.out.kept ((gO.refl wr).alloc _)).below aq (by omega));have O7:=af ag;have aA:Hid (gO L0 w7):=af (Below.trans (HK.out.alloc _) (Below.mono aq (by omega)));have n1:=aj.out.cell (i:=1) (by simp);have g1:=aj.out.free 1;obtain ⟨pa,pn,pc,rfl⟩:=ag.ints.shape;have q1:=(aA.out.cell c1);clear ag aq);have aY:Hid (OwnInts (w7.setCell ⟨w.heap.size+1+1+1,1,none⟩ (.slice pa pn pc)) (w.heap.size+4) (.slice pa pn pc) (ib (fa++[j]))):=af (by have:=O7.out.store_lt (g:=w.heap.size+1+1+1) (by omega) 1 (.slice pa pn pc);simpa [ib] using this);have aZ:Hid (gS (w7.setCell ⟨w.heap.size+1+1+1,1,none⟩ (.slice pa pn pc)) (w.heap.size+1+1+1) 131 [.int .i64 ev,.slice pa pn pc]):=af (aj.out.store 1 _);have a_:Hid (gO L0 (w7.setCell ⟨w.heap.size+1+1+1,1,none⟩ (.slice pa pn pc))):=af (aA.out.store (by omega) 1 _);clear aO HR HK O7 aj aA d1 m1 f1 n1 g1 q1;go_loopg [58] na (fun kx s58 wr=>∃ (k:Nat) (vo:Value),s58=.int .i64 k/\k<=na/\na - k<=kx/\Hid (OwnInts wr (w.heap.size+4) vo (ib ((fa++[j])++(l.take k).filter (fun x=>decide (j<x)))))/\Hid (gS wr (w.heap.size+1+1+1) 131 [.int .i64 ev,vo])/\Hid (gO L0 wr))
   case atStart=>exact ⟨0,_,rfl,Nat.zero_le _,by omega,af (by have:=aY.out;simpa using this),aZ,a_⟩
   case round =>
    obtain ⟨k,vo,rfl,hk,aW,HO,HR,HK⟩:=hrel;have d1:=HK.out.cell c1;have aH:=HR.out.lt;have m1:=HR.out.cell (i:=1) (by simp);have f1:=HR.out.free 1;simp only [List.getElem_cons_succ,List.getElem_cons_zero] at m1;obtain ⟨oa,on,oc,rfl⟩:=HO.out.ints.shape;by_cases aI:k<na
    ·have aJ:k<l.length:=by have:=aw.out;omega
     obtain ⟨bb,ob,rfl,al⟩:=HG.out k (by rw [<-aw.out];exact aI);have aK:=(aG.out.trans HK.out).cell al;have ah:=sk (fun x=>decide (j<x)) l k aJ;have am:=lV (fun x=>decide (j<x)) l k;obtain ⟨x,hx⟩:∃ x,x=l[k]:=⟨_,rfl⟩;rw [<-hx] at aK ah;have aL:(k:Int)<(na:Int):=by omega
     clear al hx;by_cases aC:j<x
     ·rw [if_pos (by simpa using aC)] at ah;have ai:(ib ((fa++[j])++(l.take k).filter (fun x=>decide (j<x)))).length<17592186044416:=by have:=aw.out;simp [ib] at am⊢;omega
      have ap:ib ((fa++[j])++(l.take (k+1)).filter (fun x=>decide (j<x)))=ib ((fa++[j])++(l.take k).filter (fun x=>decide (j<x)))++[(x:Int)]:=by rw [ah];simp [ib]
      have aM:=af ap;have az:(j:Int)<(x:Int):=by omega
      clear ah ap am;generalize aX:ib ((fa++[j])++(l.take k).filter (fun x=>decide (j<x)))=fk at *;go_wp2_with (at_builtin;refine kp rfl _ _ rfl (w.heap.size+4) _ fk rfl (HO.out.kept ((gO.refl _).alloc _)) _ (x:Int) rfl (by simp) ai (by simp;omega) ?_;intro v7 w7 ag _ aq;have aj:=af ((HR.out.kept ((gO.refl wr).alloc _)).below aq (by omega));have O7:=af ag;have aA:Hid (gO L0 w7):=af (Below.trans (HK.out.alloc _) (Below.mono aq (by omega)));have n1:=aj.out.cell (i:=1) (by simp);have g1:=aj.out.free 1;obtain ⟨pa,pn,pc,rfl⟩:=ag.ints.shape;clear ag aq);go_roundg (na - (k+1))
      case measure=>omega
      case rel=>exact ⟨k+1,_,by go_num,by omega,Nat.le_refl _,af (by rw [aM.out];exact O7.out.store_lt (by omega) _ _),af (aj.out.store 1 _),af (aA.out.store (by omega) 1 _)⟩
     ·rw [if_neg (by simpa using aC),List.append_nil] at ah;have aN:Hid (OwnInts wr (w.heap.size+4) (.slice oa on oc) (ib ((fa++[j])++(l.take (k+1)).filter (fun x=>decide (j<x))))):=af (by rw [ah];exact HO.out);have az:¬ (j:Int)<(x:Int):=by omega
      clear ah am;go_wp2;go_roundg (na - (k+1))
      case measure=>omega
      case rel=>exact ⟨k+1,_,by go_num,by omega,Nat.le_refl _,aN,HR,HK⟩
    ·have aL:¬ (k:Int)<(na:Int):=by omega
     have HN:Hid (OwnInts wr (w.heap.size+4) (.slice oa on oc) (ib (gY t))):=af (by have h:=HO.out;rw [show k=na by omega,aw.out,List.take_length] at h;rw [ay.out];simpa using h);have ar:=af (aU.out.kept HK.out);have p0:=ar.out.cell (i:=0) (by simp);have p1:=ar.out.cell (i:=1) (by simp);have p2:=ar.out.free 0;have p3:=ar.out.free 1;have m0:=HR.out.cell (i:=0) (by simp);simp only [List.getElem_cons_succ,List.getElem_cons_zero] at m0 p0 p1;clear HO;go_wp2;have aS:=af ((ar.out.store 0 (.int .i64 ev)).store 1 (.slice oa on oc));have r0:=aS.out.cell (i:=0) (by simp);have r1:=aS.out.cell (i:=1) (by simp);simp only [List.set_cons_succ,List.set_cons_zero,List.getElem_cons_succ,List.getElem_cons_zero] at r0 r1;exact bodyPost_ret (v:=.agg #[.int .i64 ev,.slice oa on oc]) (by simp [results,Tryz.results166,go_sem,r0,r1]) rfl ⟨⟨_,rfl,OwnInts.mono ((HN.out.store_lt (by omega) 0 _).store_lt (by omega) 1 _) (Nat.zero_le _),HZ.out HN.out⟩,((aG.out.trans HK.out).store (by omega) 0 _).store (by omega) 1 _⟩
theorem uF (r V:Nat) (v:Value) (T:Int) (hs:∃ a n c,v=.slice a n c) (hV:V<=24) (a:Int) (ha:0<=a/\a<(V:Int)+128) (u:Value) (w:World) (hZ:∀ z,Z=some z->z<w.heap.size) (hu:jl Z w u r) :
  Calls Tryz.prog 166 #[.agg #[.int .i64 V,v,.int .i64 T],.agg #[.int .i64 (iM r),u],.int .i64 a] w fun e w'=>(∃ u',e=.returned (.agg #[.int .i64 (iM (iv V r a)),u'])/\jl Z w' u' (iv V r a))/\gO w w':=by
 unfold iv cond;by_cases h:a<V
 ·rw [if_pos h];have:=D_ r a.toNat V v T hs hV (by omega) u w hu;rw [show ((a.toNat:Nat):Int)=a by omega] at this;exact this
 ·rw [if_neg h];have:=zz r (a - V).toNat V v T hs hV (by omega) u w hZ hu;rw [show ((V+(a - V).toNat:Nat):Int)=a by omega] at this;exact this
end
section
open Go.RowKit
variable {Z:Option Nat}
theorem jJ {B:Nat} {w w':World} (h:Below B w w') {b o:Nat} (hb:b<B) {v:Value} (hc:w.cell? ⟨b,o,none⟩=some v):w'.cell? ⟨b,o,none⟩=some v:=(Below.cell h hb).trans hc
theorem zi (V m r:Nat) (T room:Int) (fa aa:Option Addr) (fn fc ac:Nat) (u:Value) (W:World) (hu:jl Z W u r) (hr:ie 152 r) :
  Calls Tryz.prog 228 #[.agg #[.int .i64 V,.slice fa fn fc,.int .i64 T],.agg #[.int .i64 (iM r),u],.slice aa m ac,.int .i64 0,.int .i64 room] W fun e w'=>(∃ v',e=.returned v'/\g_ Z w' W.heap.size v' [r])/\gO W w':=by
 have HU:=af hu;obtain ⟨ua,uc,rfl⟩:=hu.shape;have HR:=af hr;obtain ⟨x0,ag⟩:∃ x,x=iM r:=⟨_,rfl⟩;obtain ⟨un,ah⟩:∃ x,x=(gY r).length:=⟨_,rfl⟩
 have HX:Hid (∀ W1:World,W.heap.size<=W1.heap.size->gO W W1->g_ Z (W1.alloc (.cells #[.int .i64 x0,.slice ua un uc] 131)) W.heap.size (.slice (some ⟨W1.heap.size,0,none⟩) 1 1) [r]):=af fun W1 h hk=>by
  refine g_.one (u:=.slice ua un uc) (by rw [<-ag];exact heap_alloc_new W1 _) ?_ HR.out h;have:=HU.out.kept (hk.trans ((gO.refl W1).alloc (.cells #[.int .i64 x0,.slice ua un uc] 131)));rw [<-ah] at this;exact this
 rw [<-ag,<-ah];clear hu hr ag ah HU;go_enter Tryz.func228,Tryz.ntmps228;go_wp2;go_ret;refine ⟨⟨_,rfl,?_⟩,(((gO.refl _).alloc _).alloc _).alloc _⟩;have:=HX.out ((W.alloc (.cells #[.int .i64 V,.slice fa fn fc,.int .i64 T] 41)).alloc (.cells #[.int .i64 x0,.slice ua un uc] 131)) (by simp;omega) (((gO.refl _).alloc _).alloc _);simpa using this
theorem zh (V m k x0 un:Nat) (T room:Int) (fa aa ua:Option Addr) (fn fc ac uc:Nat) (W:World) (hk:k≠0) (h:m<k\/room<0) :
  Calls Tryz.prog 228 #[.agg #[.int .i64 V,.slice fa fn fc,.int .i64 T],.agg #[.int .i64 x0,.slice ua un uc],.slice aa m ac,.int .i64 k,.int .i64 room] W fun e w'=>e=.returned (.slice none 0 0)/\gO W w':=by
 have ag:((k:Int) == 0)=false:=by simp;omega
 by_cases h1:m<k
 ·have h1':(m:Int)<(k:Int):=by omega
  clear h hk h1;go_enter Tryz.func228,Tryz.ntmps228;go_wp2;go_ret;exact ⟨rfl,((gO.refl _).alloc _).alloc _⟩
 ·have h1':¬ (m:Int)<(k:Int):=by omega
  have h2:room<0:=h.resolve_left h1;clear h hk h1;go_enter Tryz.func228,Tryz.ntmps228;go_wp2;go_ret;exact ⟨rfl,((gO.refl _).alloc _).alloc _⟩
theorem Gn (V m k k1 b o ac x0 y0 un r1:Nat) (T a room room2:Int) (fa ua:Option Addr) (fn fc uc:Nat) (tv:Value) (M1 M2:List Nat) (W:World) (hk:1<=k) (aU:k<=m) (hm:m<=200) (bp:m<=ac) (aV:k1=k - 1)
  (a_:0<=room/\room<=10000) (aM:M1.length<=10001) (aW:M2.length<=9999) (aN:room2=room - M1.length)
  (bd:(2<=ac/\tv=.slice (some ⟨b,o+1,none⟩) (m - 1) (ac - 1))\/(ac=1/\tv=.slice (some ⟨b,o,none⟩) 0 0))
  (ar:W.cell? ⟨b,o,none⟩=some (.int .i64 a))
  (ap:∀ W',gO W W'->Calls Tryz.prog 166 #[.agg #[.int .i64 V,.slice fa fn fc,.int .i64 T],.agg #[.int .i64 x0,.slice ua un uc],.int .i64 a] W' fun e w'=>(∃ u',e=.returned (.agg #[.int .i64 y0,u'])/\jl Z w' u' r1)/\gO W' w')
  (hc1:∀ u' W',gO W W'->jl Z W' u' r1->Calls Tryz.prog 228 #[.agg #[.int .i64 V,.slice fa fn fc,.int .i64 T],.agg #[.int .i64 y0,u'],tv,.int .i64 k1,.int .i64 room] W' fun e w'=>(∃ v',e=.returned v'/\g_ Z w' W'.heap.size v' M1)/\gO W' w')
  (hc2:∀ W',gO W W'->Calls Tryz.prog 228 #[.agg #[.int .i64 V,.slice fa fn fc,.int .i64 T],.agg #[.int .i64 x0,.slice ua un uc],tv,.int .i64 k,.int .i64 room2] W' fun e w'=>(∃ v',e=.returned v'/\g_ Z w' W'.heap.size v' M2)/\gO W' w') :
  Calls Tryz.prog 228 #[.agg #[.int .i64 V,.slice fa fn fc,.int .i64 T],.agg #[.int .i64 x0,.slice ua un uc],.slice (some ⟨b,o,none⟩) m ac,.int .i64 k,.int .i64 room] W fun e w'=>(∃ v',e=.returned v'/\g_ Z w' W.heap.size v' (M1++M2))/\gO W w':=by
 obtain ⟨w1,aq⟩:∃ w1,w1=(W.alloc (.cells #[.int .i64 V,.slice fa fn fc,.int .i64 T] 41)).alloc (.cells #[.int .i64 x0,.slice ua un uc] 131):=⟨_,rfl⟩;have aw:gO W w1:=by rw [aq];exact ((gO.refl _).alloc _).alloc _
 have q0:w1.cell? ⟨W.heap.size,0,none⟩=some (.int .i64 V):=by rw [aq];simp
 have q1:w1.cell? ⟨W.heap.size,1,none⟩=some (.slice fa fn fc):=by rw [aq];simp
 have q2:w1.cell? ⟨W.heap.size,2,none⟩=some (.int .i64 T):=by rw [aq];simp
 have q3:w1.cell? ⟨W.heap.size+1,0,none⟩=some (.int .i64 x0):=by rw [aq];simp
 have q4:w1.cell? ⟨W.heap.size+1,1,none⟩=some (.slice ua un uc):=by rw [aq];simp
 have qa:=aw.cell ar;have aI:Hid (∀ W',gO w1 W'->Calls Tryz.prog 166 #[.agg #[.int .i64 V,.slice fa fn fc,.int .i64 T],.agg #[.int .i64 x0,.slice ua un uc],.int .i64 a] W' fun e w'=>(∃ u',e=.returned (.agg #[.int .i64 y0,u'])/\jl Z w' u' r1)/\gO W' w'):=af fun W' hk=>ap W' (aw.trans hk)
 have aJ:Hid (∀ u' W',gO w1 W'->jl Z W' u' r1->Calls Tryz.prog 228 #[.agg #[.int .i64 V,.slice fa fn fc,.int .i64 T],.agg #[.int .i64 y0,u'],tv,.int .i64 k1,.int .i64 room] W' fun e w'=>(∃ v',e=.returned v'/\g_ Z w' W'.heap.size v' M1)/\gO W' w'):=af fun u' W' hk hn=>hc1 u' W' (aw.trans hk) hn
 have aK:Hid (∀ W',gO w1 W'->Calls Tryz.prog 228 #[.agg #[.int .i64 V,.slice fa fn fc,.int .i64 T],.agg #[.int .i64 x0,.slice ua un uc],tv,.int .i64 k,.int .i64 room2] W' fun e w'=>(∃ v',e=.returned v'/\g_ Z w' W'.heap.size v' M2)/\gO W' w'):=af fun W' hk=>hc2 W' (aw.trans hk)
 have aB:=af aw;have ai:Hid (w1.heap.size=W.heap.size+2):=af (by rw [aq];simp);have aX:Hid (w1=(W.alloc (.cells #[.int .i64 V,.slice fa fn fc,.int .i64 T] 41)).alloc (.cells #[.int .i64 x0,.slice ua un uc] 131)):=af aq;obtain ⟨n1,aL⟩:∃ n1,n1=M1.length:=⟨_,rfl⟩;rw [<-aL] at aM aN;have aY:=af aL;have ay:M1.length+M2.length<=20000:=by omega
 have aC:=af ay;have bf:¬ (m:Int)<(k:Int):=by omega
 have bq:((k:Int) == 0)=false:=by simp;omega
 have br:(0:Int)<(m:Int):=by omega
 have bt:1<=(m:Int):=by omega
 have bw:0<m:=by omega
 have bz:(k:Int)<=200:=by omega
 have bh:1<=(k:Int):=by omega
 have bi:1<=(ac:Int):=by omega
 have bA:(k:Int) - 1=(k1:Int):=by omega
 have bB:room - (n1:Int)=room2:=by omega
 have bC:IntKind.i64.wrap room2=room2:=by rw [IntKind.wrap_i64];omega
 have aD:IntKind.i64.wrap (k1:Int)=(k1:Int):=by rw [IntKind.wrap_i64];omega
 obtain ⟨bj,bk⟩:=a_;have bD:¬ room<0:=by omega
 rcases bd with ⟨aZ,rfl⟩ | ⟨aZ,rfl⟩
 ·have bl:¬ ac=1:=(by omega);have bo:¬ (ac:Int)=1:=(by omega);clear hc1 hc2 ap aw ar aV hk aU aq aN aL ay aM aW;go_enter Tryz.func228,Tryz.ntmps228;go_wp2;rw [<-aX.out];go_upto_region 5 with fail
  go_cut [11] (fun p11 wx=>∃ v1,p11=v1/\Hid (g_ Z wx w1.heap.size v1 M1)/\Hid (gO w1 wx))
  case first =>
   go_region_held3 (fun w'=>w'.cell? ⟨W.heap.size,0,none⟩=some (.int .i64 V)/\w'.cell? ⟨W.heap.size,1,none⟩=some (.slice fa fn fc)/\w'.cell? ⟨W.heap.size,2,none⟩=some (.int .i64 T)/\w'.cell? ⟨W.heap.size+1,0,none⟩=some (.int .i64 x0)/\w'.cell? ⟨W.heap.size+1,1,none⟩=some (.slice ua un uc)/\w'.cell? ⟨b,o,none⟩=some (.int .i64 a))
    (first | go_keep | exact ⟨ah.cell q0,ah.cell q1,ah.cell q2,ah.cell q3,ah.cell q4,ah.cell qa⟩ | exact ⟨ag.cell (ah.cell q0),ag.cell (ah.cell q1),ag.cell (ah.cell q2),ag.cell (ah.cell q3),ag.cell (ah.cell q4),ag.cell (ah.cell qa)⟩)
    (first | (go_at_call 166;refine (aI.out _ (gO.refl _).drew).mono ?_;rintro e w3 ⟨⟨u3,rfl,az⟩,ah⟩;obtain ⟨ua3,uc3,rfl⟩:=az.shape;have aO:=af az;clear az) | (go_at_call 228;refine (aJ.out _ _ ((gO.refl _).drew.trans ah) aO.out).mono ?_;rintro e w4 ⟨⟨v4,rfl,al⟩,ag⟩;obtain ⟨va4,vc4,rfl,_⟩:=al.slice;have aA:=af al;clear al))
   all_goals
    have aP:=af (aA.out.mono (B':=w1.heap.size) (by have h2:=((gO.refl w1).drew.trans ah).size;omega));have aQ:=af (((gO.refl w1).drew.trans ah).trans ag);clear ah ag;go_wp2_with fail;go_meet;exact ⟨_,rfl,aP,aQ⟩
  case rest =>
   obtain ⟨v1,rfl,aF,aj⟩:=hcut;obtain ⟨va1,vc1,aG,_⟩:=aF.out.slice;rw [<-aY.out] at aG;subst aG;have g0:=aj.out.cell q0;have g1:=aj.out.cell q1;have g2:=aj.out.cell q2;have g3:=aj.out.cell q3;have g4:=aj.out.cell q4;have aR:Hid (∀ W',gO wc W'->Calls Tryz.prog 228 #[.agg #[.int .i64 V,.slice fa fn fc,.int .i64 T],.agg #[.int .i64 x0,.slice ua un uc],.slice (some ⟨b,o+1,none⟩) (m - 1) (ac - 1),.int .i64 k,.int .i64 room2] W' fun e w'=>(∃ v',e=.returned v'/\g_ Z w' W'.heap.size v' M2)/\gO W' w'):=af fun W' hk=>aK.out W' (aj.out.trans hk)
   have aS:Hid (w1.heap.size<=wc.heap.size):=af aj.out.size;clear q0 q1 q2 q3 q4 qa aJ aK aI aD;go_upto_region 6 with fail
   go_region_held3 (fun w'=>w'.cell? ⟨W.heap.size,0,none⟩=some (.int .i64 V)/\w'.cell? ⟨W.heap.size,1,none⟩=some (.slice fa fn fc)/\w'.cell? ⟨W.heap.size,2,none⟩=some (.int .i64 T)/\w'.cell? ⟨W.heap.size+1,0,none⟩=some (.int .i64 x0)/\w'.cell? ⟨W.heap.size+1,1,none⟩=some (.slice ua un uc))
    (first | go_keep | exact ⟨ag.cell g0,ag.cell g1,ag.cell g2,ag.cell g3,ag.cell g4⟩ | exact ⟨jJ am.out (by have:=ai.out;omega) (ag.cell g0),jJ am.out (by have:=ai.out;omega) (ag.cell g1),jJ am.out (by have:=ai.out;omega) (ag.cell g2),jJ am.out (by have:=ai.out;omega) (ag.cell g3),jJ am.out (by have:=ai.out;omega) (ag.cell g4)⟩)
    (first
     | (go_at_call 228;refine (aR.out _ ((gO.refl _).drew)).mono ?_;rintro e w4 ⟨⟨v4,rfl,al⟩,ag⟩;obtain ⟨va4,vc4,rfl,_⟩:=al.slice;have aA:=af al;clear al)
     | (refine zK (by rfl) _ _ (by rfl) w1.heap.size (.slice va1 n1 vc1) M1 (by rfl) (aF.out.kept ((gO.refl _).drew.trans ag)) (.slice va4 M2.length vc4) M2 (by rfl) (aA.out.mono (Nat.zero_le _)) aC.out (by have h1:=aS.out;have h2:=((gO.refl wc).drew.trans ag).size;omega) ?_;intro v7 w7 h7 aH;have O7:=af h7;have am:=af aH;clear h7 aH))
   all_goals
    obtain ⟨va7,vc7,aT,_⟩:=O7.out.slice;subst aT;go_wp2;go_ret;exact ⟨⟨_,rfl,O7.out.mono aB.out.size⟩,(aB.out.trans (aj.out.trans ((gO.refl wc).drew.trans ag))).app (am.out.mono aB.out.size)⟩
 ·subst aZ
  skip
  clear hc1 hc2 ap aw ar aV hk aU aq aN aL ay aM aW;go_enter Tryz.func228,Tryz.ntmps228;go_wp2;rw [<-aX.out];go_upto_region 5 with fail
  go_cut [11] (fun p11 wx=>∃ v1,p11=v1/\Hid (g_ Z wx w1.heap.size v1 M1)/\Hid (gO w1 wx))
  case first =>
   go_region_held3 (fun w'=>w'.cell? ⟨W.heap.size,0,none⟩=some (.int .i64 V)/\w'.cell? ⟨W.heap.size,1,none⟩=some (.slice fa fn fc)/\w'.cell? ⟨W.heap.size,2,none⟩=some (.int .i64 T)/\w'.cell? ⟨W.heap.size+1,0,none⟩=some (.int .i64 x0)/\w'.cell? ⟨W.heap.size+1,1,none⟩=some (.slice ua un uc)/\w'.cell? ⟨b,o,none⟩=some (.int .i64 a))
    (first | go_keep | exact ⟨ah.cell q0,ah.cell q1,ah.cell q2,ah.cell q3,ah.cell q4,ah.cell qa⟩ | exact ⟨ag.cell (ah.cell q0),ag.cell (ah.cell q1),ag.cell (ah.cell q2),ag.cell (ah.cell q3),ag.cell (ah.cell q4),ag.cell (ah.cell qa)⟩)
    (first | (go_at_call 166;refine (aI.out _ (gO.refl _).drew).mono ?_;rintro e w3 ⟨⟨u3,rfl,az⟩,ah⟩;obtain ⟨ua3,uc3,rfl⟩:=az.shape;have aO:=af az;clear az) | (go_at_call 228;refine (aJ.out _ _ ((gO.refl _).drew.trans ah) aO.out).mono ?_;rintro e w4 ⟨⟨v4,rfl,al⟩,ag⟩;obtain ⟨va4,vc4,rfl,_⟩:=al.slice;have aA:=af al;clear al))
   all_goals
    have aP:=af (aA.out.mono (B':=w1.heap.size) (by have h2:=((gO.refl w1).drew.trans ah).size;omega));have aQ:=af (((gO.refl w1).drew.trans ah).trans ag);clear ah ag;go_wp2_with fail;go_meet;exact ⟨_,rfl,aP,aQ⟩
  case rest =>
   obtain ⟨v1,rfl,aF,aj⟩:=hcut;obtain ⟨va1,vc1,aG,_⟩:=aF.out.slice;rw [<-aY.out] at aG;subst aG;have g0:=aj.out.cell q0;have g1:=aj.out.cell q1;have g2:=aj.out.cell q2;have g3:=aj.out.cell q3;have g4:=aj.out.cell q4;have aR:Hid (∀ W',gO wc W'->Calls Tryz.prog 228 #[.agg #[.int .i64 V,.slice fa fn fc,.int .i64 T],.agg #[.int .i64 x0,.slice ua un uc],.slice (some ⟨b,o,none⟩) 0 0,.int .i64 k,.int .i64 room2] W' fun e w'=>(∃ v',e=.returned v'/\g_ Z w' W'.heap.size v' M2)/\gO W' w'):=af fun W' hk=>aK.out W' (aj.out.trans hk)
   have aS:Hid (w1.heap.size<=wc.heap.size):=af aj.out.size;clear q0 q1 q2 q3 q4 qa aJ aK aI aD;go_upto_region 6 with fail
   go_region_held3 (fun w'=>w'.cell? ⟨W.heap.size,0,none⟩=some (.int .i64 V)/\w'.cell? ⟨W.heap.size,1,none⟩=some (.slice fa fn fc)/\w'.cell? ⟨W.heap.size,2,none⟩=some (.int .i64 T)/\w'.cell? ⟨W.heap.size+1,0,none⟩=some (.int .i64 x0)/\w'.cell? ⟨W.heap.size+1,1,none⟩=some (.slice ua un uc))
    (first | go_keep | exact ⟨ag.cell g0,ag.cell g1,ag.cell g2,ag.cell g3,ag.cell g4⟩ | exact ⟨jJ am.out (by have:=ai.out;omega) (ag.cell g0),jJ am.out (by have:=ai.out;omega) (ag.cell g1),jJ am.out (by have:=ai.out;omega) (ag.cell g2),jJ am.out (by have:=ai.out;omega) (ag.cell g3),jJ am.out (by have:=ai.out;omega) (ag.cell g4)⟩)
    (first
     | (go_at_call 228;refine (aR.out _ ((gO.refl _).drew)).mono ?_;rintro e w4 ⟨⟨v4,rfl,al⟩,ag⟩;obtain ⟨va4,vc4,rfl,_⟩:=al.slice;have aA:=af al;clear al)
     | (refine zK (by rfl) _ _ (by rfl) w1.heap.size (.slice va1 n1 vc1) M1 (by rfl) (aF.out.kept ((gO.refl _).drew.trans ag)) (.slice va4 M2.length vc4) M2 (by rfl) (aA.out.mono (Nat.zero_le _)) aC.out (by have h1:=aS.out;have h2:=((gO.refl wc).drew.trans ag).size;omega) ?_;intro v7 w7 h7 aH;have O7:=af h7;have am:=af aH;clear h7 aH))
   all_goals
    obtain ⟨va7,vc7,aT,_⟩:=O7.out.slice;subst aT;go_wp2;go_ret;exact ⟨⟨_,rfl,O7.out.mono aB.out.size⟩,(aB.out.trans (aj.out.trans ((gO.refl wc).drew.trans ag))).app (am.out.mono aB.out.size)⟩
theorem xu (V:Nat) (T:Int) (v0:Value) (hs:∃ a n c,v0=.slice a n c) (hV:V<=24) :
  ∀ (args:List Int) (va:Value) (W0:World),(∀ z,Z=some z->z<W0.heap.size)->gU W0 va args->(∀ a∈args,0<=a/\a<(V:Int)+128)->args.length<=100->∀ (k r:Nat) (room:Int) (u:Value) (W:World),gO W0 W->jl Z W u r->ie 152 r->k<=1000->-10<=room->room<=9998 ->
   Calls Tryz.prog 228 #[.agg #[.int .i64 V,v0,.int .i64 T],.agg #[.int .i64 (iM r),u],va,.int .i64 k,.int .i64 room] W fun e w'=>(∃ v',e=.returned v'/\g_ Z w' W.heap.size v' (jp V args k r room))/\gO W w':=by
 obtain ⟨fa,fn,fc,rfl⟩:=hs;intro args;induction args with
 | nil =>
  intro va W0 hZ ai _ _ k r room u W hW hu hr _ _ _;obtain ⟨aa,an,ac,rfl⟩:=ai.shape
  have al:an=0:=by
   obtain ⟨_,_,h,_⟩:=ai;injection h
  subst al;by_cases ag:k=0
  ·subst ag;rw [mz];exact zi V 0 r T room fa aa fn fc ac u W hu hr
  ·obtain ⟨ua,uc,rfl⟩:=hu.shape;refine (zh V 0 k (iM r) (gY r).length T room fa aa ua fn fc ac uc W ag (.inl (by omega))).mono fun e w' ⟨he,hk⟩=>⟨⟨_,he,?_⟩,hk⟩
   unfold jp;rw [if_neg ag];exact g_.nil _ _
 | cons a l ih =>
  intro va W0 hZ ai ah az k r room u W hW hu hr hk aA aB;have ap:=ai.kept hW;obtain ⟨aa,an,ac,rfl⟩:=ai.shape
  have al:an=l.length+1:=by
   obtain ⟨_,_,h,_⟩:=ai;injection h
  subst al;by_cases ag:k=0
  ·subst ag;rw [mz];exact zi V _ r T room fa aa fn fc ac u W hu hr
  ·by_cases am:l.length+1<k\/room<0
   ·obtain ⟨ua,uc,rfl⟩:=hu.shape;refine (zh V _ k (iM r) (gY r).length T room fa aa ua fn fc ac uc W ag am).mono fun e w' ⟨he,hk⟩=>⟨⟨_,he,?_⟩,hk⟩
    unfold jp;rw [if_neg ag,if_pos am];exact g_.nil _ _
   ·have aq:∀ x∈l,0<=x/\x<(V:Int)+128:=fun x hx=>ah x (List.mem_cons_of_mem _ hx)
    have ha:=ah a (List.mem_cons_self ..);have aC:ie 152 (iv V r a):=mB hr (lL (j' (V:=V) (m:=128) (by omega) hV) (by omega))
    have aD:l.length+1<=ac:=by
     obtain ⟨_,_,h1,h2,_⟩:=ai;injection h1 with _ _ h3
     rw [h3];simpa using h2.1
    obtain ⟨b,o,rfl,aF⟩:∃ b o,aa=some ⟨b,o,none⟩/\W.cell? ⟨b,o,none⟩=some (.int .i64 a):=by
     obtain ⟨a',c',h1,_,_,h4⟩:=ap;injection h1 with h1 h2 h3
     obtain ⟨b,o,h5,h6⟩:=h4 0 (by simp);exact ⟨b,o,by rw [h1,h5],by simpa using h6⟩
    obtain ⟨ua,uc,rfl⟩:=hu.shape;simp at az
    have ar:(jp V l (k - 1) (iv V r a) room).length<=room.toNat+1:=by
     by_cases e:k - 1=0
     ·rw [e,mz];simp
     ·have:=rJ V l (k - 1) (iv V r a) room e;omega
    have aw:=rJ V l k r (room - (jp V l (k - 1) (iv V r a) room).length) ag
    have aj:∃ tv,((2<=ac/\tv=.slice (some ⟨b,o+1,none⟩) (l.length+1 - 1) (ac - 1))\/(ac=1/\tv=.slice (some ⟨b,o,none⟩) 0 0))/\gU W tv l:=by
     by_cases h2:2<=ac
     ·exact ⟨_,.inl ⟨h2,rfl⟩,vK ap h2⟩
     ·have aG:l=[]:=List.eq_nil_of_length_eq_zero (by omega);subst aG;exact ⟨_,.inr ⟨by omega,rfl⟩,⟨some ⟨b,o,none⟩,0,rfl,⟨by simp,fun h=>by cases h⟩,by simp,fun i hi=>by simp at hi⟩⟩
    obtain ⟨tv,aH,ay⟩:=aj
    have e1:jp V (a :: l) k r room=jp V l (k - 1) (iv V r a) room++jp V l k r (room - (jp V l (k - 1) (iv V r a) room).length):=by
     conv=>lhs;unfold jp
     rw [if_neg ag,if_neg am]
    rw [e1]
    refine Gn V (l.length+1) k (k - 1) b o ac (iM r) (iM (iv V r a)) (gY r).length (iv V r a) T a room _ fa ua fn fc uc tv _ _ W (by omega) (by omega) (by omega) aD rfl ⟨by omega,by omega⟩ (by omega) (by omega) rfl aH aF
     (fun W' hk'=>uF r V (.slice fa fn fc) T ⟨_,_,_,rfl⟩ hV a ha _ W' (fun z hz=>by have h1:=hZ z hz;have h2:=hW.size;have h3:=hk'.size;omega) (hu.kept hk'))
     (fun u' W' hk' hu'=>ih tv W (fun z hz=>by have h1:=hZ z hz;have h2:=hW.size;omega) ay aq (by omega) (k - 1) (iv V r a) room u' W' hk' hu' aC (by omega) aA aB)
     (fun W' hk'=>ih tv W (fun z hz=>by have h1:=hZ z hz;have h2:=hW.size;omega) ay aq (by omega) k r _ _ W' hk' (hu.kept hk') hr hk (by omega) (by omega))
end
section
open Go.RowKit
variable {Z:Option Nat}
theorem jl.room {w:World} {a:Option Addr} {n c r:Nat} (h:jl Z w (.slice a n c) r):n=(gY r).length/\n<=c:=by
 obtain ⟨a',c',h1,h2,_⟩:=OwnInts.ints h.1;injection h1 with h1 h3 h4
 rw [h4,h3];exact ⟨by simp [ib],h2.1⟩
theorem Fc (V:Nat) (x:Nd) (i:Nat) (L:List Nat) (k:Nat) (h:k<L.length):(wY V x i L[k]).length<=(iP V x i L).length:=by
 have h1:=rn V x i L k h;have h2:=po V x i L (k+1);rw [h1,List.length_append] at h2;omega
theorem zr (B V i b o n c T:Nat) (x:Nd) (ua:Option Addr) (um uc:Nat) (v:Value) (L:List Nat) (w:World) (hZ:∀ z,Z=some z->z<w.heap.size) (hV:V<=24) (hv:g_ Z w B v L) (hl:L.length<=1024) (hi:i<128) (cD:i<n)
  (bH:w.rangeAt b (o+i*3) [.int .i64 x.kind,.int .i64 x.k,.slice ua um uc]) (a_:gU w (.slice ua um uc) x.args)
  (ap:∀ a∈x.args,0<=a/\a<(V:Int)+128) (bI:x.args.length<=16) (hkd:x.kind=0\/x.kind=2\/x.kind=3\/x.kind=4) (h4:x.kind=4->1<=x.k/\x.k<=x.args.length)
  (bJ:x.kind≠0->1<=x.args.length) (aP:∀ r∈L,∀ j,r.testBit (24+j)=true->j<=i) :
  Calls Tryz.prog 168 #[.agg #[.int .i64 V,.slice (some ⟨b,o,none⟩) n c,.int .i64 T],v,.int .i64 i] w fun e w' =>
   ((4096<(iP V x i L).length/\∃ v',e=.returned (.tuple #[v',.bool true]))\/((iP V x i L).length<=4096/\∃ v',e=.returned (.tuple #[v',.bool false])/\g_ Z w' w.heap.size v' (iP V x i L)))/\gO w w':=by
 have HV:=af hv;obtain ⟨sa,sc,rfl,_⟩:=hv.slice;obtain ⟨ln,bh⟩:∃ n,n=L.length:=⟨_,rfl⟩;rw [<-bh] at HV hl⊢;have bK:=af bh;have b_:=af aP;have bL:=af bH;obtain ⟨kd,kk,args⟩:=x;simp only at a_ ap bI hkd h4 bJ bL
 have bM:um=args.length:=by
  obtain ⟨_,_,h,_⟩:=a_;injection h
 have bi:=af bM;have cd:um<=16:=by omega
 obtain ⟨x,hx⟩:∃ x,x=(⟨kd,kk,args⟩:Nd):=⟨_,rfl⟩;rw [<-hx]
 have ci:Hid (∀ (K:Nat) (W:World) (q:Nat) (u:Value),K<=1000->gO w W->jl Z W u q->ie 152 q->Calls Tryz.prog 228 #[.agg #[.int .i64 V,.slice (some ⟨b,o,none⟩) n c,.int .i64 T],.agg #[.int .i64 (iM q),u],.slice ua um uc,.int .i64 K,.int .i64 4096] W fun e w'=>(∃ v',e=.returned v'/\g_ Z w' W.heap.size v' (jp V args K q 4096))/\gO W w'):=af fun K W q u hK hk hu hq =>
  xu V T _ ⟨_,_,_,rfl⟩ hV args _ w hZ a_ ap (by omega) K q 4096 u W hk hu hq hK (by omega) (by omega)
 have cj:Hid (∀ q,(kd=2->jB V x i q=hJ V args args.length (iH q (2^(24+i))))/\(kd=3->jB V x i q=hJ V args 1 (iH q (2^(24+i))))/\(kd=4->jB V x i q=hJ V args kk.toNat (iH q (2^(24+i))))/\(kd=0->jB V x i q=if kk=1 then [iH q (2^(24+i))] else [])):=af fun q=>by
  rw [hx];unfold jB;refine ⟨fun h=>?_,fun h=>?_,fun h=>?_,fun h=>?_⟩
  ·simp only [h];rw [if_neg (by decide),if_pos trivial,yf]
  ·simp only [h];rw [if_neg (by decide),if_neg (by decide),if_pos trivial,yg]
  ·simp only [h];rw [if_neg (by decide),if_neg (by decide),if_neg (by decide)]
  ·simp only [h];rw [if_pos trivial]
 have bj:Hid (∀ (K q:Nat),K≠0->(jp V args K q 4096).length<=4097/\((hJ V args K q).length<=4096->jp V args K q 4096=hJ V args K q)/\(4096<(hJ V args K q).length->4096<(jp V args K q 4096).length)):=af fun K q hK=>by
  have h1:=Bh V args K q 4096 (by omega);have h2:=rJ V args K q 4096 hK;exact ⟨by omega,fun h=>h1.1 (by omega),fun h=>by have:=h1.2 (by omega);omega⟩
 have ck:(i:Int)<(n:Int):=by omega
 clear hv bh aP bH a_ ap bI bM hx hZ;go_enter Tryz.func168,Tryz.ntmps168;go_wp2_with (with_reducible refine wpList_load_mid rfl 106 _ rfl b (o+i*3) rfl _ _ (nV bL.out ((gO.refl _).alloc _)) Tryz.underlying106 rfl (by kernel_rfl) ?_);obtain ⟨L1,aB⟩:∃ W:World,W=(w.alloc (.cells #[.int .i64 V,.slice (some ⟨b,o,none⟩) n c,.int .i64 T] 41)).alloc (.cells #[.int .i64 kd,.int .i64 kk,.slice ua um uc] 106):=⟨_,rfl⟩;have cn:=af aB;have bd:Hid (gO w L1):=af (by rw [aB];exact ((gO.refl _).alloc _).alloc _);have c0:L1.cell? ⟨w.heap.size,0,none⟩=some (.int .i64 V):=by rw [aB];simp
 have c1:L1.cell? ⟨w.heap.size,1,none⟩=some (.slice (some ⟨b,o,none⟩) n c):=by rw [aB];simp
 have c2:L1.cell? ⟨w.heap.size,2,none⟩=some (.int .i64 T):=by rw [aB];simp
 have m0:L1.cell? ⟨w.heap.size+1,0,none⟩=some (.int .i64 kd):=by rw [aB];simp
 have m1:L1.cell? ⟨w.heap.size+1,1,none⟩=some (.int .i64 kk):=by rw [aB];simp
 have m2:L1.cell? ⟨w.heap.size+1,2,none⟩=some (.slice ua um uc):=by rw [aB];simp
 clear aB;go_loopg [9,20] ln (fun kx s9 s20 wr=>∃ (k:Nat) (vo:Value),s9=vo/\s20=.int .i64 k/\k<=ln/\ln - k<=kx/\Hid (g_ Z wr L1.heap.size vo (iP V x i (L.take k))/\(iP V x i (L.take k)).length<=4096+k)/\Hid (gO L1 wr))
 case atStart=>exact ⟨0,_,rfl,rfl,Nat.zero_le _,by omega,af ⟨by simpa [iP] using g_.nil _ _,by simp [iP]⟩,af (by rw [cn.out];exact gO.refl _)⟩
 case round =>
  obtain ⟨k,vo,rfl,rfl,hk,cE,HO,HK⟩:=hrel;obtain ⟨oa,oc,bN,_⟩:=HO.out.1.slice;obtain ⟨on,bk⟩:∃ on,on=(iP V x i (L.take k)).length:=⟨_,rfl⟩;have cq:=HO.out.2;rw [<-bk] at bN cq;subst bN;have aJ:=af bk;have bl:=af (bd.out.trans HK.out);have cr:=HK.out.size;clear bk;by_cases cF:k<ln
  ·have bo:k<L.length:=by have:=bK.out;omega
   obtain ⟨b2,qa,qm,qc,rfl,aG,aC,bp⟩:=(HV.out.kept bl.out).get k bo;have aN:=HV.out.lt L[k] (List.getElem_mem _);have aQ:=b_.out L[k] (List.getElem_mem _);have ah:=rn V x i L k bo;have aj:=Fc V x i L k bo;obtain ⟨q,bO⟩:∃ q,q=L[k]:=⟨_,rfl⟩;rw [<-bO] at aG aC bp aN aQ ah aj;unfold wY at ah aj;have ct:(k:Int)<(ln:Int):=by omega
   have cG:qm<=128:=by rw [aG];exact kA q
   have cH:=aC.room.2;obtain ⟨q0,bq⟩:∃ y,y=iM q:=⟨_,rfl⟩;have br:=af bq;have bf:Hid (wr.rangeAt b2 (k*2) [.int .i64 q0,.slice qa qm qc]):=af (by rw [bq];exact bp);have bP:=af aN;have bQ:=af aC;clear bp bO bq;cases hb:q.testBit (24+i) with
   | false =>
    rw [hb] at ah;rw [if_neg (by simp)] at ah;have aK:=af ah;have aq:on<20000:=by omega
    have bR:Hid (∀ W,gO wr W->g_ Z W L1.heap.size (.slice oa on oc) (iP V x i (L.take k))):=af fun W hk=>HO.out.1.kept hk
    by_cases hz:gY q=[]
    ·have cu:qm=0:=by rw [aG,hz];rfl
     subst cu;clear hz aG aC aN aQ ah aj hb;go_wp2_with (first | (with_reducible refine wpList_load_mid rfl 131 _ rfl b2 (k*2) rfl _ _ bf.out Tryz.underlying131 rfl (by kernel_rfl) ?_) | (at_builtin;refine wF rfl _ _ rfl L1.heap.size _ (iP V x i (L.take k)) rfl (bR.out _ (((gO.refl _).alloc _).alloc _)) (wr.heap.size+1) q (.slice qa 0 qc) rfl (nD (by rw [<-br.out];simp) (by simp)) (bQ.out.kept (((gO.refl _).alloc _).alloc _)) bP.out (by rw [<-aJ.out];exact aq) (by simp;omega) ?_;intro v7 w7 ag al;have O7:=af ag;have ar:=af al;clear ag al));go_roundg (ln - (k+1))
     case measure=>omega
     case rel=>exact ⟨k+1,_,rfl,by go_num,by omega,Nat.le_refl _,af ⟨by rw [aK.out];exact O7.out,by rw [aK.out,List.length_append,<-aJ.out];simp;omega⟩,af (((HK.out.alloc _).alloc _).app ar.out)⟩
    ·obtain ⟨l,y,aO⟩:∃ l y,gY q=l++[y]:=⟨_,_,(List.dropLast_concat_getLast hz).symm⟩;have bS:qm=l.length+1:=by rw [aG,aO];simp
     have bT:y∈gY q:=by rw [aO];simp
     have bt:=(iL.1 bT).2;have cw:y≠i:=by rintro rfl;rw [hb] at bt;cases bt
     obtain ⟨bu,ou,rfl,aD⟩:=aC.get l.length (by rw [aO];simp);have aR:(gY q)[l.length]'(by rw [aO];simp)=y:=by simp [aO]
     rw [aR] at aD;obtain ⟨m,hm⟩:∃ m,m=l.length:=⟨_,rfl⟩;rw [<-hm] at aD bS;have b1:((y:Int) != (i:Int))=true:=by simp;omega
     have e2:((qm:Int) == 0)=false:=by simp;omega
     have q1:(qm:Int) - 1=(m:Int):=by omega
     have aS:=((gO.refl wr).alloc (.cells #[.int .i64 q0,.slice (some ⟨bu,ou,none⟩) qm qc] 131)).cell aD;clear hz aG aC aN aQ ah aj hb aO bT bt cw aR hm aD bS;go_wp2_with (first | (with_reducible refine wpList_load_mid rfl 131 _ rfl b2 (k*2) rfl _ _ bf.out Tryz.underlying131 rfl (by kernel_rfl) ?_) | (at_builtin;refine wF rfl _ _ rfl L1.heap.size _ (iP V x i (L.take k)) rfl (bR.out _ (((gO.refl _).alloc _).alloc _)) (wr.heap.size+1) q (.slice (some ⟨bu,ou,none⟩) qm qc) rfl (nD (by rw [<-br.out];simp) (by simp)) (bQ.out.kept (((gO.refl _).alloc _).alloc _)) bP.out (by rw [<-aJ.out];exact aq) (by simp;omega) ?_;intro v7 w7 ag al;have O7:=af ag;have ar:=af al;clear ag al));go_roundg (ln - (k+1))
     case measure=>omega
     case rel=>exact ⟨k+1,_,rfl,by go_num,by omega,Nat.le_refl _,af ⟨by rw [aK.out];exact O7.out,by rw [aK.out,List.length_append,<-aJ.out];simp;omega⟩,af (((HK.out.alloc _).alloc _).app ar.out)⟩
   | true =>
    rw [hb] at ah aj;rw [if_pos rfl] at ah aj;have aK:=af ah;have bw:=af aj;have aL:=xh q i hi hb (aQ);obtain ⟨q',hq'⟩:∃ z,z=iH q (2^(24+i)):=⟨_,rfl⟩;have aT:iM q'=iM q:=by rw [hq'];exact Jn q i
    have aU:ie 152 q':=by
     rw [hq'];intro j hj;rw [jr] at hj;simp only [Bool.and_eq_true] at hj;exact aN j hj.1
    rw [<-hq'] at aL;have bz:qm=(gY q').length+1:=by rw [aG,aL];simp
    have aM:=aC.prefix aL;obtain ⟨bu,ou,rfl,aD⟩:=aC.get (gY q').length (by rw [aL];simp);have aR:(gY q)[(gY q').length]'(by rw [aL];simp)=i:=by simp [aL]
    rw [aR] at aD;obtain ⟨m,hm⟩:∃ m,m=qm - 1:=⟨_,rfl⟩;rw [show (gY q').length=m by omega] at aD;rw [<-hm] at aM;have b1:((i:Int) != (i:Int))=false:=by simp
    have e2:((qm:Int) == 0)=false:=by simp;omega
    have q1:(qm:Int) - 1=(m:Int):=by omega
    have q2:(0:Int)<=(m:Int):=by omega
    have q3:(m:Int)<=(qc:Int):=by omega
    have aS:=((gO.refl wr).alloc (.cells #[.int .i64 q0,.slice (some ⟨bu,ou,none⟩) qm qc] 131)).cell aD;have HQ':=af hq';have bU:=af aU;have aV:=af aM;have bV:Hid (q0=iM q'):=af (by rw [aT];exact br.out);clear aG aC aN aQ ah aj hb aL aR hm aD hq' aT aU aM bz;go_wp2_with (with_reducible refine wpList_load_mid rfl 131 _ rfl b2 (k*2) rfl _ _ bf.out Tryz.underlying131 rfl (by kernel_rfl) ?_);go_cut [12] (fun p12 wx=>p12=.pointer (some ⟨wr.heap.size+1,0,none⟩)/\wx.cell? ⟨wr.heap.size+1,0,none⟩=some (.int .i64 q0)/\wx.cell? ⟨wr.heap.size+1,1,none⟩=some (.slice (some ⟨bu,ou,none⟩) m qc)/\Hid (gO wr wx))
    case first =>
     go_region;all_goals go_wp2
     all_goals go_meet
     all_goals exact ⟨rfl,by simp,by simp,af (by first | exact ((gO.refl _).alloc _).alloc _ | exact (((gO.refl _).alloc _).alloc _).drew)⟩
    case rest =>
     obtain ⟨rfl,p0,p1,aW⟩:=hcut;have ai:=af (HK.out.trans aW.out);have d0:=ai.out.cell c0;have d1:=ai.out.cell c1;have d2:=ai.out.cell c2;have n0:=ai.out.cell m0;have n1:=ai.out.cell m1;have n2:=ai.out.cell m2;have cz:=aW.out.size;have aX:=af (HO.out.1.kept aW.out)
     have bA:Hid (∀ (K:Nat),K<=1000->Calls Tryz.prog 228 #[.agg #[.int .i64 V,.slice (some ⟨b,o,none⟩) n c,.int .i64 T],.agg #[.int .i64 q0,.slice (some ⟨bu,ou,none⟩) m qc],.slice ua um uc,.int .i64 K,.int .i64 4096] wc fun e w'=>(∃ v',e=.returned v'/\g_ Z w' wc.heap.size v' (jp V args K q' 4096))/\gO wc w'):=af fun K hK=>by
      rw [bV.out];exact ci.out K wc q' _ hK (bd.out.trans ai.out) (aV.out.kept aW.out) bU.out
     have bB:=cj.out q;rw [<-HQ'.out] at bB;have aw:=af bB;have aF:Hid ((iP V x i (L.take k)).length<=5200):=af (by rw [<-aJ.out];omega);clear bB aS b1 e2 q1 q2 q3 bf;go_upto_block 2 with fail
     go_cut [9] (fun p9 wy=>∃ (v9:Value) (M:List Nat),p9=v9/\Hid (g_ Z wy L1.heap.size v9 (iP V x i (L.take k)++M))/\Hid (M.length<=4097/\(M=jB V x i q\/(4096<M.length/\4096<(jB V x i q).length)))/\Hid (gO L1 wy))
     case first =>
      rcases hkd with rfl | rfl | rfl | rfl
      ·by_cases bC:kk=1
       ·subst bC;go_wp2_with (at_builtin;refine wF rfl _ _ rfl L1.heap.size _ (iP V x i (L.take k)) rfl (aX.out.kept ((gO.refl _).alloc _)) wc.heap.size q' (.slice (some ⟨bu,ou,none⟩) m qc) rfl (nD (by rw [<-bV.out];simp) (by simp)) (aV.out.kept (aW.out.alloc _)) bU.out (by have:=aF.out;omega) (by simp;omega) ?_;intro v7 w7 ag al;have O7:=af ag;have ar:=af al;clear ag al);go_meet;exact ⟨_,[q'],rfl,O7,af ⟨by simp,.inl (by rw [aw.out.2.2.2 (by trivial)];simp)⟩,af ((ai.out.alloc _).app ar.out)⟩
       ·have cC:(kk == 1)=false:=by simpa using bC
        go_wp2;go_meet;exact ⟨_,[],rfl,af (by rw [List.append_nil];exact aX.out),af ⟨by simp,.inl (by rw [aw.out.2.2.2 (by trivial)];simp [bC])⟩,ai⟩
      ·have HC:=bA.out um (by omega);have aY:=af HC;have bD:um≠0:=by have:=bJ (by decide);have:=bi.out;omega
       have am:=af (bj.out um q' bD);clear HC
       go_wp2_with (first
        | (go_at_call 228;refine aY.out.mono ?_;rintro e w4 ⟨⟨v4,rfl,ay⟩,aH⟩;have aZ:=af ay;have az:=af aH;obtain ⟨va4,vc4,rfl,_⟩:=ay.slice;clear ay aH)
        | (at_builtin;refine wG rfl _ _ rfl L1.heap.size _ (iP V x i (L.take k)) rfl (aX.out.kept az.out) _ _ rfl (aZ.out.mono (Nat.zero_le _)) (by have:=aF.out;have:=am.out.1;omega) (by have:=az.out.size;omega) ?_;intro v7 w7 ag al;have O7:=af ag;have ar:=af al;clear ag al))
       go_meet
       exact ⟨_,_,rfl,O7,af ⟨am.out.1,by
        rw [aw.out.1 (by trivial),<-bi.out];by_cases h:(hJ V args um q').length<=4096
        ·exact .inl (am.out.2.1 h)
        ·exact .inr ⟨am.out.2.2 (by omega),by omega⟩⟩,af ((ai.out.trans az.out).app ar.out)⟩
      ·have aY:=af (bA.out 1 (by omega));have am:=af (bj.out 1 q' (by omega))
       go_wp2_with (first
        | (go_at_call 228;refine aY.out.mono ?_;rintro e w4 ⟨⟨v4,rfl,ay⟩,aH⟩;have aZ:=af ay;have az:=af aH;obtain ⟨va4,vc4,rfl,_⟩:=ay.slice;clear ay aH)
        | (at_builtin;refine wG rfl _ _ rfl L1.heap.size _ (iP V x i (L.take k)) rfl (aX.out.kept az.out) _ _ rfl (aZ.out.mono (Nat.zero_le _)) (by have:=aF.out;have:=am.out.1;omega) (by have:=az.out.size;omega) ?_;intro v7 w7 ag al;have O7:=af ag;have ar:=af al;clear ag al))
       go_meet
       exact ⟨_,_,rfl,O7,af ⟨am.out.1,by
        rw [aw.out.2.1 (by trivial)];by_cases h:(hJ V args 1 q').length<=4096
        ·exact .inl (am.out.2.1 h)
        ·exact .inr ⟨am.out.2.2 (by omega),by omega⟩⟩,af ((ai.out.trans az.out).app ar.out)⟩
      ·obtain ⟨K,rfl⟩:=Int.eq_ofNat_of_zero_le (show 0<=kk by have:=h4 rfl;omega);have h4':=h4 rfl;have aY:=af (bA.out K (by have:=bi.out;omega));have am:=af (bj.out K q' (by omega));clear h4'
       go_wp2_with (first
        | (go_at_call 228;refine aY.out.mono ?_;rintro e w4 ⟨⟨v4,rfl,ay⟩,aH⟩;have aZ:=af ay;have az:=af aH;obtain ⟨va4,vc4,rfl,_⟩:=ay.slice;clear ay aH)
        | (at_builtin;refine wG rfl _ _ rfl L1.heap.size _ (iP V x i (L.take k)) rfl (aX.out.kept az.out) _ _ rfl (aZ.out.mono (Nat.zero_le _)) (by have:=aF.out;have:=am.out.1;omega) (by have:=az.out.size;omega) ?_;intro v7 w7 ag al;have O7:=af ag;have ar:=af al;clear ag al))
       go_meet
       exact ⟨_,_,rfl,O7,af ⟨am.out.1,by
        rw [aw.out.2.2.1 (by trivial),Int.toNat_natCast];by_cases h:(hJ V args K q').length<=4096
        ·exact .inl (am.out.2.1 h)
        ·exact .inr ⟨am.out.2.2 (by omega),by omega⟩⟩,af ((ai.out.trans az.out).app ar.out)⟩
     case rest =>
      obtain ⟨v9,M,rfl,bW,bX,bY⟩:=hcut;obtain ⟨a9,c9,bZ,_⟩:=bW.out.slice;obtain ⟨n9,bE⟩:∃ n,n=(iP V x i (L.take k)++M).length:=⟨_,rfl⟩;rw [<-bE] at bZ;subst bZ;have bF:=af bE;clear bE d0 d1 d2 n0 n1 n2 p0 p1;by_cases hbig:4096<n9
      ·have aA:(n9:Int) > 4096:=by omega
       go_wp2;go_ret2;refine ⟨.inl ⟨?_,_,rfl⟩,bd.out.trans bY.out⟩;rcases bX.out.2 with h | ⟨_,h⟩
       ·have h2:=po V x i L (k+1);rw [aK.out,<-h] at h2;have:=bF.out;omega
       ·exact Nat.lt_of_lt_of_le h bw.out
      ·have aA:¬ (n9:Int) > 4096:=by omega
       have hM:M=jB V x i q:=by
        rcases bX.out.2 with h | ⟨h,_⟩
        ·exact h
        ·have:=bF.out;rw [List.length_append] at this;omega
       have HF:Hid (g_ Z wc L1.heap.size (.slice a9 n9 c9) (iP V x i (L.take (k+1)))/\(iP V x i (L.take (k+1))).length<=4096+(k+1)):=af (by
        rw [aK.out,<-hM];exact ⟨bW.out,by rw [<-bF.out];omega⟩)
       clear hM;go_wp2;go_roundg (ln - (k+1))
       case measure=>omega
       case rel=>exact ⟨k+1,_,rfl,by go_num,by omega,Nat.le_refl _,HF,bY⟩
  ·have ct:¬ (k:Int)<(ln:Int):=by omega
   have aI:iP V x i (L.take k)=iP V x i L:=by rw [show k=ln by omega,bK.out,List.take_length]
   have bG:=af aI;clear aI;by_cases hbig:4096<on
   ·have aA:(on:Int) > 4096:=by omega
    go_wp2;go_ret2;exact ⟨.inl ⟨by rw [<-bG.out,<-aJ.out];exact hbig,_,rfl⟩,bl.out⟩
   ·have aA:¬ (on:Int) > 4096:=by omega
    go_wp2;go_ret2;exact ⟨.inr ⟨by rw [<-bG.out,<-aJ.out];omega,_,rfl,by have:=HO.out.1;rw [bG.out] at this;exact this.mono bd.out.size⟩,bl.out⟩
end
end Go.Proofs.YtofibjflkebkpaaGreatDoor
