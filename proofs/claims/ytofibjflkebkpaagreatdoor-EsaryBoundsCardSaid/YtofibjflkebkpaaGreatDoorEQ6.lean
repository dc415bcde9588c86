import Derived.Test.YtofibjflkebkpaaGreatDoorEQ5
set_option maxRecDepth 100000
set_option maxHeartbeats 16000000
namespace Go.Proofs.YtofibjflkebkpaaGreatDoor
open Go.RowKit
theorem ux (w:World) (box:Obj):gS ((w.alloc box).alloc (.cells #[.bool false,.slice none 0 0,.slice none 0 0] 29)) (w.heap.size+1) 29 [.bool false,.slice none 0 0,.slice none 0 0]/\iX ((w.alloc box).alloc (.cells #[.bool false,.slice none 0 0,.slice none 0 0] 29)) (w.heap.size+1) [.bool false,.slice none 0 0,.slice none 0 0]/\gO w ((w.alloc box).alloc (.cells #[.bool false,.slice none 0 0,.slice none 0 0] 29)):=by
 have h1:=gS.made (w.alloc box) #[.bool false,.slice none 0 0,.slice none 0 0] 29;have h2:=iX.made (w.alloc box) #[.bool false,.slice none 0 0,.slice none 0 0] 29;simp only [World.size_alloc] at h1 h2;exact ⟨h1,h2,((gO.refl w).alloc _).alloc _⟩
theorem jq (w:World) (b1 b2:Obj):gS (((w.alloc b1).alloc b2).alloc (.cells #[.bool false,.slice none 0 0,.slice none 0 0] 29)) (w.heap.size+1+1) 29 [.bool false,.slice none 0 0,.slice none 0 0]/\iX (((w.alloc b1).alloc b2).alloc (.cells #[.bool false,.slice none 0 0,.slice none 0 0] 29)) (w.heap.size+1+1) [.bool false,.slice none 0 0,.slice none 0 0]/\gO w (((w.alloc b1).alloc b2).alloc (.cells #[.bool false,.slice none 0 0,.slice none 0 0] 29)):=by
 have h1:=gS.made ((w.alloc b1).alloc b2) #[.bool false,.slice none 0 0,.slice none 0 0] 29;have h2:=iX.made ((w.alloc b1).alloc b2) #[.bool false,.slice none 0 0,.slice none 0 0] 29;simp only [World.size_alloc] at h1 h2;exact ⟨h1,h2,(((gO.refl w).alloc _).alloc _).alloc _⟩
theorem Gv (v:Value) (r:Rw) (w:World) (hv:RatAt w v r) (hs:r.Short 274877906944):Calls Tryz.prog 118 #[v] w fun e w'=>(∃ v',e=.returned v'/\RatAt w' v' (gR (- gT r)))/\gO w w':=by
 have ay:=af (fun W (hk:gO w W)=>ju v r W (hv.kept hk) hs);have aj:=ij hv.ok;have al:=il hs (by omega);obtain ⟨R,hR⟩:∃ R,R=gR (- gT r):=⟨_,rfl⟩
 have az:Hid (∀ W u1 u2,WdsAt W u1 (gP r).2.1->WdsAt W u2 (gP r).2.2->Calls Tryz.prog 141 #[.bool (!(gP r).1),u1,u2] W fun e w'=>(∃ v,e=.returned v/\RatAt w' v R)/\gO W w'):=af fun W u1 u2 k1 k2=>by
  have h:=lf (!(gP r).1) u1 u2 _ _ W k1 k2 al.1 al.2 aj.2.2.1;rw [jA _ _ _ aj.2.2.1,rH,<-hR] at h;exact h
 rw [<-hR];obtain ⟨u1,u2,rfl,h1,h2⟩:=hv;obtain ⟨a1,c1,rfl⟩:=h1.shape;obtain ⟨a2,c2,rfl⟩:=h2.shape;obtain ⟨w2,am⟩:∃ w2,w2=(w.alloc (.cells #[.bool r.neg,.slice a1 r.num.length c1,.slice a2 r.den.length c2] 29)).alloc (.cells #[.bool false,.slice none 0 0,.slice none 0 0] 29):=⟨_,rfl⟩;have HM:=af (ux w (.cells #[.bool r.neg,.slice a1 r.num.length c1,.slice a2 r.den.length c2] 29));rw [<-am] at HM;have aA:=af am;generalize (gP r).1=s at *;generalize (gP r).2.1=N at *;generalize (gP r).2.2=D at *;generalize r.num.length=n1 at *;generalize r.den.length=n2 at *;generalize r.neg=neg at *;clear aj al hR h1 h2 hs am;go_enter Tryz.func118,Tryz.ntmps118;go_wp2_with fail;rw [<-aA.out];refine (ay.out _ HM.out.2.2).mono ?_;rintro e w3 ⟨⟨u3,u4,rfl,ap,aq⟩,ah⟩;have H3:=af ap;have H4:=af aq;have aB:=af (HM.out.1.kept ah);have aC:=af (HM.out.2.1.kept ah);have aD:=af (HM.out.2.2.trans ah);clear ap aq ah;go_wp2_with fail;refine (az.out _ _ _ H3.out H4.out).mono ?_;rintro e w4 ⟨⟨v4,rfl,ar⟩,ai⟩;have aI:=af ar;have ag:=aB.out.kept ai;have aJ:=af ag;have aF:=af (aC.out.kept ai);have aG:=af (aD.out.trans ai);obtain ⟨u5,u6,rfl,k5,k6⟩:=ar;obtain ⟨a5,c5,rfl⟩:=k5.shape;obtain ⟨a6,c6,rfl⟩:=k6.shape;obtain ⟨y0,y1,y2,aw⟩:=iC ag aF.out k5 k6;have g0:=ag.cell (i:=0) (by simp)
 have g1:=ag.cell (i:=1) (by simp);have g2:=ag.cell (i:=2) (by simp);have f0:=ag.free 0;have f1:=ag.free 1;have f2:=ag.free 2;have aH:=af aw;have Y0:=af y0;have Y1:=af y1;have Y2:=af y2;clear aw y0 y1 y2 k5 k6 ag ai;generalize R.num.length=n5 at *;generalize R.den.length=n6 at *;go_wp2;refine bodyPost_ret (v:=.agg #[.bool R.neg,.slice a5 n5 c5,.slice a6 n6 c6]) ?_ rfl ⟨⟨_,rfl,aH.out⟩,?_⟩
 ·simp [results,Tryz.results118,go_sem,Y0.out,Y1.out,Y2.out]
 ·exact ((aG.out.store (by omega) _ _).store (by omega) _ _).store (by omega) _ _
def kr (q:Rat):Int:=if q=0 then 0 else if q<0 then -1 else 1
theorem v_ (v:Value) (r:Rw) (w:World) (hv:RatAt w v r) (hs:r.Short 274877906944):Calls Tryz.prog 22 #[v] w fun e w'=>e=.returned (.int .i64 (kr (gT r)))/\gO w w':=by
 have ap:=af (fun W (hk:gO w W)=>ju v r W (hv.kept hk) hs);obtain ⟨k1,k2⟩:=uL hv.ok;obtain ⟨u1,u2,rfl,h1,h2⟩:=hv;obtain ⟨a1,c1,rfl⟩:=h1.shape;obtain ⟨a2,c2,rfl⟩:=h2.shape;have ai:Hid (gO w (w.alloc (.cells #[.bool r.neg,.slice a1 r.num.length c1,.slice a2 r.den.length c2] 29))):=af ((gO.refl w).alloc _);obtain ⟨ln,aq⟩:∃ ln,ln=(gP r).2.1.length:=⟨_,rfl⟩;have ar:=af aq;rw [<-aq] at k1 k2;obtain ⟨S,hS⟩:∃ S,S=kr (gT r):=⟨_,rfl⟩;rw [<-hS]
 have aj:S=if ln=0 then 0 else if (gP r).1=true then -1 else 1:=by
  rw [hS];unfold kr;by_cases h:ln=0
  ·rw [if_pos h,if_pos (k1.1 h)]
  ·rw [if_neg h,if_neg (fun e=>h (k1.2 e))];by_cases h3:(gP r).1=true
   ·rw [if_pos h3,if_pos ((k2 h).1 h3)]
   ·rw [if_neg h3,if_neg (fun e=>h3 ((k2 h).2 e))]
 generalize (gP r).1=s at *;generalize (gP r).2.1=N at *;generalize (gP r).2.2=D at *;generalize r.num.length=n1 at *;generalize r.den.length=n2 at *;generalize r.neg=neg at *;clear h1 h2 hs hS k1 k2 aq;by_cases h0:ln=0
 ·have hE:S=0:=by rw [aj,if_pos h0]
  subst h0 hE;clear aj;go_enter Tryz.func22,Tryz.ntmps22;go_wp2_with fail;refine (ap.out _ ai.out).mono ?_;rintro e w3 ⟨⟨u3,u4,rfl,ag,al⟩,ah⟩;obtain ⟨a3,c3,rfl⟩:=ag.shape;rw [<-ar.out];have am:=af (ai.out.trans ah);clear ag al ah;go_wp2;go_ret;exact ⟨rfl,am.out⟩
 ·have hb:((ln:Int) == 0)=false:=by simp;exact h0
  cases s with
  | true =>
   have hE:S=-1:=by rw [aj,if_neg h0,if_pos rfl]
   subst hE;clear aj h0;go_enter Tryz.func22,Tryz.ntmps22;go_wp2_with fail;refine (ap.out _ ai.out).mono ?_;rintro e w3 ⟨⟨u3,u4,rfl,ag,al⟩,ah⟩;obtain ⟨a3,c3,rfl⟩:=ag.shape;rw [<-ar.out];have am:=af (ai.out.trans ah);clear ag al ah;go_wp2;go_ret;exact ⟨rfl,am.out⟩
  | false =>
   have hE:S=1:=by rw [aj,if_neg h0,if_neg (by simp)]
   subst hE;clear aj h0;go_enter Tryz.func22,Tryz.ntmps22;go_wp2_with fail;refine (ap.out _ ai.out).mono ?_;rintro e w3 ⟨⟨u3,u4,rfl,ag,al⟩,ah⟩;obtain ⟨a3,c3,rfl⟩:=ag.shape;rw [<-ar.out];have am:=af (ai.out.trans ah);clear ag al ah;go_wp2;go_ret;exact ⟨rfl,am.out⟩
theorem ip {xs ys:List Nat} (hx:Wd xs) (hy:Wd ys):(nw (nv xs*nv ys)).length<=xs.length+ys.length:=by
 refine iw.2 ?_;rw [Nat.pow_add];exact Nat.mul_lt_mul'' (kM hx) (kM hy)
theorem zw (va vb:Value) (r s:Rw) (w:World) (ha:RatAt w va r) (hb:RatAt w vb s) (hr:r.Short 137438953472) (hs:s.Short 137438953472):Calls Tryz.prog 97 #[va,vb] w fun e w'=>(∃ v',e=.returned v'/\RatAt w' v' (gR (gT r*gT s)))/\gO w w':=by
 have aO:=af (fun W (hk:gO w W)=>ju va r W (ha.kept hk) ⟨Nat.le_trans hr.1 (by omega),Nat.le_trans hr.2 (by omega)⟩);have aP:=af (fun W (hk:gO w W)=>ju vb s W (hb.kept hk) ⟨Nat.le_trans hs.1 (by omega),Nat.le_trans hs.2 (by omega)⟩);have ag:=ij ha.ok;have ah:=ij hb.ok;have az:=il hr (by omega);have aA:=il hs (by omega);obtain ⟨R,hR⟩:∃ R,R=gR (gT r*gT s):=⟨_,rfl⟩;obtain ⟨x,hx⟩:∃ x,x=((gP r).1 != (gP s).1):=⟨_,rfl⟩
 have aC:Hid (∀ W u1 u2,WdsAt W u1 (nw (nv (gP r).2.1*nv (gP s).2.1))->WdsAt W u2 (nw (nv (gP r).2.2*nv (gP s).2.2))->Calls Tryz.prog 141 #[.bool x,u1,u2] W fun e w'=>(∃ v,e=.returned v/\RatAt w' v R)/\gO W w'):=af fun W u1 u2 k1 k2=>by
  have hd:nv (gP r).2.2*nv (gP s).2.2≠0:=Nat.mul_ne_zero ag.2.2.1 ah.2.2.1;have h:=lf x u1 u2 _ _ W k1 k2 (Nat.le_trans (ip ag.1 ah.1) (by omega)) (Nat.le_trans (ip ag.2.1 ah.2.1) (by omega)) (by rw [gW];exact hd);rw [gW,gW,jA _ _ _ hd,hx,rG,<-hR] at h;rw [hx];exact h
 have aQ:Hid (∀ W u1 u2,WdsAt W u1 (gP r).2.1->WdsAt W u2 (gP s).2.1->Calls Tryz.prog 156 #[u1,u2] W fun e w'=>(∃ v',e=.returned v'/\WdsAt w' v' (nw (nv (gP r).2.1*nv (gP s).2.1)))/\gO W w'):=af fun W u1 u2 k1 k2=>kz u1 u2 _ _ W k1 k2 (by omega) (by omega)
 have aR:Hid (∀ W u1 u2,WdsAt W u1 (gP r).2.2->WdsAt W u2 (gP s).2.2->Calls Tryz.prog 156 #[u1,u2] W fun e w'=>(∃ v',e=.returned v'/\WdsAt w' v' (nw (nv (gP r).2.2*nv (gP s).2.2)))/\gO W w'):=af fun W u1 u2 k1 k2=>kz u1 u2 _ _ W k1 k2 (by omega) (by omega)
 rw [<-hR];obtain ⟨u1,u2,rfl,h1,h2⟩:=ha;obtain ⟨u3,u4,rfl,h3,h4⟩:=hb;obtain ⟨a1,c1,rfl⟩:=h1.shape;obtain ⟨a2,c2,rfl⟩:=h2.shape;obtain ⟨a3,c3,rfl⟩:=h3.shape;obtain ⟨a4,c4,rfl⟩:=h4.shape;obtain ⟨w2,ar⟩:∃ w2,w2=((w.alloc (.cells #[.bool r.neg,.slice a1 r.num.length c1,.slice a2 r.den.length c2] 29)).alloc (.cells #[.bool s.neg,.slice a3 s.num.length c3,.slice a4 s.den.length c4] 29)).alloc (.cells #[.bool false,.slice none 0 0,.slice none 0 0] 29):=⟨_,rfl⟩;have HM:=af (jq w (.cells #[.bool r.neg,.slice a1 r.num.length c1,.slice a2 r.den.length c2] 29) (.cells #[.bool s.neg,.slice a3 s.num.length c3,.slice a4 s.den.length c4] 29));rw [<-ar] at HM;have aB:=gS.made (w.alloc (.cells #[.bool r.neg,.slice a1 r.num.length c1,.slice a2 r.den.length c2] 29)) #[.bool s.neg,.slice a3 s.num.length c3,.slice a4 s.den.length c4] 29;simp only [World.size_alloc] at aB;have aS:Hid (gS w2 (w.heap.size+1) 29 [.bool s.neg,.slice a3 s.num.length c3,.slice a4 s.den.length c4]):=af (by rw [ar];exact aB.kept ((gO.refl _).alloc _));have aT:=af ar;generalize nw (nv (gP r).2.1*nv (gP s).2.1)=NM at *;generalize nw (nv (gP r).2.2*nv (gP s).2.2)=DE at *;generalize (gP r).1=s1 at *;generalize (gP s).1=s2 at *;generalize (gP r).2.1=N at *;generalize (gP r).2.2=D at *;generalize (gP s).2.1=M at *;generalize (gP s).2.2=E at *;generalize r.num.length=n1 at *
 generalize r.den.length=n2 at *;generalize s.num.length=n3 at *;generalize s.den.length=n4 at *;generalize r.neg=neg1 at *;generalize s.neg=neg2 at *;have aU:(s1 != s2)=x:=hx.symm;have bz:(s1 == s2)=!x:=by rw [hx];simp [bne]
 clear ag ah az aA hR h1 h2 h3 h4 hr hs ar aB hx;go_enter Tryz.func97,Tryz.ntmps97;go_wp2_with fail;rw [<-aT.out];refine (aO.out _ HM.out.2.2).mono ?_;rintro e w3 ⟨⟨u3,u4,rfl,aD,aF⟩,am⟩;have HN:=af aD;have HD:=af aF;have aV:=af (HM.out.1.kept am);have aW:=af (HM.out.2.1.kept am);have aw:=aS.out.kept am;have g0:=aw.cell (i:=0) (by simp);have g1:=aw.cell (i:=1) (by simp);have g2:=aw.cell (i:=2) (by simp);simp only [List.getElem_cons_succ,List.getElem_cons_zero] at g0 g1 g2;have aG:=af (HM.out.2.2.trans am);clear aD aF am aw;go_wp2_with fail;refine (aP.out _ aG.out).mono ?_;rintro e w4 ⟨⟨u5,u6,rfl,aH,aI⟩,aj⟩;have HN':=af (HN.out.kept aj);have HD':=af (HD.out.kept aj);have aX:=af aH;have aY:=af aI;have aZ:=af (aV.out.kept aj);have a_:=af (aW.out.kept aj);have bd:=af (aG.out.trans aj);clear aH aI aj g0 g1 g2;go_wp2_with fail;refine (aQ.out _ _ _ HN'.out aX.out).mono ?_;rintro e w5 ⟨⟨v5,rfl,aJ⟩,al⟩;have bf:=af aJ;have bh:=af (aZ.out.kept al);have bi:=af (a_.out.kept al);have bj:=af (HD'.out.kept al);have bk:=af (aY.out.kept al);have bl:=af (bd.out.trans al);clear aJ al;go_wp2_with fail;refine (aR.out _ _ _ bj.out bk.out).mono ?_;rintro e w6 ⟨⟨v6,rfl,aK⟩,ap⟩;have aL:=af aK;have aq:=af (bf.out.kept ap)
 have bo:=af (bh.out.kept ap);have bp:=af (bi.out.kept ap);have bq:=af (bl.out.trans ap);clear aK ap;go_wp2_with fail
 first
  | (refine (aC.out _ _ _ aq.out aL.out).mono ?_)
  | (rw [aU];refine (aC.out _ _ _ aq.out aL.out).mono ?_)
 rintro e w7 ⟨⟨v7,rfl,aM⟩,ay⟩;have bA:=af aM;have ai:=bo.out.kept ay;have br:=af (bp.out.kept ay);have bt:=af (bq.out.trans ay);obtain ⟨u7,u8,rfl,k7,k8⟩:=aM;obtain ⟨a7,c7,rfl⟩:=k7.shape;obtain ⟨a8,c8,rfl⟩:=k8.shape;obtain ⟨y0,y1,y2,aN⟩:=iC ai br.out k7 k8;have g0:=ai.cell (i:=0) (by simp);have g1:=ai.cell (i:=1) (by simp);have g2:=ai.cell (i:=2) (by simp);have f0:=ai.free 0;have f1:=ai.free 1;have f2:=ai.free 2;have bw:=af aN;have Y0:=af y0;have Y1:=af y1;have Y2:=af y2;clear aN y0 y1 y2 k7 k8 ai ay;generalize R.num.length=n7 at *;generalize R.den.length=n8 at *;go_wp2;refine bodyPost_ret (v:=.agg #[.bool R.neg,.slice a7 n7 c7,.slice a8 n8 c8]) ?_ rfl ⟨⟨_,rfl,bw.out⟩,?_⟩
 ·simp [results,Tryz.results97,go_sem,Y0.out,Y1.out,Y2.out]
 ·exact ((bt.out.store (by omega) _ _).store (by omega) _ _).store (by omega) _ _
theorem qd {p q k:Nat} (hp:(nw p).length<=k) (hq:(nw q).length<=k):(nw (p+q)).length<=k+1:=by
 have hp:=iw.1 hp;have hq:=iw.1 hq;refine iw.2 ?_;rw [Nat.pow_succ];omega
theorem jk {p q:Nat} (h:p<=q):(nw p).length<=(nw q).length:=iw.2 (Nat.lt_of_le_of_lt h (iw.1 (Nat.le_refl _)))
theorem DO (va vb:Value) (r s:Rw) (w:World) (ha:RatAt w va r) (hb:RatAt w vb s) (hr:r.Short 68719476736) (hs:s.Short 68719476736) (hss:(gP r).1=(gP s).1):Calls Tryz.prog 117 #[va,vb] w fun e w'=>(∃ v',e=.returned v'/\RatAt w' v' (gR (gT r+gT s)))/\gO w w':=by
 have a_:=af (fun W (hk:gO w W)=>ju va r W (ha.kept hk) ⟨Nat.le_trans hr.1 (by omega),Nat.le_trans hr.2 (by omega)⟩);have bd:=af (fun W (hk:gO w W)=>ju vb s W (hb.kept hk) ⟨Nat.le_trans hs.1 (by omega),Nat.le_trans hs.2 (by omega)⟩);have ah:=ij ha.ok;have ai:=ij hb.ok;have aA:=il hr (by omega);have aB:=il hs (by omega);obtain ⟨R,hR⟩:∃ R,R=gR (gT r+gT s):=⟨_,rfl⟩;obtain ⟨p,hp⟩:∃ p,p=nv (gP r).2.1*nv (gP s).2.2:=⟨_,rfl⟩;obtain ⟨q,hq⟩:∃ q,q=nv (gP s).2.1*nv (gP r).2.2:=⟨_,rfl⟩;obtain ⟨d,hd⟩:∃ d,d=nv (gP r).2.2*nv (gP s).2.2:=⟨_,rfl⟩;have aL:(nw p).length<=137438953472:=by rw [hp];exact Nat.le_trans (ip ah.1 ai.2.1) (by omega)
 have aM:(nw q).length<=137438953472:=by rw [hq];exact Nat.le_trans (ip ai.1 ah.2.1) (by omega)
 have aN:(nw d).length<=137438953472:=by rw [hd];exact Nat.le_trans (ip ah.2.1 ai.2.1) (by omega)
 have aC:d≠0:=by rw [hd];exact Nat.mul_ne_zero ah.2.2.1 ai.2.2.1
 have bf:Hid (∀ W u1 u2,WdsAt W u1 (nw p)->WdsAt W u2 (nw q)->Calls Tryz.prog 178 #[u1,u2] W fun e w'=>(∃ v',e=.returned v'/\WdsAt w' v' (nw (p+q)))/\gO W w'):=af fun W u1 u2 k1 k2=>by
  have h:=FE u1 u2 _ _ W k1 k2 (by omega) (by omega);rw [gW,gW] at h;exact h
 have bh:Hid (∀ W u1 u2,WdsAt W u1 (nw (p+q))->WdsAt W u2 (nw d)->Calls Tryz.prog 141 #[.bool (gP r).1,u1,u2] W fun e w'=>(∃ v,e=.returned v/\RatAt w' v R)/\gO W w'):=af fun W u1 u2 k1 k2=>by
  have h:=lf (gP r).1 u1 u2 _ _ W k1 k2 (Nat.le_trans (qd aL aM) (by omega)) (Nat.le_trans aN (by omega)) (by rw [gW];exact aC);rw [gW,gW,jA _ _ _ aC,hp,hq,hd,rF ha.ok hb.ok hss,<-hR] at h;exact h
 have bi:Hid (∀ W u1 u2,WdsAt W u1 (gP r).2.1->WdsAt W u2 (gP s).2.2->Calls Tryz.prog 156 #[u1,u2] W fun e w'=>(∃ v',e=.returned v'/\WdsAt w' v' (nw p))/\gO W w'):=af fun W u1 u2 k1 k2=>by rw [hp];exact kz u1 u2 _ _ W k1 k2 (by omega) (by omega)
 have bj:Hid (∀ W u1 u2,WdsAt W u1 (gP s).2.1->WdsAt W u2 (gP r).2.2->Calls Tryz.prog 156 #[u1,u2] W fun e w'=>(∃ v',e=.returned v'/\WdsAt w' v' (nw q))/\gO W w'):=af fun W u1 u2 k1 k2=>by rw [hq];exact kz u1 u2 _ _ W k1 k2 (by omega) (by omega)
 have bk:Hid (∀ W u1 u2,WdsAt W u1 (gP r).2.2->WdsAt W u2 (gP s).2.2->Calls Tryz.prog 156 #[u1,u2] W fun e w'=>(∃ v',e=.returned v'/\WdsAt w' v' (nw d))/\gO W w'):=af fun W u1 u2 k1 k2=>by rw [hd];exact kz u1 u2 _ _ W k1 k2 (by omega) (by omega)
 rw [<-hR];obtain ⟨u1,u2,rfl,h1,h2⟩:=ha;obtain ⟨u3,u4,rfl,h3,h4⟩:=hb;obtain ⟨a1,c1,rfl⟩:=h1.shape;obtain ⟨a2,c2,rfl⟩:=h2.shape;obtain ⟨a3,c3,rfl⟩:=h3.shape;obtain ⟨a4,c4,rfl⟩:=h4.shape;obtain ⟨w2,ay⟩:∃ w2,w2=((w.alloc (.cells #[.bool r.neg,.slice a1 r.num.length c1,.slice a2 r.den.length c2] 29)).alloc (.cells #[.bool s.neg,.slice a3 s.num.length c3,.slice a4 s.den.length c4] 29)).alloc (.cells #[.bool false,.slice none 0 0,.slice none 0 0] 29):=⟨_,rfl⟩;have HM:=af (jq w (.cells #[.bool r.neg,.slice a1 r.num.length c1,.slice a2 r.den.length c2] 29) (.cells #[.bool s.neg,.slice a3 s.num.length c3,.slice a4 s.den.length c4] 29));rw [<-ay] at HM;have aD:=gS.made (w.alloc (.cells #[.bool r.neg,.slice a1 r.num.length c1,.slice a2 r.den.length c2] 29)) #[.bool s.neg,.slice a3 s.num.length c3,.slice a4 s.den.length c4] 29;simp only [World.size_alloc] at aD;have bl:Hid (gS w2 (w.heap.size+1) 29 [.bool s.neg,.slice a3 s.num.length c3,.slice a4 s.den.length c4]):=af (by rw [ay];exact aD.kept ((gO.refl _).alloc _));have bo:=af ay;generalize nw d=DE at *;generalize (gP r).1=s1 at *;generalize (gP s).1=s2 at *;generalize (gP r).2.1=N at *;generalize (gP r).2.2=D at *;generalize (gP s).2.1=M at *;generalize (gP s).2.2=E at *;generalize r.num.length=n1 at *;generalize r.den.length=n2 at *;generalize s.num.length=n3 at *;generalize s.den.length=n4 at *
 generalize r.neg=neg1 at *;generalize s.neg=neg2 at *;clear ah ai aA aB hR h1 h2 h3 h4 hr hs ay aD hp hq hd aL aM aN aC;have hb:(s1 == s2)=true:=by simpa using hss
 clear hss;go_enter Tryz.func117,Tryz.ntmps117;go_wp2_with fail;rw [<-bo.out];refine (a_.out _ HM.out.2.2).mono ?_;rintro e w3 ⟨⟨u3,u4,rfl,aO,aP⟩,ar⟩;have HN:=af aO;have HD:=af aP;have bp:=af (HM.out.1.kept ar);have bq:=af (HM.out.2.1.kept ar);have az:=bl.out.kept ar;have g0:=az.cell (i:=0) (by simp);have g1:=az.cell (i:=1) (by simp);have g2:=az.cell (i:=2) (by simp);simp only [List.getElem_cons_succ,List.getElem_cons_zero] at g0 g1 g2;have aQ:=af (HM.out.2.2.trans ar);clear aO aP ar az;go_wp2_with fail;refine (bd.out _ aQ.out).mono ?_;rintro e w4 ⟨⟨u5,u6,rfl,aR,aS⟩,ap⟩;have HN':=af (HN.out.kept ap);have HD':=af (HD.out.kept ap);have br:=af aR;have aT:=af aS;have bt:=af (bp.out.kept ap);have bw:=af (bq.out.kept ap);have bz:=af (aQ.out.trans ap);clear aR aS ap g0 g1 g2;go_wp2_with fail;refine (bi.out _ _ _ HN'.out aT.out).mono ?_;rintro e w5 ⟨⟨v5,rfl,aU⟩,al⟩;have bA:=af aU;have bB:=af (bt.out.kept al);have bC:=af (bw.out.kept al);have aV:=af (HD'.out.kept al);have bD:=af (aT.out.kept al);have bE:=af (br.out.kept al);have bF:=af (bz.out.trans al);clear aU al;go_wp2_with fail;refine (bj.out _ _ _ bE.out aV.out).mono ?_;rintro e w6 ⟨⟨v6,rfl,aW⟩,am⟩;have bG:=af aW;have aF:=af (bA.out.kept am)
 have bH:=af (bB.out.kept am);have bI:=af (bC.out.kept am);have bJ:=af (aV.out.kept am);have bK:=af (bD.out.kept am);have bL:=af (bF.out.trans am);clear aW am;go_wp2_with fail;refine (bk.out _ _ _ bJ.out bK.out).mono ?_;rintro e w7 ⟨⟨v7,rfl,aX⟩,aq⟩;have bM:=af aX;have bN:=af (aF.out.kept aq);have bO:=af (bG.out.kept aq);have bP:=af (bH.out.kept aq);have bQ:=af (bI.out.kept aq);have bR:=af (bL.out.trans aq);clear aX aq;go_wp2_with fail;refine (bf.out _ _ _ bN.out bO.out).mono ?_;rintro e w9 ⟨⟨v9,rfl,aY⟩,aw⟩;have aG:=bM;have bS:=bP;have bT:=bQ;have bU:=bR;have bV:=af aY;have aH:=af (aG.out.kept aw);have bW:=af (bS.out.kept aw);have bX:=af (bT.out.kept aw);have bY:=af (bU.out.trans aw);clear aY aw;go_wp2_with fail;refine (bh.out _ _ _ bV.out aH.out).mono ?_;rintro e w10 ⟨⟨v10,rfl,aI⟩,aj⟩;have ag:=bW.out.kept aj;have aJ:=af (bX.out.kept aj);have aK:=af (bY.out.trans aj);obtain ⟨u7,u8,rfl,k7,k8⟩:=aI;obtain ⟨a7,c7,rfl⟩:=k7.shape;obtain ⟨a8,c8,rfl⟩:=k8.shape;obtain ⟨y0,y1,y2,aZ⟩:=iC ag aJ.out k7 k8;have g0:=ag.cell (i:=0) (by simp);have g1:=ag.cell (i:=1) (by simp);have g2:=ag.cell (i:=2) (by simp);have f0:=ag.free 0;have f1:=ag.free 1;have f2:=ag.free 2
 have bZ:=af aZ;have Y0:=af y0;have Y1:=af y1;have Y2:=af y2;clear aZ y0 y1 y2 k7 k8 ag aj;generalize R.num.length=n7 at *;generalize R.den.length=n8 at *;go_wp2;refine bodyPost_ret (v:=.agg #[.bool R.neg,.slice a7 n7 c7,.slice a8 n8 c8]) ?_ rfl ⟨⟨_,rfl,bZ.out⟩,?_⟩
 ·simp [results,Tryz.results117,go_sem,Y0.out,Y1.out,Y2.out]
 ·exact ((aK.out.store (by omega) _ _).store (by omega) _ _).store (by omega) _ _
theorem Iq (va vb:Value) (r s:Rw) (w:World) (ha:RatAt w va r) (hb:RatAt w vb s) (hr:r.Short 68719476736) (hs:s.Short 68719476736) (hss:(gP r).1≠(gP s).1) (aw:nv (gP s).2.1*nv (gP r).2.2<=nv (gP r).2.1*nv (gP s).2.2):Calls Tryz.prog 117 #[va,vb] w fun e w'=>(∃ v',e=.returned v'/\RatAt w' v' (gR (gT r+gT s)))/\gO w w':=by
 have bk:=af (fun W (hk:gO w W)=>ju va r W (ha.kept hk) ⟨Nat.le_trans hr.1 (by omega),Nat.le_trans hr.2 (by omega)⟩);have bl:=af (fun W (hk:gO w W)=>ju vb s W (hb.kept hk) ⟨Nat.le_trans hs.1 (by omega),Nat.le_trans hs.2 (by omega)⟩);have ah:=ij ha.ok;have ai:=ij hb.ok;have aC:=il hr (by omega);have aD:=il hs (by omega);obtain ⟨R,hR⟩:∃ R,R=gR (gT r+gT s):=⟨_,rfl⟩;obtain ⟨p,hp⟩:∃ p,p=nv (gP r).2.1*nv (gP s).2.2:=⟨_,rfl⟩;obtain ⟨q,hq⟩:∃ q,q=nv (gP s).2.1*nv (gP r).2.2:=⟨_,rfl⟩;obtain ⟨d,hd⟩:∃ d,d=nv (gP r).2.2*nv (gP s).2.2:=⟨_,rfl⟩;have bo:(nw p).length<=137438953472:=by rw [hp];exact Nat.le_trans (ip ah.1 ai.2.1) (by omega)
 have bp:(nw q).length<=137438953472:=by rw [hq];exact Nat.le_trans (ip ai.1 ah.2.1) (by omega)
 have aQ:(nw d).length<=137438953472:=by rw [hd];exact Nat.le_trans (ip ah.2.1 ai.2.1) (by omega)
 have aF:d≠0:=by rw [hd];exact Nat.mul_ne_zero ah.2.2.1 ai.2.2.1
 rw [<-hp,<-hq] at aw
 have aR:Hid (∀ W u1 u2,WdsAt W u1 (nw p)->WdsAt W u2 (nw q)->Calls Tryz.prog 69 #[u1,u2] W fun e w'=>e=.returned (.int .i64 (kv p q))/\gO W w'):=af fun W u1 u2 k1 k2=>by
  have h:=lB u1 u2 _ _ W k1 k2;rw [gW,gW] at h;exact h
 have bq:Hid (∀ W u1 u2,WdsAt W u1 (nw p)->WdsAt W u2 (nw q)->Calls Tryz.prog 179 #[u1,u2] W fun e w'=>(∃ v',e=.returned (.tuple #[v',.nilIface])/\WdsAt w' v' (nw (p - q)))/\gO W w'):=af fun W u1 u2 k1 k2=>by
  have h:=yP u1 u2 _ _ W k1 k2 (by rw [gW,gW];exact aw);rw [gW,gW] at h;exact h
 obtain ⟨cm,aG⟩:∃ cm,cm=kv p q:=⟨_,rfl⟩;rw [<-aG] at aR
 have br:¬ cm<0:=by
  rw [aG];rcases Nat.lt_or_ge q p with h | h
  ·rw [lY h];omega
  ·rw [mK (by omega)];omega
 have bt:Hid (∀ W u1 u2,WdsAt W u1 (nw (p - q))->WdsAt W u2 (nw d)->Calls Tryz.prog 141 #[.bool (gP r).1,u1,u2] W fun e w'=>(∃ v,e=.returned v/\RatAt w' v R)/\gO W w'):=af fun W u1 u2 k1 k2=>by
  have h:=lf (gP r).1 u1 u2 _ _ W k1 k2 (Nat.le_trans (jk (Nat.sub_le p q)) (by omega)) (Nat.le_trans aQ (by omega)) (by rw [gW];exact aF);rw [gW,gW,jA _ _ _ aF,hp,hq,hd,rI ha.ok hb.ok hss (by rw [hp,hq] at aw;exact aw),<-hR] at h;exact h
 have bw:Hid (∀ W u1 u2,WdsAt W u1 (gP r).2.1->WdsAt W u2 (gP s).2.2->Calls Tryz.prog 156 #[u1,u2] W fun e w'=>(∃ v',e=.returned v'/\WdsAt w' v' (nw p))/\gO W w'):=af fun W u1 u2 k1 k2=>by rw [hp];exact kz u1 u2 _ _ W k1 k2 (by omega) (by omega)
 have bz:Hid (∀ W u1 u2,WdsAt W u1 (gP s).2.1->WdsAt W u2 (gP r).2.2->Calls Tryz.prog 156 #[u1,u2] W fun e w'=>(∃ v',e=.returned v'/\WdsAt w' v' (nw q))/\gO W w'):=af fun W u1 u2 k1 k2=>by rw [hq];exact kz u1 u2 _ _ W k1 k2 (by omega) (by omega)
 have bA:Hid (∀ W u1 u2,WdsAt W u1 (gP r).2.2->WdsAt W u2 (gP s).2.2->Calls Tryz.prog 156 #[u1,u2] W fun e w'=>(∃ v',e=.returned v'/\WdsAt w' v' (nw d))/\gO W w'):=af fun W u1 u2 k1 k2=>by rw [hd];exact kz u1 u2 _ _ W k1 k2 (by omega) (by omega)
 rw [<-hR];obtain ⟨u1,u2,rfl,h1,h2⟩:=ha;obtain ⟨u3,u4,rfl,h3,h4⟩:=hb;obtain ⟨a1,c1,rfl⟩:=h1.shape;obtain ⟨a2,c2,rfl⟩:=h2.shape;obtain ⟨a3,c3,rfl⟩:=h3.shape;obtain ⟨a4,c4,rfl⟩:=h4.shape;obtain ⟨w2,aA⟩:∃ w2,w2=((w.alloc (.cells #[.bool r.neg,.slice a1 r.num.length c1,.slice a2 r.den.length c2] 29)).alloc (.cells #[.bool s.neg,.slice a3 s.num.length c3,.slice a4 s.den.length c4] 29)).alloc (.cells #[.bool false,.slice none 0 0,.slice none 0 0] 29):=⟨_,rfl⟩;have HM:=af (jq w (.cells #[.bool r.neg,.slice a1 r.num.length c1,.slice a2 r.den.length c2] 29) (.cells #[.bool s.neg,.slice a3 s.num.length c3,.slice a4 s.den.length c4] 29));rw [<-aA] at HM;have aH:=gS.made (w.alloc (.cells #[.bool r.neg,.slice a1 r.num.length c1,.slice a2 r.den.length c2] 29)) #[.bool s.neg,.slice a3 s.num.length c3,.slice a4 s.den.length c4] 29;simp only [World.size_alloc] at aH;have bB:Hid (gS w2 (w.heap.size+1) 29 [.bool s.neg,.slice a3 s.num.length c3,.slice a4 s.den.length c4]):=af (by rw [aA];exact aH.kept ((gO.refl _).alloc _));have bC:=af aA;generalize nw d=DE at *;generalize (gP r).1=s1 at *;generalize (gP s).1=s2 at *;generalize (gP r).2.1=N at *;generalize (gP r).2.2=D at *;generalize (gP s).2.1=M at *;generalize (gP s).2.2=E at *;generalize r.num.length=n1 at *;generalize r.den.length=n2 at *;generalize s.num.length=n3 at *;generalize s.den.length=n4 at *
 generalize r.neg=neg1 at *;generalize s.neg=neg2 at *;clear ah ai aC aD hR h1 h2 h3 h4 hr hs aA aH hp hq hd bo bp aQ aF;have hb:(s1 == s2)=false:=by simpa using hss
 clear hss aG aw;go_enter Tryz.func117,Tryz.ntmps117;go_wp2_with fail;rw [<-bC.out];refine (bk.out _ HM.out.2.2).mono ?_;rintro e w3 ⟨⟨u3,u4,rfl,aS,aT⟩,ay⟩;have HN:=af aS;have HD:=af aT;have bD:=af (HM.out.1.kept ay);have bE:=af (HM.out.2.1.kept ay);have aB:=bB.out.kept ay;have g0:=aB.cell (i:=0) (by simp);have g1:=aB.cell (i:=1) (by simp);have g2:=aB.cell (i:=2) (by simp);simp only [List.getElem_cons_succ,List.getElem_cons_zero] at g0 g1 g2;have aU:=af (HM.out.2.2.trans ay);clear aS aT ay aB;go_wp2_with fail;refine (bl.out _ aU.out).mono ?_;rintro e w4 ⟨⟨u5,u6,rfl,aV,aW⟩,aq⟩;have HN':=af (HN.out.kept aq);have HD':=af (HD.out.kept aq);have bF:=af aV;have aX:=af aW;have bG:=af (bD.out.kept aq);have bH:=af (bE.out.kept aq);have bI:=af (aU.out.trans aq);clear aV aW aq g0 g1 g2;go_wp2_with fail;refine (bw.out _ _ _ HN'.out aX.out).mono ?_;rintro e w5 ⟨⟨v5,rfl,aY⟩,al⟩;have bJ:=af aY;have bK:=af (bG.out.kept al);have bL:=af (bH.out.kept al);have aZ:=af (HD'.out.kept al);have bM:=af (aX.out.kept al);have bN:=af (bF.out.kept al);have bO:=af (bI.out.trans al);clear aY al;go_wp2_with fail;refine (bz.out _ _ _ bN.out aZ.out).mono ?_;rintro e w6 ⟨⟨v6,rfl,a_⟩,am⟩;have bP:=af a_;have aI:=af (bJ.out.kept am)
 have bQ:=af (bK.out.kept am);have bR:=af (bL.out.kept am);have bS:=af (aZ.out.kept am);have bT:=af (bM.out.kept am);have bU:=af (bO.out.trans am);clear a_ am;go_wp2_with fail;refine (bA.out _ _ _ bS.out bT.out).mono ?_;rintro e w7 ⟨⟨v7,rfl,bd⟩,ar⟩;have bV:=af bd;have bf:=af (aI.out.kept ar);have bh:=af (bP.out.kept ar);have bW:=af (bQ.out.kept ar);have bX:=af (bR.out.kept ar);have bY:=af (bU.out.trans ar);clear bd ar;go_wp2_with fail;refine (aR.out _ _ _ bf.out bh.out).mono ?_;rintro e w8 ⟨rfl,ap⟩;have aJ:=af (bV.out.kept ap);have aK:=af (bf.out.kept ap);have aL:=af (bh.out.kept ap);have bZ:=af (bW.out.kept ap);have b_:=af (bX.out.kept ap);have cd:=af (bY.out.trans ap);clear ap;go_wp2_with fail;refine (bq.out _ _ _ aK.out aL.out).mono ?_;rintro e w9 ⟨⟨v9,rfl,bi⟩,az⟩;have ci:=af bi;have aM:=af (aJ.out.kept az);have cj:=af (bZ.out.kept az);have ck:=af (b_.out.kept az);have cn:=af (cd.out.trans az);clear bi az;go_wp2_with fail;refine (bt.out _ _ _ ci.out aM.out).mono ?_;rintro e w10 ⟨⟨v10,rfl,aN⟩,aj⟩;have ag:=cj.out.kept aj;have aO:=af (ck.out.kept aj);have aP:=af (cn.out.trans aj);obtain ⟨u7,u8,rfl,k7,k8⟩:=aN;obtain ⟨a7,c7,rfl⟩:=k7.shape
 obtain ⟨a8,c8,rfl⟩:=k8.shape;obtain ⟨y0,y1,y2,bj⟩:=iC ag aO.out k7 k8;have g0:=ag.cell (i:=0) (by simp);have g1:=ag.cell (i:=1) (by simp);have g2:=ag.cell (i:=2) (by simp);have f0:=ag.free 0;have f1:=ag.free 1;have f2:=ag.free 2;have cq:=af bj;have Y0:=af y0;have Y1:=af y1;have Y2:=af y2;clear bj y0 y1 y2 k7 k8 ag aj;generalize R.num.length=n7 at *;generalize R.den.length=n8 at *;go_wp2;refine bodyPost_ret (v:=.agg #[.bool R.neg,.slice a7 n7 c7,.slice a8 n8 c8]) ?_ rfl ⟨⟨_,rfl,cq.out⟩,?_⟩
 ·simp [results,Tryz.results117,go_sem,Y0.out,Y1.out,Y2.out]
 ·exact ((aP.out.store (by omega) _ _).store (by omega) _ _).store (by omega) _ _
theorem Ir (va vb:Value) (r s:Rw) (w:World) (ha:RatAt w va r) (hb:RatAt w vb s) (hr:r.Short 68719476736) (hs:s.Short 68719476736) (hss:(gP r).1≠(gP s).1) (aq:nv (gP r).2.1*nv (gP s).2.2<nv (gP s).2.1*nv (gP r).2.2):Calls Tryz.prog 117 #[va,vb] w fun e w'=>(∃ v',e=.returned v'/\RatAt w' v' (gR (gT r+gT s)))/\gO w w':=by
 have bk:=af (fun W (hk:gO w W)=>ju va r W (ha.kept hk) ⟨Nat.le_trans hr.1 (by omega),Nat.le_trans hr.2 (by omega)⟩);have bl:=af (fun W (hk:gO w W)=>ju vb s W (hb.kept hk) ⟨Nat.le_trans hs.1 (by omega),Nat.le_trans hs.2 (by omega)⟩);have ah:=ij ha.ok;have ai:=ij hb.ok;have aC:=il hr (by omega);have aD:=il hs (by omega);obtain ⟨R,hR⟩:∃ R,R=gR (gT r+gT s):=⟨_,rfl⟩;obtain ⟨p,hp⟩:∃ p,p=nv (gP r).2.1*nv (gP s).2.2:=⟨_,rfl⟩;obtain ⟨q,hq⟩:∃ q,q=nv (gP s).2.1*nv (gP r).2.2:=⟨_,rfl⟩;obtain ⟨d,hd⟩:∃ d,d=nv (gP r).2.2*nv (gP s).2.2:=⟨_,rfl⟩;have bo:(nw p).length<=137438953472:=by rw [hp];exact Nat.le_trans (ip ah.1 ai.2.1) (by omega)
 have bp:(nw q).length<=137438953472:=by rw [hq];exact Nat.le_trans (ip ai.1 ah.2.1) (by omega)
 have aQ:(nw d).length<=137438953472:=by rw [hd];exact Nat.le_trans (ip ah.2.1 ai.2.1) (by omega)
 have aF:d≠0:=by rw [hd];exact Nat.mul_ne_zero ah.2.2.1 ai.2.2.1
 rw [<-hp,<-hq] at aq
 have aR:Hid (∀ W u1 u2,WdsAt W u1 (nw p)->WdsAt W u2 (nw q)->Calls Tryz.prog 69 #[u1,u2] W fun e w'=>e=.returned (.int .i64 (kv p q))/\gO W w'):=af fun W u1 u2 k1 k2=>by
  have h:=lB u1 u2 _ _ W k1 k2;rw [gW,gW] at h;exact h
 have bq:Hid (∀ W u1 u2,WdsAt W u1 (nw q)->WdsAt W u2 (nw p)->Calls Tryz.prog 179 #[u1,u2] W fun e w'=>(∃ v',e=.returned (.tuple #[v',.nilIface])/\WdsAt w' v' (nw (q - p)))/\gO W w'):=af fun W u1 u2 k1 k2=>by
  have h:=yP u1 u2 _ _ W k1 k2 (by rw [gW,gW];exact Nat.le_of_lt aq);rw [gW,gW] at h;exact h
 obtain ⟨cm,aG⟩:∃ cm,cm=kv p q:=⟨_,rfl⟩;rw [<-aG] at aR
 have br:cm<0:=by
  rw [aG];rw [mL aq];omega
 have bt:Hid (∀ W u1 u2,WdsAt W u1 (nw (q - p))->WdsAt W u2 (nw d)->Calls Tryz.prog 141 #[.bool (gP s).1,u1,u2] W fun e w'=>(∃ v,e=.returned v/\RatAt w' v R)/\gO W w'):=af fun W u1 u2 k1 k2=>by
  have h:=lf (gP s).1 u1 u2 _ _ W k1 k2 (Nat.le_trans (jk (Nat.sub_le q p)) (by omega)) (Nat.le_trans aQ (by omega)) (by rw [gW];exact aF);rw [gW,gW,jA _ _ _ aF,hp,hq,hd,qh ha.ok hb.ok hss (by rw [hp,hq] at aq;exact Nat.le_of_lt aq),<-hR] at h;exact h
 have bw:Hid (∀ W u1 u2,WdsAt W u1 (gP r).2.1->WdsAt W u2 (gP s).2.2->Calls Tryz.prog 156 #[u1,u2] W fun e w'=>(∃ v',e=.returned v'/\WdsAt w' v' (nw p))/\gO W w'):=af fun W u1 u2 k1 k2=>by rw [hp];exact kz u1 u2 _ _ W k1 k2 (by omega) (by omega)
 have bz:Hid (∀ W u1 u2,WdsAt W u1 (gP s).2.1->WdsAt W u2 (gP r).2.2->Calls Tryz.prog 156 #[u1,u2] W fun e w'=>(∃ v',e=.returned v'/\WdsAt w' v' (nw q))/\gO W w'):=af fun W u1 u2 k1 k2=>by rw [hq];exact kz u1 u2 _ _ W k1 k2 (by omega) (by omega)
 have bA:Hid (∀ W u1 u2,WdsAt W u1 (gP r).2.2->WdsAt W u2 (gP s).2.2->Calls Tryz.prog 156 #[u1,u2] W fun e w'=>(∃ v',e=.returned v'/\WdsAt w' v' (nw d))/\gO W w'):=af fun W u1 u2 k1 k2=>by rw [hd];exact kz u1 u2 _ _ W k1 k2 (by omega) (by omega)
 rw [<-hR];obtain ⟨u1,u2,rfl,h1,h2⟩:=ha;obtain ⟨u3,u4,rfl,h3,h4⟩:=hb;obtain ⟨a1,c1,rfl⟩:=h1.shape;obtain ⟨a2,c2,rfl⟩:=h2.shape;obtain ⟨a3,c3,rfl⟩:=h3.shape;obtain ⟨a4,c4,rfl⟩:=h4.shape;obtain ⟨w2,aA⟩:∃ w2,w2=((w.alloc (.cells #[.bool r.neg,.slice a1 r.num.length c1,.slice a2 r.den.length c2] 29)).alloc (.cells #[.bool s.neg,.slice a3 s.num.length c3,.slice a4 s.den.length c4] 29)).alloc (.cells #[.bool false,.slice none 0 0,.slice none 0 0] 29):=⟨_,rfl⟩;have HM:=af (jq w (.cells #[.bool r.neg,.slice a1 r.num.length c1,.slice a2 r.den.length c2] 29) (.cells #[.bool s.neg,.slice a3 s.num.length c3,.slice a4 s.den.length c4] 29));rw [<-aA] at HM;have aH:=gS.made (w.alloc (.cells #[.bool r.neg,.slice a1 r.num.length c1,.slice a2 r.den.length c2] 29)) #[.bool s.neg,.slice a3 s.num.length c3,.slice a4 s.den.length c4] 29;simp only [World.size_alloc] at aH;have bB:Hid (gS w2 (w.heap.size+1) 29 [.bool s.neg,.slice a3 s.num.length c3,.slice a4 s.den.length c4]):=af (by rw [aA];exact aH.kept ((gO.refl _).alloc _));have bC:=af aA;generalize nw d=DE at *;generalize (gP r).1=s1 at *;generalize (gP s).1=s2 at *;generalize (gP r).2.1=N at *;generalize (gP r).2.2=D at *;generalize (gP s).2.1=M at *;generalize (gP s).2.2=E at *;generalize r.num.length=n1 at *;generalize r.den.length=n2 at *;generalize s.num.length=n3 at *;generalize s.den.length=n4 at *
 generalize r.neg=neg1 at *;generalize s.neg=neg2 at *;clear ah ai aC aD hR h1 h2 h3 h4 hr hs aA aH hp hq hd bo bp aQ aF;have hb:(s1 == s2)=false:=by simpa using hss
 clear hss aG aq;go_enter Tryz.func117,Tryz.ntmps117;go_wp2_with fail;rw [<-bC.out];refine (bk.out _ HM.out.2.2).mono ?_;rintro e w3 ⟨⟨u3,u4,rfl,aS,aT⟩,ay⟩;have HN:=af aS;have HD:=af aT;have bD:=af (HM.out.1.kept ay);have bE:=af (HM.out.2.1.kept ay);have aB:=bB.out.kept ay;have g0:=aB.cell (i:=0) (by simp);have g1:=aB.cell (i:=1) (by simp);have g2:=aB.cell (i:=2) (by simp);simp only [List.getElem_cons_succ,List.getElem_cons_zero] at g0 g1 g2;have aU:=af (HM.out.2.2.trans ay);clear aS aT ay aB;go_wp2_with fail;refine (bl.out _ aU.out).mono ?_;rintro e w4 ⟨⟨u5,u6,rfl,aV,aW⟩,ar⟩;have HN':=af (HN.out.kept ar);have HD':=af (HD.out.kept ar);have bF:=af aV;have aX:=af aW;have bG:=af (bD.out.kept ar);have bH:=af (bE.out.kept ar);have bI:=af (aU.out.trans ar);clear aV aW ar g0 g1 g2;go_wp2_with fail;refine (bw.out _ _ _ HN'.out aX.out).mono ?_;rintro e w5 ⟨⟨v5,rfl,aY⟩,al⟩;have bJ:=af aY;have bK:=af (bG.out.kept al);have bL:=af (bH.out.kept al);have aZ:=af (HD'.out.kept al);have bM:=af (aX.out.kept al);have bN:=af (bF.out.kept al);have bO:=af (bI.out.trans al);clear aY al;go_wp2_with fail;refine (bz.out _ _ _ bN.out aZ.out).mono ?_;rintro e w6 ⟨⟨v6,rfl,a_⟩,am⟩;have bP:=af a_;have aI:=af (bJ.out.kept am)
 have bQ:=af (bK.out.kept am);have bR:=af (bL.out.kept am);have bS:=af (aZ.out.kept am);have bT:=af (bM.out.kept am);have bU:=af (bO.out.trans am);clear a_ am;go_wp2_with fail;refine (bA.out _ _ _ bS.out bT.out).mono ?_;rintro e w7 ⟨⟨v7,rfl,bd⟩,aw⟩;have bV:=af bd;have bf:=af (aI.out.kept aw);have bh:=af (bP.out.kept aw);have bW:=af (bQ.out.kept aw);have bX:=af (bR.out.kept aw);have bY:=af (bU.out.trans aw);clear bd aw;go_wp2_with fail;refine (aR.out _ _ _ bf.out bh.out).mono ?_;rintro e w8 ⟨rfl,ap⟩;have aJ:=af (bV.out.kept ap);have aK:=af (bf.out.kept ap);have aL:=af (bh.out.kept ap);have bZ:=af (bW.out.kept ap);have b_:=af (bX.out.kept ap);have cd:=af (bY.out.trans ap);clear ap;go_wp2_with fail;refine (bq.out _ _ _ aL.out aK.out).mono ?_;rintro e w9 ⟨⟨v9,rfl,bi⟩,az⟩;have ci:=af bi;have aM:=af (aJ.out.kept az);have cj:=af (bZ.out.kept az);have ck:=af (b_.out.kept az);have cn:=af (cd.out.trans az);clear bi az;go_wp2_with fail;refine (bt.out _ _ _ ci.out aM.out).mono ?_;rintro e w10 ⟨⟨v10,rfl,aN⟩,aj⟩;have ag:=cj.out.kept aj;have aO:=af (ck.out.kept aj);have aP:=af (cn.out.trans aj);obtain ⟨u7,u8,rfl,k7,k8⟩:=aN;obtain ⟨a7,c7,rfl⟩:=k7.shape
 obtain ⟨a8,c8,rfl⟩:=k8.shape;obtain ⟨y0,y1,y2,bj⟩:=iC ag aO.out k7 k8;have g0:=ag.cell (i:=0) (by simp);have g1:=ag.cell (i:=1) (by simp);have g2:=ag.cell (i:=2) (by simp);have f0:=ag.free 0;have f1:=ag.free 1;have f2:=ag.free 2;have cq:=af bj;have Y0:=af y0;have Y1:=af y1;have Y2:=af y2;clear bj y0 y1 y2 k7 k8 ag aj;generalize R.num.length=n7 at *;generalize R.den.length=n8 at *;go_wp2;refine bodyPost_ret (v:=.agg #[.bool R.neg,.slice a7 n7 c7,.slice a8 n8 c8]) ?_ rfl ⟨⟨_,rfl,cq.out⟩,?_⟩
 ·simp [results,Tryz.results117,go_sem,Y0.out,Y1.out,Y2.out]
 ·exact ((aP.out.store (by omega) _ _).store (by omega) _ _).store (by omega) _ _
theorem Gk (va vb:Value) (r s:Rw) (w:World) (ha:RatAt w va r) (hb:RatAt w vb s) (hr:r.Short 68719476736) (hs:s.Short 68719476736):Calls Tryz.prog 117 #[va,vb] w fun e w'=>(∃ v',e=.returned v'/\RatAt w' v' (gR (gT r+gT s)))/\gO w w':=by
 by_cases h:(gP r).1=(gP s).1
 ·exact DO va vb r s w ha hb hr hs h
 ·rcases Nat.lt_or_ge (nv (gP r).2.1*nv (gP s).2.2) (nv (gP s).2.1*nv (gP r).2.2) with h2 | h2
  ·exact Ir va vb r s w ha hb hr hs h h2
  ·exact Iq va vb r s w ha hb hr hs h h2
theorem kR (neg:Bool) {n d k l:Nat} (hd:d≠0) (hn:(nw n).length<=k) (ag:(nw d).length<=l):(gR (mkRat (sg neg n) d)).num.length<=k/\(gR (mkRat (sg neg n) d)).den.length<=l:=by
 rw [<-jA _ _ _ hd];unfold nt;split
 ·exact ⟨Nat.zero_le _,Nat.zero_le _⟩
 ·exact ⟨Nat.le_trans (jk (Nat.div_le_self _ _)) hn,Nat.le_trans (jk (Nat.div_le_self _ _)) ag⟩
theorem w_ {xs:List Nat} (h:Wd xs) {k:Nat} (hk:xs.length<=k):(nw (nv xs)).length<=k:=Nat.le_trans (jY h) hk
theorem lM {r:Rw} (h:r.Ok) {k:Nat} (hs:r.Short k) (hk:1<=k):(gR (- gT r)).Short k:=by
 have ag:=ij h;have ah:=il hs hk;rw [<-rH];exact kR _ ag.2.2.1 (w_ ag.1 ah.1) (w_ ag.2.1 ah.2)
theorem rO {r s:Rw} (hr:r.Ok) (hs:s.Ok) {k l:Nat} (h1:r.Short k) (h2:s.Short l) (hk:1<=k) (hl:1<=l):(gR (gT r*gT s)).Short (k+l):=by
 have ok1:=ij hr;have ok2:=ij hs;have s1:=il h1 hk;have s2:=il h2 hl;rw [<-rG];exact kR _ (Nat.mul_ne_zero ok1.2.2.1 ok2.2.2.1) (Nat.le_trans (ip ok1.1 ok2.1) (by omega)) (Nat.le_trans (ip ok1.2.1 ok2.2.1) (by omega))
theorem rN {r s:Rw} (hr:r.Ok) (hs:s.Ok) {k l:Nat} (h1:r.Short k) (h2:s.Short l) (hk:1<=k) (hl:1<=l):(gR (gT r+gT s)).Short (k+l+1):=by
 have ok1:=ij hr;have ok2:=ij hs;have s1:=il h1 hk;have s2:=il h2 hl;have hd:=Nat.mul_ne_zero ok1.2.2.1 ok2.2.2.1;have lp:(nw (nv (gP r).2.1*nv (gP s).2.2)).length<=k+l:=Nat.le_trans (ip ok1.1 ok2.2.1) (by omega);have lq:(nw (nv (gP s).2.1*nv (gP r).2.2)).length<=k+l:=Nat.le_trans (ip ok2.1 ok1.2.1) (by omega);have ld:(nw (nv (gP r).2.2*nv (gP s).2.2)).length<=k+l+1:=Nat.le_trans (ip ok1.2.1 ok2.2.1) (by omega);by_cases h:(gP r).1=(gP s).1
 ·rw [<-rF hr hs h];exact kR _ hd (qd lp lq) ld
 ·rcases Nat.lt_or_ge (nv (gP r).2.1*nv (gP s).2.2) (nv (gP s).2.1*nv (gP r).2.2) with h2 | h2
  ·rw [<-qh hr hs h (Nat.le_of_lt h2)];exact kR _ hd (Nat.le_trans (jk (Nat.sub_le _ _)) (Nat.le_succ_of_le lq)) ld
  ·rw [<-rI hr hs h h2];exact kR _ hd (Nat.le_trans (jk (Nat.sub_le _ _)) (Nat.le_succ_of_le lp)) ld
theorem zA (va vb:Value) (r s:Rw) (w:World) (ha:RatAt w va r) (hb:RatAt w vb s) (hr:r.Short 68719476736) (hs:s.Short 68719476736):Calls Tryz.prog 70 #[va,vb] w fun e w'=>(∃ v',e=.returned v'/\RatAt w' v' (gR (gT r - gT s)))/\gO w w':=by
 have aw:=af (fun W (hk:gO w W)=>Gv vb s W (hb.kept hk) ⟨Nat.le_trans hs.1 (by omega),Nat.le_trans hs.2 (by omega)⟩);obtain ⟨R,hR⟩:∃ R,R=gR (gT r - gT s):=⟨_,rfl⟩
 have ay:Hid (∀ W v,gO w W->RatAt W v (gR (- gT s))->Calls Tryz.prog 117 #[va,v] W fun e w'=>(∃ v',e=.returned v'/\RatAt w' v' R)/\gO W w'):=af fun W v hk hv=>by
  have h:=Gk va v r _ W (ha.kept hk) hv hr (lM hb.ok hs (by omega));rw [gV,<-Rat.sub_eq_add_neg,<-hR] at h;exact h
 rw [<-hR];obtain ⟨u1,u2,rfl,h1,h2⟩:=ha;obtain ⟨u3,u4,rfl,h3,h4⟩:=hb;obtain ⟨a1,c1,rfl⟩:=h1.shape;obtain ⟨a2,c2,rfl⟩:=h2.shape;obtain ⟨a3,c3,rfl⟩:=h3.shape;obtain ⟨a4,c4,rfl⟩:=h4.shape;generalize r.num.length=n1 at *;generalize r.den.length=n2 at *;generalize s.num.length=n3 at *;generalize s.den.length=n4 at *;generalize r.neg=neg1 at *;generalize s.neg=neg2 at *;obtain ⟨w2,ah⟩:∃ w2,w2=((w.alloc (.cells #[.bool neg1,.slice a1 n1 c1,.slice a2 n2 c2] 29)).alloc (.cells #[.bool neg2,.slice a3 n3 c3,.slice a4 n4 c4] 29)).alloc (.cells #[.bool false,.slice none 0 0,.slice none 0 0] 29):=⟨_,rfl⟩;have HM:=af (jq w (.cells #[.bool neg1,.slice a1 n1 c1,.slice a2 n2 c2] 29) (.cells #[.bool neg2,.slice a3 n3 c3,.slice a4 n4 c4] 29));rw [<-ah] at HM;have ha2:=gS.made w #[.bool neg1,.slice a1 n1 c1,.slice a2 n2 c2] 29;have aj:Hid (gS w2 w.heap.size 29 [.bool neg1,.slice a1 n1 c1,.slice a2 n2 c2]):=af (by rw [ah];exact ha2.kept (((gO.refl _).alloc _).alloc _));have al:=gS.made (w.alloc (.cells #[.bool neg1,.slice a1 n1 c1,.slice a2 n2 c2] 29)) #[.bool neg2,.slice a3 n3 c3,.slice a4 n4 c4] 29;simp only [World.size_alloc] at al;have am:Hid (gS w2 (w.heap.size+1) 29 [.bool neg2,.slice a3 n3 c3,.slice a4 n4 c4]):=af (by rw [ah];exact al.kept ((gO.refl _).alloc _));have az:=af ah;clear hR h1 h2 h3 h4 hr hs ah ha2 al;have p0:=aj.out.cell (i:=0) (by simp)
 have p1:=aj.out.cell (i:=1) (by simp);have p2:=aj.out.cell (i:=2) (by simp);have g0:=am.out.cell (i:=0) (by simp);have g1:=am.out.cell (i:=1) (by simp);have g2:=am.out.cell (i:=2) (by simp);simp only [List.getElem_cons_succ,List.getElem_cons_zero] at p0 p1 p2 g0 g1 g2;go_enter Tryz.func70,Tryz.ntmps70;go_wp2_with fail;rw [<-az.out]
 go_region_with (first
  | (go_at_call 118;(with_reducible refine (aw.out _ HM.out.2.2.drew).mono ?_);rintro e w3 ⟨⟨v3,rfl,ap⟩,aq⟩;have hkd:=(gO.refl w2).drew.trans aq;have x0:=hkd.cell p0;have x1:=hkd.cell p1;have x2:=hkd.cell p2;have aA:=af ap;have ar:=af hkd;have aB:=af (HM.out.1.kept hkd);have aC:=af (HM.out.2.1.kept hkd);clear ap aq hkd)
  | (go_at_call 117;(with_reducible refine (ay.out _ _ (HM.out.2.2.trans ar.out) aA.out).mono ?_);rintro e w4 ⟨⟨v4,rfl,aD⟩,ai⟩;have ag:=aB.out.kept ai;have aF:=af ag;have aG:=af (aC.out.kept ai);have aH:=af ((HM.out.2.2.trans ar.out).trans ai);obtain ⟨u5,u6,rfl,k5,k6⟩:=aD;obtain ⟨a5,c5,rfl⟩:=k5.shape;obtain ⟨a6,c6,rfl⟩:=k6.shape;have K5:=af k5;have K6:=af k6;have z0:=ag.cell (i:=0) (by simp);have z1:=ag.cell (i:=1) (by simp);have z2:=ag.cell (i:=2) (by simp);have f0:=ag.free 0;have f1:=ag.free 1;have f2:=ag.free 2;clear k5 k6 ag ai))
 all_goals
  obtain ⟨y0,y1,y2,aI⟩:=iC aF.out aG.out K5.out K6.out;generalize R.num.length=n7 at *;generalize R.den.length=n8 at *;go_wp2;refine bodyPost_ret (v:=.agg #[.bool R.neg,.slice a5 n7 c5,.slice a6 n8 c6]) ?_ rfl ⟨⟨_,rfl,aI⟩,?_⟩
  ·simp [results,Tryz.results70,go_sem,y0,y1,y2]
  ·exact ((aH.out.store (by omega) _ _).store (by omega) _ _).store (by omega) _ _
theorem ud (va vb:Value) (r s:Rw) (w:World) (ha:RatAt w va r) (hb:RatAt w vb s) (hr:r.Short 68719476736) (hs:s.Short 68719476736):Calls Tryz.prog 29 #[va,vb] w fun e w'=>e=.returned (.int .i64 (kr (gT r - gT s)))/\gO w w':=by
 have am:=af (fun W (hk:gO w W)=>zA va vb r s W (ha.kept hk) (hb.kept hk) hr hs)
 have ag:(gR (gT r - gT s)).Short 274877906944:=by
  have h:=rN ha.ok (ls _) hr (lM hb.ok hs (by omega)) (by omega) (by omega);rw [gV,<-Rat.sub_eq_add_neg] at h;exact ⟨Nat.le_trans h.1 (by omega),Nat.le_trans h.2 (by omega)⟩
 have ap:Hid (∀ W v,RatAt W v (gR (gT r - gT s))->Calls Tryz.prog 22 #[v] W fun e w'=>e=.returned (.int .i64 (kr (gT r - gT s)))/\gO W w'):=af fun W v hv=>by
  have h:=v_ v _ W hv ag;rw [gV] at h;exact h
 obtain ⟨u1,u2,rfl,h1,h2⟩:=ha;obtain ⟨u3,u4,rfl,h3,h4⟩:=hb;obtain ⟨a1,c1,rfl⟩:=h1.shape;obtain ⟨a2,c2,rfl⟩:=h2.shape;obtain ⟨a3,c3,rfl⟩:=h3.shape;obtain ⟨a4,c4,rfl⟩:=h4.shape;generalize gR (gT r - gT s)=R at *;generalize kr (gT r - gT s)=S at *;generalize r.num.length=n1 at *;generalize r.den.length=n2 at *;generalize s.num.length=n3 at *;generalize s.den.length=n4 at *;generalize r.neg=neg1 at *;generalize s.neg=neg2 at *;have ah:Hid (gO w ((w.alloc (.cells #[.bool neg1,.slice a1 n1 c1,.slice a2 n2 c2] 29)).alloc (.cells #[.bool neg2,.slice a3 n3 c3,.slice a4 n4 c4] 29))):=af (((gO.refl w).alloc _).alloc _);clear h1 h2 h3 h4 hr hs ag;go_enter Tryz.func29,Tryz.ntmps29;go_wp2_with fail;refine (am.out _ ah.out).mono ?_;rintro e w3 ⟨⟨v3,rfl,ai⟩,aj⟩;have aq:=af ai;have ar:=af (ah.out.trans aj);clear ai aj;go_wp2_with fail;refine (ap.out _ _ aq.out).mono ?_;rintro e w4 ⟨rfl,al⟩;have aw:=af (ar.out.trans al);clear al;go_wp2;go_ret;exact ⟨rfl,aw.out⟩
def lD (r:Rw):Bool:=iW r&&!r.neg&&decide (nv r.num<=nv r.den)
theorem Aj (a b:Nat):kv a b<=0 ↔ a<=b:=by
 rcases Nat.lt_trichotomy a b with h | h | h
 ·rw [mL h];omega
 ·rw [mK h];omega
 ·rw [lY h];omega
theorem DZ (v:Value) (r:Rw) (w:World) (hv:RatAt w v r) (hs:r.Short 274877906944):Calls Tryz.prog 28 #[v] w fun e w'=>e=.returned (.bool (lD r))/\gO w w':=by
 have aj:=af (fun W (hk:gO w W)=>nX v r W (hv.kept hk) hs);obtain ⟨neg,num,den⟩:=r;obtain ⟨u1,u2,rfl,h1,h2⟩:=hv;simp only at h1 h2;obtain ⟨a1,c1,rfl⟩:=h1.shape;obtain ⟨a2,c2,rfl⟩:=h2.shape
 have hP:lD ⟨neg,num,den⟩=(iW ⟨neg,num,den⟩&&!neg&&decide (kv (nv num) (nv den)<=0)):=by
  unfold lD;congr 1;exact decide_eq_decide.2 (Aj _ _).symm
 rw [hP];have aq:=af (fun W (hk:gO w W)=>lB _ _ num den W (h1.kept hk) (h2.kept hk));have HR:=af (gS.made w #[.bool neg,.slice a1 num.length c1,.slice a2 den.length c2] 29);have ah:Hid (gO w (w.alloc (.cells #[.bool neg,.slice a1 num.length c1,.slice a2 den.length c2] 29))):=af ((gO.refl w).alloc _);generalize kv (nv num) (nv den)=cm at *;generalize iW ⟨neg,num,den⟩=vb at *;generalize num.length=n1 at *;generalize den.length=n2 at *;obtain ⟨w1,al⟩:∃ w1,w1=w.alloc (.cells #[.bool neg,.slice a1 n1 c1,.slice a2 n2 c2] 29):=⟨_,rfl⟩;rw [<-al] at HR ah;have am:=af al;have q0:=HR.out.cell (i:=0) (by simp);have q1:=HR.out.cell (i:=1) (by simp);have q2:=HR.out.cell (i:=2) (by simp);simp only [List.getElem_cons_succ,List.getElem_cons_zero] at q0 q1 q2;clear h1 h2 hP hs al;cases vb with
 | false =>
  go_enter Tryz.func28,Tryz.ntmps28;go_wp2_with fail;rw [<-am.out];refine (aj.out _ ah.out).mono ?_;rintro e w2 ⟨rfl,ag⟩;have ai:=af (ah.out.trans ag);clear ag;go_wp2;go_ret;exact ⟨by simp,ai.out⟩
 | true =>
  cases neg with
  | true =>
   go_enter Tryz.func28,Tryz.ntmps28;go_wp2_with fail;rw [<-am.out];refine (aj.out _ ah.out).mono ?_;rintro e w2 ⟨rfl,ag⟩;have y0:=ag.cell q0;have ai:=af (ah.out.trans ag);clear ag;go_wp2;go_ret;exact ⟨by simp,ai.out⟩
  | false =>
   go_enter Tryz.func28,Tryz.ntmps28;go_wp2_with fail;rw [<-am.out];refine (aj.out _ ah.out).mono ?_;rintro e w2 ⟨rfl,ag⟩;have y0:=ag.cell q0;have y1:=ag.cell q1;have y2:=ag.cell q2;have ai:=af (ah.out.trans ag);clear ag;go_wp2_with fail;refine (aq.out _ ai.out).mono ?_;rintro e w3 ⟨rfl,ap⟩;have ar:=af (ai.out.trans ap);clear ap;go_wp2;go_ret;exact ⟨by simp,ar.out⟩
theorem xK (n:Int) (w:World) (h1:-9223372036854775808<n) (h2:n<9223372036854775808):Calls Tryz.prog 142 #[.int .i64 n] w fun e w'=>(∃ v',e=.returned v'/\WdsAt w' v' (nw n.natAbs))/\gO w w':=by
 obtain ⟨m,hm⟩:∃ m,m=n.natAbs:=⟨_,rfl⟩;have ai:m<9223372036854775808:=by omega
 have aj:=af (fun W=>Cr m W ai);have ap:(n == -9223372036854775808)=false:=by simp;omega
 have aq:max n (-n)=(m:Int):=by omega
 rw [<-hm];clear hm;go_enter Tryz.func142,Tryz.ntmps142;go_wp2_with fail;refine (aj.out _).mono ?_;rintro e w2 ⟨⟨v2,rfl,ag⟩,ah⟩;have al:=af ag;have am:=af ah;clear ag ah;go_wp2;go_ret;exact ⟨⟨_,rfl,al.out⟩,am.out⟩
theorem Jy (n:Int):mkRat (sg (decide (n<0)) n.natAbs) 1=(n:Rat):=by
 have e:sg (decide (n<0)) n.natAbs=n:=by
  unfold sg;by_cases h:n<0
  ·simp [h];omega
  ·simp [h];omega
 rw [e,Rat.mkRat_one]
theorem xF (n:Int) (w:World) (h1:-9223372036854775808<n) (h2:n<9223372036854775808):Calls Tryz.prog 96 #[.int .i64 n] w fun e w'=>(∃ v',e=.returned v'/\RatAt w' v' (gR (n:Rat)))/\gO w w':=by
 have aA:=af (fun W=>xK n W h1 h2);obtain ⟨R,hR⟩:∃ R,R=gR (n:Rat):=⟨_,rfl⟩;obtain ⟨b,hb⟩:∃ b,decide (n<0)=b:=⟨_,rfl⟩
 have aB:Hid (∀ W u1 u2,WdsAt W u1 (nw n.natAbs)->WdsAt W u2 [1]->Calls Tryz.prog 141 #[.bool b,u1,u2] W fun e w'=>(∃ v,e=.returned v/\RatAt w' v R)/\gO W w'):=af fun W u1 u2 k1 k2=>by
  have hl:(nw n.natAbs).length<=2:=iw.2 (by rw [show (4294967296:Nat)^2=18446744073709551616 by rfl];omega);have h:=lf b u1 u2 _ _ W k1 k2 (by omega) (by simp) (by simp [nv]);rw [gW,show nv [1]=1 by rfl,jA _ _ _ (by omega),<-hb,Jy,<-hR] at h;rw [<-hb];exact h
 rw [<-hR];generalize nw n.natAbs=X at *;obtain ⟨w2,ai⟩:∃ w2,w2=w.alloc (.cells #[.bool false,.slice none 0 0,.slice none 0 0] 29):=⟨_,rfl⟩;have HR:Hid (gS w2 w.heap.size 29 [.bool false,.slice none 0 0,.slice none 0 0]):=af (by rw [ai];exact gS.made w #[.bool false,.slice none 0 0,.slice none 0 0] 29);have aC:Hid (iX w2 w.heap.size [.bool false,.slice none 0 0,.slice none 0 0]):=af (by rw [ai];exact iX.made w #[.bool false,.slice none 0 0,.slice none 0 0] 29);have aD:Hid (gO w w2):=af (by rw [ai];exact (gO.refl w).alloc _);have aF:=af ai;have HB:=af hb;clear ai hR hb h1 h2;go_enter Tryz.func96,Tryz.ntmps96;go_wp2_with fail;rw [<-aF.out];refine (aA.out _).mono ?_;rintro e w3 ⟨⟨v3,rfl,aw⟩,al⟩;have aG:=af aw;have aH:=af (HR.out.kept al);have aI:=af (aC.out.kept al);have aJ:=af (aD.out.trans al);clear aw al;go_wp2_with fail;refine (oR _).mono ?_;rintro e w4 ⟨⟨v4,rfl,ay⟩,aj⟩;have aK:=af ay;have am:=af (aG.out.kept aj);have aL:=af (aH.out.kept aj);have aM:=af (aI.out.kept aj);have aN:=af (aJ.out.trans aj);clear ay aj;go_wp2_with fail;rw [HB.out];refine (aB.out _ _ _ am.out aK.out).mono ?_;rintro e w10 ⟨⟨v10,rfl,ap⟩,ah⟩;have ag:=aL.out.kept ah;have aq:=af (aM.out.kept ah);have ar:=af (aN.out.trans ah);obtain ⟨u7,u8,rfl,k7,k8⟩:=ap
 obtain ⟨a7,c7,rfl⟩:=k7.shape;obtain ⟨a8,c8,rfl⟩:=k8.shape;obtain ⟨y0,y1,y2,az⟩:=iC ag aq.out k7 k8;have g0:=ag.cell (i:=0) (by simp);have g1:=ag.cell (i:=1) (by simp);have g2:=ag.cell (i:=2) (by simp);have f0:=ag.free 0;have f1:=ag.free 1;have f2:=ag.free 2;have aO:=af az;have Y0:=af y0;have Y1:=af y1;have Y2:=af y2;clear az y0 y1 y2 k7 k8 ag ah;generalize R.num.length=n7 at *;generalize R.den.length=n8 at *;go_wp2;refine bodyPost_ret (v:=.agg #[.bool R.neg,.slice a7 n7 c7,.slice a8 n8 c8]) ?_ rfl ⟨⟨_,rfl,aO.out⟩,?_⟩
 ·simp [results,Tryz.results96,go_sem,Y0.out,Y1.out,Y2.out]
 ·exact ((ar.out.store (by omega) _ _).store (by omega) _ _).store (by omega) _ _
theorem sv {a b:List Nat} (ha:Wd a) {k:Nat} (hd:∀ i,k<i->a.getD i 0=b.getD i 0) (ag:a.getD k 0<b.getD k 0):nv a<nv b:=by
 have key:∀ j,nv (a.take (k+1+j))<nv (b.take (k+1+j)):=by
  intro j;induction j with
  | zero =>
   rw [Nat.add_zero,gX,gX];have h1:nv (a.take k)<4294967296^k:=Nat.lt_of_lt_of_le (kM (ha.take k)) (Nat.pow_le_pow_right (by omega) (by rw [List.length_take];omega));have h2:(a.getD k 0+1)*4294967296^k<=b.getD k 0*4294967296^k:=Nat.mul_le_mul_right _ ag;rw [Nat.add_mul,Nat.one_mul] at h2;omega
  | succ j ih =>
   rw [<-Nat.add_assoc,gX,gX,hd (k+1+j) (by omega)];omega
 have:=key (a.length+b.length)
 rwa [ig a _ (by omega),ig b _ (by omega)] at this
theorem yQ {a b:List Nat} (hd:∀ i,a.getD i 0=b.getD i 0):nv a=nv b:=by
 have key:∀ j,nv (a.take j)=nv (b.take j):=by
  intro j;induction j with
  | zero=>simp
  | succ j ih=>rw [gX,gX,ih,hd]
 have:=key (a.length+b.length)
 rwa [ig a _ (by omega),ig b _ (by omega)] at this
theorem mA (va vb:Value) (xs ys:List Nat) (w:World) (ha:WdsAt w va xs) (hb:WdsAt w vb ys):Calls Tryz.prog 175 #[va,vb] w fun e w'=>e=.returned (.int .i64 (kv (nv xs) (nv ys)))/\w'=w:=by
 have HA:=af (fun (i:Nat)=>jT va xs i w ha);have HB:=af (fun (i:Nat)=>jT vb ys i w hb);have ag:=af ha.wd;have ah:=af hb.wd;have aj:=ha.len;have al:=hb.len;obtain ⟨a0,c0,rfl⟩:=ha.shape;obtain ⟨a1,c1,rfl⟩:=hb.shape;obtain ⟨l0,h0⟩:∃ l0,l0=xs.length:=⟨_,rfl⟩;obtain ⟨l1,h1⟩:∃ l1,l1=ys.length:=⟨_,rfl⟩;rw [<-h0] at HA aj⊢;rw [<-h1] at HB al⊢;have H0:=af h0;have H1:=af h1;obtain ⟨p,hp⟩:∃ p,p=max l0 l1:=⟨_,rfl⟩;have ar:p<=1099511627776:=by omega
 have e0:max (l0:Int) (l1:Int)=(p:Int):=by omega
 have HP:Hid (l0<=p/\l1<=p):=af (by omega);clear ha hb h0 h1 hp;go_enter Tryz.func175,Tryz.ntmps175;go_wp2_with fail;go_loopg [5] p (fun kx s5 wr=>∃ k:Nat,s5=.int .i64 ((k:Int) - 1)/\k<=p/\k<=kx/\Hid (∀ i,k<=i->xs.getD i 0=ys.getD i 0)/\w=wr)
 case atStart=>exact ⟨p,rfl,Nat.le_refl _,Nat.le_refl _,af (fun i hi=>by
  have h1:=HP.out;have h2:=H0.out;have h3:=H1.out;simp [List.getD_eq_getElem?_getD,show xs.length<=i by omega,show ys.length<=i by omega]),rfl⟩
 case round =>
  obtain ⟨k,rfl,hk,aw,HD,rfl⟩:=hrel;by_cases ai:k=0
  ·subst ai;have HC:=af (mK (yQ fun i=>HD.out i (by omega)));go_wp2_with fail;go_ret;exact ⟨by rw [HC.out];first | done | rfl,rfl⟩
  ·obtain ⟨j,rfl⟩:∃ j,k=j+1:=⟨k - 1,by omega⟩;have HX:=af (HA.out j);have HY:=af (HB.out j);have ay:=ag.out.getD j;have az:=ah.out.getD j;have am:Hid (xs.getD j 0<ys.getD j 0->nv xs<nv ys):=af fun h=>sv ag.out (fun i hi=>HD.out i (by omega)) h
   have ap:Hid (ys.getD j 0<xs.getD j 0->nv ys<nv xs):=af fun h=>sv ah.out (fun i hi=>(HD.out i (by omega)).symm) h
   have aq:Hid (xs.getD j 0=ys.getD j 0->∀ i,j<=i->xs.getD i 0=ys.getD i 0):=af fun h i hi=>by
    by_cases e:i=j
    ·rw [e];exact h
    ·exact HD.out i (by omega)
   generalize xs.getD j 0=x at *;generalize ys.getD j 0=y at *;have e1:((j+1:Nat):Int) - 1=(j:Int):=by omega
   rw [e1];have aA:(0:Int)<=(j:Int):=by omega
   clear e1 ai;rcases Nat.lt_trichotomy x y with h | h | h
   ·have HC:=af (mL (am.out h));go_wp2_with (first | (go_at_call 226;(with_reducible refine HX.out.mono ?_);rintro e w2 ⟨rfl,rfl⟩) | (go_at_call 226;(with_reducible refine HY.out.mono ?_);rintro e w2 ⟨rfl,rfl⟩));go_ret;exact ⟨by rw [HC.out];first | done | rfl,rfl⟩
   ·subst h;have hr:=af (aq.out rfl);have h':¬ x<x:=by omega
    go_wp2_with (first | (go_at_call 226;(with_reducible refine HX.out.mono ?_);rintro e w2 ⟨rfl,rfl⟩) | (go_at_call 226;(with_reducible refine HY.out.mono ?_);rintro e w2 ⟨rfl,rfl⟩));go_roundg j
    case measure=>omega
    case rel=>exact ⟨j,rfl,by omega,Nat.le_refl _,hr,rfl⟩
   ·have HC:=af (lY (ap.out h));have h':¬ x<y:=by omega
    go_wp2_with (first | (go_at_call 226;(with_reducible refine HX.out.mono ?_);rintro e w2 ⟨rfl,rfl⟩) | (go_at_call 226;(with_reducible refine HY.out.mono ?_);rintro e w2 ⟨rfl,rfl⟩));go_ret;exact ⟨by rw [HC.out];first | done | rfl,rfl⟩
theorem qQ {L:List Nat} {i:Nat} (h:L.length=i) (r:Nat):nv (L++[r])=nv L+r*4294967296^i:=by
 rw [rC,jO,jR,h,Nat.mul_zero,Nat.add_zero,Nat.mul_comm]
theorem Bi (va vb:Value) (xs ys:List Nat) (w:World) (ha:WdsAt w va xs) (hb:WdsAt w vb ys) (ar:xs.length<=549755813888) (aw:ys.length<=549755813888) :
  Calls Tryz.prog 174 #[va,vb] w fun e w'=>(∃ v',e=.returned v'/\WdsAt w' v' (nw (nv xs+nv ys)))/\gO w w':=by
 have HA:=af (fun W (hk:gO w W) (i:Nat)=>jT va xs i W (ha.kept hk));have HB:=af (fun W (hk:gO w W) (i:Nat)=>jT vb ys i W (hb.kept hk));have ah:=af ha.wd;have ai:=af hb.wd;obtain ⟨a0,c0,rfl⟩:=ha.shape;obtain ⟨a1,c1,rfl⟩:=hb.shape;obtain ⟨l0,h0⟩:∃ l0,l0=xs.length:=⟨_,rfl⟩;obtain ⟨l1,h1⟩:∃ l1,l1=ys.length:=⟨_,rfl⟩;rw [<-h0] at HA ar⊢;rw [<-h1] at HB aw⊢;have H0:=af h0;have H1:=af h1;obtain ⟨m,hm⟩:∃ m,m=max l0 l1:=⟨_,rfl⟩;have aG:m<=549755813888:=by omega
 have e0:max (l0:Int) (l1:Int)=(m:Int):=by omega
 obtain ⟨p,hp⟩:∃ p,p=m+1:=⟨_,rfl⟩;have e1:(m:Int)+1=(p:Int):=by omega
 have aH:p<=549755813889:=by omega
 have HP:Hid (l0+1<=p/\l1+1<=p):=af (by omega);clear ha hb h0 h1 hm hp;go_enter Tryz.func174,Tryz.ntmps174;go_wp2_with fail;go_loopg [5,6,15] p (fun kx s5 s6 s15 wr=>∃ (i c:Nat) (L:List Nat),s6=.int .u64 c/\s15=.int .i64 i/\i<=p/\p - i<=kx/\c<=1/\Hid (iO wr w.heap.size s5 L)/\Hid (L.length=i)/\Hid (nv L+c*4294967296^i=nv (xs.take i)+nv (ys.take i))/\Hid (gO w wr))
 case atStart=>exact ⟨0,0,[],rfl,rfl,Nat.zero_le _,by omega,by omega,af (iO.nil _ _),af rfl,af (by simp [jR]),af (gO.refl _)⟩
 case round =>
  obtain ⟨i,c,L,rfl,rfl,hi,aI,hc,HO,HL,HI,HK⟩:=hrel;by_cases aJ:i<p
  ·have hx:=ah.out.getD i;have hy:=ai.out.getD i;have HX:=af (HA.out wr HK.out i);have HY:=af (HB.out wr HK.out i)
   have aj:Hid (∀ s,s=c+xs.getD i 0+ys.getD i 0->nv (L++[s % 4294967296])+(s / 4294967296)*4294967296^(i+1)=nv (xs.take (i+1))+nv (ys.take (i+1))):=af fun s hs=>by
    have:=rU HI.out hs;rw [qQ HL.out,gX,gX,<-this,Nat.pow_succ,Nat.mul_comm (4294967296^i)]
   generalize xs.getD i 0=x at *;generalize ys.getD i 0=y at *;have aK:(i:Int)<(p:Int):=by omega
   obtain ⟨t,ht⟩:∃ t,t=x+y:=⟨_,rfl⟩;obtain ⟨s,hs⟩:∃ s,s=c+x+y:=⟨_,rfl⟩;have aL:s<18446744073709551616:=by omega
   have aM:t<18446744073709551616:=by omega
   obtain ⟨r,hr⟩:∃ r,r=s % 4294967296:=⟨_,rfl⟩;obtain ⟨q,hq⟩:∃ q,q=s / 4294967296:=⟨_,rfl⟩;have ay:r<4294967296:=by omega
   have az:q<=1:=by omega
   have al:=af (aj.out s hs);rw [<-hr,<-hq] at al;have e2:(x:Int)+(y:Int)=(t:Int):=by omega
   have e3:(t:Int)+(c:Int)=(s:Int):=by omega
   have e6:(s:Int) / 4294967296=(q:Int):=by omega
   have e5:IntKind.u32.wrap (s:Int)=(r:Int):=by rw [IntKind.wrap_u32];omega
   have aA:i<1099511627776:=by omega
   have aB:=af HK.out.size;clear aj hs hr hq ht
   go_wp2_with (first
    | (go_at_call 226;(with_reducible refine HX.out.mono ?_);rintro e w2 ⟨rfl,rfl⟩)
    | (go_at_call 226;(with_reducible refine HY.out.mono ?_);rintro e w2 ⟨rfl,rfl⟩)
    | (at_builtin;refine pB rfl _ _ rfl w.heap.size _ L rfl (HO.out.kept ((gO.refl _).alloc _)) _ r rfl (by simp) ay (by rw [HL.out];exact aA) (by have:=aB.out;simp;omega) ?_;intro v7 w7 h7 am;have O7:=af h7;have aC:=af am;clear h7 am))
   go_roundg (p - (i+1))
   case measure=>omega
   case rel=>exact ⟨i+1,q,L++[r],rfl,by go_num,by omega,Nat.le_refl _,az,O7,af (by rw [List.length_append,HL.out];rfl),al,af ((HK.out.alloc _).app aC.out)⟩
  ·have ag:i=p:=by omega
   have HV:Hid (nv L=nv xs+nv ys):=af (xY (L:=L) (i:=i) (c:=c) (p:=p) (by rw [ig L i (by rw [HL.out];exact Nat.le_refl _)];exact HI.out) ag (by have h1:=HP.out;have h2:=H0.out;omega) (by have h1:=HP.out;have h2:=H1.out;omega) (by rw [HL.out];exact ag) ah.out ai.out);have HT:=af (kJ _ _ _ HO.out.at);clear ag;go_wp2_with fail;refine HT.out.mono ?_;rintro e w2 ⟨⟨v2,rfl,ap⟩,aq⟩;have aD:=af ap;have aF:=af (HK.out.trans aq);clear ap aq;go_wp2;go_ret;exact ⟨⟨_,rfl,by rw [<-HV.out];exact aD.out.at⟩,aF.out⟩
theorem ut (va vb:Value) (xs ys:List Nat) (w:World) (ha:WdsAt w va xs) (hb:WdsAt w vb ys) (aq:nv ys<=nv xs) :
  Calls Tryz.prog 176 #[va,vb] w fun e w'=>(∃ v',e=.returned (.tuple #[v',.int .i64 0])/\iO w' w.heap.size v' (nw (nv xs - nv ys)))/\gO w w':=by
 have HA:=af (fun W (hk:gO w W) (i:Nat)=>jT va xs i W (ha.kept hk));have HB:=af (fun W (hk:gO w W) (i:Nat)=>jT vb ys i W (hb.kept hk));have ah:=af (mA va vb xs ys w ha hb);have ar:=af ha.wd;have aD:=af hb.wd;have aw:0<=kv (nv xs) (nv ys):=by unfold kv;split <;> (try split) <;> omega
 obtain ⟨cv,ay⟩:∃ cv,cv=kv (nv xs) (nv ys):=⟨_,rfl⟩;rw [<-ay] at ah aw;obtain ⟨a0,c0,rfl⟩:=ha.shape;obtain ⟨a1,c1,rfl⟩:=hb.shape;obtain ⟨p,h0⟩:∃ p,p=xs.length:=⟨_,rfl⟩;have aJ:p<=1099511627776:=by rw [h0];exact ha.len
 rw [<-h0] at HA ah⊢;generalize ys.length=l1 at *;have H0:=af h0;have aF:=af aq;have hc1:¬ cv<0:=by omega
 clear ha hb h0 aq ay aw;go_enter Tryz.func176,Tryz.ntmps176;go_wp2_with fail;refine ah.out.mono ?_;rintro e w0 ⟨rfl,rfl⟩;go_wp2_with fail;go_loopg [6,7,16] p (fun kx s6 s7 s16 wr=>∃ (i c:Nat) (L:List Nat),s7=.int .u64 c/\s16=.int .i64 i/\i<=p/\p - i<=kx/\c<=1/\Hid (iO wr w0.heap.size s6 L)/\Hid (L.length=i)/\Hid (nv L+nv (ys.take i)=nv (xs.take i)+c*4294967296^i)/\Hid (gO w0 wr))
 case atStart=>exact ⟨0,0,[],rfl,rfl,Nat.zero_le _,by omega,by omega,af (iO.nil _ _),af rfl,af (by simp [jR]),af (gO.refl _)⟩
 case round =>
  obtain ⟨i,c,L,rfl,rfl,hi,aK,hc,HO,HL,HI,HK⟩:=hrel;by_cases aL:i<p
  ·have hx:=ar.out.getD i;have hy:=aD.out.getD i;have HX:=af (HA.out wr HK.out i);have HY:=af (HB.out wr HK.out i)
   have az:Hid (∀ o b',o+ys.getD i 0+c=xs.getD i 0+b'*4294967296->nv (L++[o])+nv (ys.take (i+1))=nv (xs.take (i+1))+b'*4294967296^(i+1)):=af fun o b' hs=>by
    have:=zM HI.out hs;rw [qQ HL.out,gX,gX,this,Nat.pow_succ,Nat.mul_comm (4294967296^i)]
   generalize xs.getD i 0=x at *;generalize ys.getD i 0=y at *;have aM:(i:Int)<(p:Int):=by omega
   obtain ⟨o,b',D,ho,hb',hD,aA,hm,hd,aG⟩:=nE hx hy hc;have aj:=af (az.out o b' aA);have e5:IntKind.u32.wrap (D:Int)=(o:Int):=by rw [IntKind.wrap_u32];omega
   have e6:(D:Int) / 9223372036854775808=(b':Int):=by omega
   have al:=af HK.out.size;have am:Hid (L.length<1099511627776):=af (by rw [HL.out];omega);clear az aA hm hd;rcases aG with ⟨h1,h2⟩ | ⟨h1,D1,h2,h3⟩ | ⟨h1,h2,h3⟩
   ·go_wp2_with (first
     | (go_at_call 226;(with_reducible refine HX.out.mono ?_);rintro e w2 ⟨rfl,rfl⟩)
     | (go_at_call 226;(with_reducible refine HY.out.mono ?_);rintro e w2 ⟨rfl,rfl⟩)
     | (at_builtin;refine pB rfl _ _ rfl w0.heap.size _ L rfl (HO.out.kept ((gO.refl _).alloc _)) _ o rfl (by simp) ho am.out (by have:=al.out;simp;omega) ?_;intro v7 w7 h7 ag;have O7:=af h7;have ai:=af ag;clear h7 ag))
    go_roundg (p - (i+1))
    case measure=>omega
    case rel=>exact ⟨i+1,b',L++[o],rfl,by go_num,by omega,Nat.le_refl _,hb',O7,af (by rw [List.length_append,HL.out];rfl),aj,af ((HK.out.alloc _).app ai.out)⟩
   ·have e1:=rR h2 (by omega);have aN:D1<18446744073709551616:=by omega
    clear h2
    go_wp2_with (first
     | (go_at_call 226;(with_reducible refine HX.out.mono ?_);rintro e w2 ⟨rfl,rfl⟩)
     | (go_at_call 226;(with_reducible refine HY.out.mono ?_);rintro e w2 ⟨rfl,rfl⟩)
     | (at_builtin;refine pB rfl _ _ rfl w0.heap.size _ L rfl (HO.out.kept ((gO.refl _).alloc _)) _ o rfl (by simp) ho am.out (by have:=al.out;simp;omega) ?_;intro v7 w7 h7 ag;have O7:=af h7;have ai:=af ag;clear h7 ag))
    go_roundg (p - (i+1))
    case measure=>omega
    case rel=>exact ⟨i+1,b',L++[o],rfl,by go_num,by omega,Nat.le_refl _,hb',O7,af (by rw [List.length_append,HL.out];rfl),aj,af ((HK.out.alloc _).app ai.out)⟩
   ·have e1:=rR h3 (by omega);have g1:x<=y:=by omega
    have g2:y<=x:=by omega
    have g3:1<=c:=by omega
    clear h1 h2 h3
    go_wp2_with (first
     | (go_at_call 226;(with_reducible refine HX.out.mono ?_);rintro e w2 ⟨rfl,rfl⟩)
     | (go_at_call 226;(with_reducible refine HY.out.mono ?_);rintro e w2 ⟨rfl,rfl⟩)
     | (at_builtin;refine pB rfl _ _ rfl w0.heap.size _ L rfl (HO.out.kept ((gO.refl _).alloc _)) _ o rfl (by simp) ho am.out (by have:=al.out;simp;omega) ?_;intro v7 w7 h7 ag;have O7:=af h7;have ai:=af ag;clear h7 ag))
    go_roundg (p - (i+1))
    case measure=>omega
    case rel=>exact ⟨i+1,b',L++[o],rfl,by go_num,by omega,Nat.le_refl _,hb',O7,af (by rw [List.length_append,HL.out];rfl),aj,af ((HK.out.alloc _).app ai.out)⟩
  ·have ap:i=p:=by omega
   have HV:Hid (nv L=nv xs - nv ys):=af (zL (L:=L) (i:=i) (b:=c) (p:=p) (by rw [ig L i (by rw [HL.out];exact Nat.le_refl _)];exact HI.out) ap H0.out.symm (by rw [HL.out];exact ap) HO.out.at.wd ar.out aF.out);have HT:=af (kJ _ _ _ HO.out.at);clear ap;go_wp2_with fail;refine HT.out.mono ?_;rintro e w2 ⟨⟨v2,rfl,aB⟩,aC⟩;have aH:=af aB;have aI:=af (HK.out.trans aC);clear aB aC;go_wp2;go_ret2;exact ⟨⟨_,rfl,by rw [<-HV.out];exact aH.out.mono HK.out.size⟩,aI.out⟩
theorem qj (va vb:Value) (xs ys:List Nat) (w:World) (ha:WdsAt w va xs) (hb:WdsAt w vb ys) (ag:nv ys<=nv xs) :
  Calls Tryz.prog 176 #[va,vb] w fun e w'=>(∃ v',e=.returned (.tuple #[v',.int .i64 0])/\WdsAt w' v' (nw (nv xs - nv ys)))/\gO w w' :=
 (ut va vb xs ys w ha hb ag).mono fun _ _ ⟨⟨v',h1,h2⟩,h3⟩=>⟨⟨v',h1,h2.at⟩,h3⟩
theorem iO.older {w w':World} {B g:Nat} {v:Value} {xs:List Nat} (h:iO w B v xs) (hg:g<B) (ho:iq g w w'):iO w' B v xs:=by
 obtain ⟨⟨h1,h2⟩,h3⟩:=h;refine ⟨⟨h1,?_⟩,h3⟩;rcases h2 with h2 | ⟨p,cap,cur,h4,h5,h6,h7⟩
 ·exact .inl h2
 ·refine .inr ⟨p,cap,cur,h4,h5,?_,h7⟩
  have ag:p<w.heap.size:=by
   rcases Nat.lt_or_ge p w.heap.size with h8 | h8
   ·exact h8
   ·simp [Array.getElem?_eq_none h8] at h6
  rw [ho.block p ag (by omega)];exact h6
theorem jt (va vb:Value) (xs ys:List Nat) (w:World) (ha:WdsAt w va xs) (hb:WdsAt w vb ys) (aN:xs.length<=274877906944) (aO:ys.length<=274877906944) :
  Calls Tryz.prog 164 #[va,vb] w fun e w'=>(∃ v',e=.returned v'/\WdsAt w' v' (nw (nv xs*nv ys)))/\gO w w':=by
 have HA:=af ha;have HB:=af (fun W (hk:gO w W) (i:Nat)=>jT vb ys i W (hb.kept hk));have aP:=af hb.wd;obtain ⟨a0,c0,rfl⟩:=ha.shape;obtain ⟨a1,c1,rfl⟩:=hb.shape;obtain ⟨l0,h0⟩:∃ l0,l0=xs.length:=⟨_,rfl⟩;obtain ⟨l1,h1⟩:∃ l1,l1=ys.length:=⟨_,rfl⟩;rw [<-h0] at HA aN⊢;rw [<-h1] at HB aO⊢;have H0:=af h0;have H1:=af h1;obtain ⟨p0,aQ⟩:∃ p0,p0=l0+l1:=⟨_,rfl⟩;obtain ⟨p,hp⟩:∃ p,p=p0+1:=⟨_,rfl⟩;obtain ⟨l2,am⟩:∃ l2,l2=l1+1:=⟨_,rfl⟩;have e0:(l0:Int)+(l1:Int)=(p0:Int):=by omega
 have e1:(p0:Int)+1=(p:Int):=by omega
 have e2:(l1:Int)+1=(l2:Int):=by omega
 have bt:p<=549755813889:=by omega
 have aR:p0<=549755813888:=by omega
 have aS:l2<=274877906945:=by omega
 have HP:Hid (p=l0+l1+1):=af (by omega);have ap:Hid (l2=l1+1):=af am;clear ha hb h0 h1 hp aQ am;go_enter Tryz.func164,Tryz.ntmps164;go_wp2_with (refine kg 27 70 (.int .u32 0) 4 kf Tryz.underlying27 rfl rfl _ _ rfl p rfl rfl (by omega) (by unfold maxLen;omega) ?_;intro w1 aC aD);have aT:=af (ky aC);have aU:=af aD;clear aC aD;go_loopg [20] l0 (fun kx s20 wr=>∃ (i:Nat) (L:List Nat),s20=.int .i64 i/\i<=l0/\l0 - i<=kx/\Hid (gS wr w.heap.size 70 (L.map mV))/\Hid (L.length=p/\Wd L)/\Hid (nv L=nv (xs.take i)*nv ys/\∀ q,i+l1<=q->L.getD q 0=0)/\Hid (gO w wr))
 case atStart=>exact ⟨0,List.replicate p 0,rfl,Nat.zero_le _,by omega,aT,af ⟨by simp,Wd.zeros _⟩,af ⟨by rw [qR];simp [jR],fun q _=>by simp [List.getD_eq_getElem?_getD,List.getElem?_replicate];split <;> rfl⟩,aU⟩
 case round =>
  obtain ⟨wo,rfl⟩:∃ wo:World,wo=wr:=⟨_,rfl⟩;obtain ⟨i,L,rfl,hi,bw,HR,HL,HI,HK⟩:=hrel;by_cases bz:i<l0
  ·obtain ⟨b,o,rfl,aV⟩:=(HA.out.kept HK.out).get i (by have:=H0.out;omega);have hx:=HA.out.wd.getD i;obtain ⟨x,aw⟩:∃ x,x=xs.getD i 0:=⟨_,rfl⟩;rw [<-aw] at aV hx;have HX:=af aw;have bA:(i:Int)<(l0:Int):=by omega
   clear aw;go_wp2;go_loopg [8,28] l2 (fun kx s8 s28 wq=>∃ (k c:Nat) (L':List Nat),s8=.int .u64 c/\s28=.int .i64 k/\k<=l2/\l2 - k<=kx/\c<4294967296/\Hid (gS wq w.heap.size 70 (L'.map mV))/\Hid (L'.length=p/\Wd L')/\Hid (nv L'+c*4294967296^(i+k)=nv L+x*(nv (ys.take k)*4294967296^i)/\(∀ q,i+l1<=q->i+k<=q->L'.getD q 0=0)/\(l1<k->c=0))/\Hid (gO w wq))
   case atStart=>exact ⟨0,0,L,rfl,rfl,Nat.zero_le _,by omega,by omega,HR,HL,af ⟨by simp [jR],fun q h _=>HI.out.2 q h,fun _=>rfl⟩,HK⟩
   case round =>
    obtain ⟨k,c,L',rfl,rfl,hk,aW,hc,aq,ag,ai,aj⟩:=hrel;by_cases aX:k<l2
    ·have hy:=aP.out.getD k;have aF:l1<=k->ys.getD k 0=0:=fun h=>by rw [List.getD_eq_getElem?_getD,List.getElem?_eq_none (by rw [<-H1.out];exact h)];rfl
     have HY:=af (fun W (hk:gO wr W)=>HB.out W (aj.out.trans hk) k);have aY:=HP.out;have am:=ap.out;have ay:i+k<L'.length:=by have:=ag.out.1;omega
     have az:i+k<p:=by omega
     obtain ⟨u,hu⟩:∃ u,u=i+k:=⟨_,rfl⟩;have eik:(i:Int)+(k:Int)=(u:Int):=by omega
     have bB:u<p:=by omega
     have aZ:(u:Int)<(p:Int):=by omega
     have HU:=af hu;have f:=aq.out.free u;have aA:=iT aq.out u (by rw [hu];exact ay);rw [hu] at aA;have a_:=ag.out.2.getD (i+k);have aG:l1<=k->L'.getD (i+k) 0=0:=fun h=>ai.out.2.1 _ (by omega) (Nat.le_refl _)
     have aH:Hid (∀ s,s=c+x*ys.getD k 0+L'.getD (i+k) 0->nv (L'.set (i+k) (s % 4294967296))+(s / 4294967296)*4294967296^(i+(k+1))=nv L+x*(nv (ys.take (k+1))*4294967296^i)):=af fun s hs=>vQ ai.out.1 ay hs
     generalize ys.getD k 0=y at *;generalize L'.getD (i+k) 0=z at *;obtain ⟨bd,bf,aB⟩:=rP hc hx hy a_;obtain ⟨s,hs⟩:∃ s,s=c+x*y+z:=⟨_,rfl⟩;have aI:=af (aH.out s hs);rw [<-hs] at bd aB;obtain ⟨xy,ar⟩:∃ xy,xy=x*y:=⟨_,rfl⟩;rw [<-ar] at hs bf;have al:y=0->xy=0:=fun h=>by rw [ar,h,Nat.mul_zero]
     have exy:(x:Int)*(y:Int)=(xy:Int):=by rw [ar];simp
     obtain ⟨xz,bh⟩:∃ xz,xz=xy+z:=⟨_,rfl⟩;have exz:(xy:Int)+(z:Int)=(xz:Int):=by omega
     have bi:xz<18446744073709551616:=by omega
     obtain ⟨r,hr⟩:∃ r,r=s % 4294967296:=⟨_,rfl⟩;obtain ⟨q,hq⟩:∃ q,q=s / 4294967296:=⟨_,rfl⟩;rw [<-hr,<-hq] at aI;rw [<-hq] at aB
     have ah:l1<k+1->q=0:=fun h=>by
      have h1:=aG (by omega);have h2:=al (aF (by omega));omega
     have bj:=af ah;have bk:r<4294967296:=by omega
     have es:(xz:Int)+(c:Int)=(s:Int):=by omega
     have e6:(s:Int) / 4294967296=(q:Int):=by omega
     have bl:(k:Int)<(l2:Int):=by omega
     have e5:IntKind.u32.wrap (s:Int)=(r:Int):=by rw [IntKind.wrap_u32];omega
     rw [<-HU.out] at aA;have bC:u<549755813889:=by omega
     have ww1:IntKind.i64.wrap (u:Int)=(u:Int):=by rw [IntKind.wrap_i64];omega
     have ww2:IntKind.u64.wrap (xy:Int)=(xy:Int):=by rw [IntKind.wrap_u64];omega
     have ww3:IntKind.u64.wrap (xz:Int)=(xz:Int):=by rw [IntKind.wrap_u64];omega
     have ww4:IntKind.u64.wrap (s:Int)=(s:Int):=by rw [IntKind.wrap_u64];omega
     have bo:=((gO.refl wr).drew).cell aA;clear hu ay az hs hr hq aH ar aY am al ah aG aF bh;go_wp2_with fail;go_region_with ((go_at_call 226;refine (HY.out _ (by first | exact gO.refl _ | exact (gO.refl _).drew)).mono ?_;rintro e w2 ⟨rfl,rfl⟩))
     all_goals
      go_wp2;go_roundg (l2 - (k+1))
      case measure=>omega
      case rel=>exact ⟨k+1,q,L'.set (i+k) r,rfl,by go_num,by omega,Nat.le_refl _,aB,af (by have h:=iR (aq.out.kept (gO.refl _).drew) u r;rw [HU.out] at h⊢;exact h),af ⟨by rw [List.length_set];exact ag.out.1,ag.out.2.set _ r bk⟩,af ⟨aI.out,fun q' h1 h2=>by rw [kw (by omega)];exact ai.out.2.1 q' h1 (by omega),bj.out⟩,af ((aj.out.trans (gO.refl _).drew).store (Nat.le_refl _) _ _)⟩
    ·have aJ:k=l2:=by omega
     have bp:Hid (nv L'=nv (xs.take (i+1))*nv ys):=af (by
      have h:=ai.out.1;rw [ai.out.2.2 (by have:=ap.out;omega),Nat.zero_mul,Nat.add_zero,ig ys k (by have:=ap.out;have:=H1.out;omega),HI.out.1] at h;rw [h,gX,Nat.add_mul,HX.out,Nat.mul_assoc (xs.getD i 0),Nat.mul_comm (nv ys)])
     have bq:=af aJ;clear aJ;go_wp2;go_roundg (l0 - (i+1))
     case measure=>omega
     case rel=>exact ⟨i+1,L',by go_num,by omega,Nat.le_refl _,aq,ag,af ⟨bp.out,fun q hq=>ai.out.2.1 q (by omega) (by have:=bq.out;have:=ap.out;omega)⟩,aj⟩
  ·have aK:i=l0:=by omega
   have HV:Hid (nv L=nv xs*nv ys):=af (by have:=HI.out.1;rw [aK,H0.out,ig _ _ (Nat.le_refl _)] at this;exact this)
   have HT:Hid (Calls Tryz.prog 227 #[.slice (some ⟨w.heap.size,0,none⟩) p p] wo fun e w'=>(∃ v',e=.returned v'/\iO w' wo.heap.size v' (nw (nv L)))/\gO wo w'):=af (by
    have h:=l' HR.out (c:=p) (by rw [HL.out.1];exact Nat.le_refl _) (by rw [HL.out.1];omega) HL.out.2;rw [HL.out.1] at h;exact kJ _ _ _ h)
   clear aK;go_wp2_with fail;refine HT.out.mono ?_;rintro e w2 ⟨⟨v2,rfl,aL⟩,aM⟩;have br:=af aL;have aj:=af (HK.out.trans aM);clear aL aM;go_wp2;go_ret;exact ⟨⟨_,rfl,by rw [<-HV.out];exact br.out.at⟩,aj.out⟩
theorem Cc (a b:Nat) (ha:a<4294967296) (hb:b<4294967296):bits .and .u32 (a:Int) (b:Int)=((a &&& b:Nat):Int):=by
 have h:(BitVec.ofInt 32 (a:Int) &&& BitVec.ofInt 32 (b:Int)).toNat=a &&& b:=by rw [BitVec.toNat_and,lP a ha,lP b hb]
 show IntKind.u32.wrap (((BitVec.ofInt 32 (a:Int) &&& BitVec.ofInt 32 (b:Int)).toNat:Nat):Int)=_;rw [h,IntKind.wrap_u32];have:=Nat.and_le_left (n:=a) (m:=b);omega
def BL (n v:Nat):Prop:=v<2^n/\(n=0\/2^(n - 1)<=v)
theorem BL.zero:BL 0 0:=⟨by simp,.inl rfl⟩
theorem BL.iff0 {n v:Nat} (h:BL n v):n=0 ↔ v=0:=by
 constructor
 ·intro e;subst e;have:=h.1;simpa using this
 ·intro e;subst e;rcases h.2 with h2 | h2
  ·exact h2
  ·have:=Nat.two_pow_pos (n - 1);omega
theorem BL.iff1 {n v:Nat} (h:BL n v):n=1 ↔ v=1:=by
 constructor
 ·intro e;subst e;have h1:=h.1;rcases h.2 with h2 | h2
  ·omega
  ·simp at h1 h2;omega
 ·intro e;subst e;have h0:n≠0:=fun e=>by have:=h.iff0.1 e;omega
  rcases Nat.lt_or_ge 1 n with h1 | h1
  ·exfalso
   rcases h.2 with h2 | h2
   ·exact h0 h2
   ·have:2^1<=2^(n - 1):=Nat.pow_le_pow_right (by omega) (by omega)
    omega
  ·omega
theorem BL.step {n v p:Nat} {b:Nat} (h:BL n v) (hb:b=0\/b=1) (hv:v<2^p):BL (if b=1 then p+1 else n) (v+b*2^p):=by
 rcases hb with rfl | rfl
 ·simpa using h
 ·rw [if_pos rfl];refine ⟨by rw [Nat.pow_succ];omega,.inr (by rw [Nat.add_sub_cancel];omega)⟩
theorem yb (x k:Nat):x % 2^(k+1)=x % 2^k+(x / 2^k % 2)*2^k:=by
 rw [Nat.pow_succ,Nat.mod_mul,Nat.mul_comm (2^k)]
theorem oO (va:Value) (xs:List Nat) (w:World) (ha:WdsAt w va xs) :
  Calls Tryz.prog 180 #[va] w fun e w'=>(∃ k:Nat,e=.returned (.int .i64 k)/\BL k (nv xs))/\w'=w:=by
 have HA:=af ha;obtain ⟨a0,c0,rfl⟩:=ha.shape;obtain ⟨n,hn⟩:∃ n,n=xs.length:=⟨_,rfl⟩;have aC:n<=1099511627776:=by rw [hn];exact ha.len
 rw [<-hn] at HA⊢;have HN:=af hn;clear ha hn;go_enter Tryz.func180,Tryz.ntmps180;go_wp2_with fail;go_loopg [3,9] n (fun kx s3 s9 wr=>∃ i z:Nat,s3=.int .i64 z/\s9=.int .i64 i/\i<=n/\n - i<=kx/\z<=32*i/\Hid (BL z (nv (xs.take i)))/\w=wr)
 case atStart=>exact ⟨0,0,rfl,rfl,Nat.zero_le _,by omega,by omega,af (by simpa [jR] using BL.zero),rfl⟩
 case round =>
  obtain ⟨i,z,rfl,rfl,hi,aD,hz,HB,rfl⟩:=hrel;by_cases aF:i<n
  ·obtain ⟨b,o,rfl,hc⟩:=HA.out.get i (by have:=HN.out;omega);have ah:=HA.out.wd.getD i;obtain ⟨x,hx⟩:∃ x,x=xs.getD i 0:=⟨_,rfl⟩;rw [<-hx] at hc ah;have HX:=af hx;have aG:(i:Int)<(n:Int):=by omega
   have HV:Hid (nv (xs.take i)<2^(32*i)):=af (by
    have h:=kM (HA.out.wd.take i);rw [List.length_take,Nat.min_eq_left (by have:=HN.out;omega),show (4294967296:Nat)=2^32 by rfl,<-Nat.pow_mul] at h;exact h)
   clear hx;go_wp2_with fail;go_loopg [3,14] 32 (fun kx s3 s14 wq=>∃ k y:Nat,s3=.int .i64 y/\s14=.int .i64 k/\k<=32/\32 - k<=kx/\y<=32*i+k/\Hid (BL y (nv (xs.take i)+(x % 2^k)*2^(32*i)))/\w=wq)
   case atStart=>exact ⟨0,z,rfl,rfl,by omega,by omega,by omega,af (by rw [Nat.pow_zero,Nat.mod_one,Nat.zero_mul,Nat.add_zero];exact HB.out),rfl⟩
   case round =>
    obtain ⟨k,y,rfl,rfl,hk,am,hy,HY,rfl⟩:=hrel;by_cases ap:k<32
    ·obtain ⟨u,hu⟩:∃ u,u=x / 2^k:=⟨_,rfl⟩;have aq:u<4294967296:=by have:=Nat.div_le_self x (2^k);omega
     obtain ⟨d,hd⟩:∃ d,d=u % 2:=⟨_,rfl⟩;have eu:(x:Int) / 2^k=(u:Int):=by rw [hu];simp
     have ed:bits .and .u32 (u:Int) 1=(d:Int):=by
      have h:=Cc u 1 aq (by omega);rw [Nat.and_one_is_mod,<-hd] at h;simpa using h
     have ag:Hid (BL (if d=1 then 32*i+k+1 else y) (nv (xs.take i)+(x % 2^(k+1))*2^(32*i))):=af (by
      have hv:nv (xs.take i)+(x % 2^k)*2^(32*i)<2^(32*i+k):=by
       have h1:(x % 2^k+1)*2^(32*i)<=2^k*2^(32*i):=Nat.mul_le_mul_right _ (Nat.mod_lt _ (Nat.two_pow_pos k));rw [<-Nat.pow_add,Nat.add_comm k,Nat.add_mul,Nat.one_mul] at h1;have:=HV.out;omega
      have h:=HY.out.step (b:=d) (by omega) hv;rw [yb,<-hu,<-hd,Nat.add_mul,Nat.mul_assoc d,<-Nat.pow_add,Nat.add_comm k,<-Nat.add_assoc];exact h)
     have ar:(k:Int)<32:=by omega
     have aH:¬ (k:Int)<0:=by omega
     rcases (by omega:d=0\/d=1) with h | h
     ·subst h;clear hu hd;go_wp2_with fail;go_roundg (32 - (k+1))
      case measure=>omega
      case rel=>exact ⟨k+1,y,rfl,by go_num,by omega,Nat.le_refl _,by omega,af (by simpa using ag.out),rfl⟩
     ·subst h;obtain ⟨t,ht⟩:∃ t,t=32*i:=⟨_,rfl⟩;have et:32*(i:Int)=(t:Int):=by omega
      have aI:t<=35184372088832:=by omega
      obtain ⟨t1,aw⟩:∃ t1,t1=t+k:=⟨_,rfl⟩;have et1:(t:Int)+(k:Int)=(t1:Int):=by omega
      obtain ⟨t2,ay⟩:∃ t2,t2=t1+1:=⟨_,rfl⟩;have et2:(t1:Int)+1=(t2:Int):=by omega
      have az:t1<=35184372088864:=by omega
      have aA:t2<=35184372088865:=by omega
      have ai:Hid (t2=32*i+k+1):=af (by omega);clear hu hd ht aw ay;go_wp2_with fail;go_roundg (32 - (k+1))
      case measure=>omega
      case rel=>exact ⟨k+1,t2,rfl,by go_num,by omega,Nat.le_refl _,by have:=ai.out;omega,af (by have h:=ag.out;simp only [if_true] at h;rw [<-ai.out] at h;exact h),rfl⟩
    ·have aj:k=32:=by omega
     have ag:Hid (BL y (nv (xs.take (i+1)))):=af (by
      have h:=HY.out;rw [aj,show (2:Nat)^32=4294967296 by rfl,Nat.mod_eq_of_lt ah,HX.out] at h;rw [gX,show (4294967296:Nat)=2^32 by rfl,<-Nat.pow_mul];exact h)
     have aB:y<=32*(i+1):=by omega
     clear aj;go_wp2_with fail;go_roundg (n - (i+1))
     case measure=>omega
     case rel=>exact ⟨i+1,y,rfl,by go_num,by omega,Nat.le_refl _,aB,ag,rfl⟩
  ·have al:i=n:=by omega
   have HF:Hid (BL z (nv xs)):=af (by have h:=HB.out;rw [al,HN.out,ig _ _ (Nat.le_refl _)] at h;exact h);clear al;go_wp2_with fail;go_ret;exact ⟨⟨z,rfl,HF.out⟩,rfl⟩
theorem FP {c x s:Nat} (hc:c<2^s):(c ||| x*2^s)=c+x*2^s:=by
 rw [Nat.or_comm,Nat.mul_comm,<-Nat.two_pow_add_eq_or_of_lt hc];omega
theorem vX (va:Value) (xs:List Nat) (s:Nat) (w:World) (ha:WdsAt w va xs) (hs:s<32) (aw:xs.length<=549755813888) :
  Calls Tryz.prog 258 #[va,.int .i64 s] w fun e w'=>(∃ v',e=.returned v'/\WdsAt w' v' (nw (nv xs*2^s)))/\gO w w':=by
 have HA:=af ha;obtain ⟨a0,c0,rfl⟩:=ha.shape;obtain ⟨l0,h0⟩:∃ l0,l0=xs.length:=⟨_,rfl⟩;rw [<-h0] at HA aw⊢;have H0:=af h0;have aH:¬ (s:Int)<0:=by omega
 clear ha h0;go_enter Tryz.func258,Tryz.ntmps258;go_wp2_with fail;go_loopg [5,6,11] l0 (fun kx s5 s6 s11 wr=>∃ (i c:Nat) (L:List Nat),s6=.int .u64 c/\s11=.int .i64 i/\i<=l0/\l0 - i<=kx/\c<4294967296/\Hid (c<2^s)/\Hid (iO wr w.heap.size s5 L)/\Hid (L.length=i)/\Hid (nv L+c*4294967296^i=nv (xs.take i)*2^s)/\Hid (gO w wr))
 case atStart=>exact ⟨0,0,[],rfl,rfl,Nat.zero_le _,by omega,by omega,af (Nat.two_pow_pos s),af (iO.nil _ _),af rfl,af (by simp [jR]),af (gO.refl _)⟩
 case round =>
  obtain ⟨i,c,L,rfl,rfl,hi,aI,hc,HC,HO,HL,HI,HK⟩:=hrel;have ay:i<1099511627776:=by omega
  have aj:Hid (L.length<1099511627776):=af (by rw [HL.out];exact ay);have al:=af HK.out.size;by_cases aJ:i<l0
  ·obtain ⟨b,o,rfl,az⟩:=(HA.out.kept HK.out).get i (by have:=H0.out;omega);have hx:=HA.out.wd.getD i;obtain ⟨x,ah⟩:∃ x,x=xs.getD i 0:=⟨_,rfl⟩;rw [<-ah] at az hx;obtain ⟨y,hy⟩:∃ y,y=x*2^s:=⟨_,rfl⟩;have aA:y<18446744073709551616:=by rw [hy];exact GH x s hx hs
   have ey:(x:Int)*2^s=(y:Int):=by rw [hy];simp
   obtain ⟨t,ht⟩:∃ t,t=c+y:=⟨_,rfl⟩
   have eo:bits .or .u64 (c:Int) (y:Int)=(t:Int):=by
    have h:=tR c y (by omega) aA;rw [hy,FP HC.out,<-hy,<-ht] at h;exact h
   have am:t<2^s*4294967296:=by
    have h1:(x+1)*2^s<=4294967296*2^s:=Nat.mul_le_mul_right _ hx;rw [Nat.add_mul,Nat.one_mul,Nat.mul_comm 4294967296] at h1;have:=HC.out;omega
   have aK:t<18446744073709551616:=by
    have h2:2^s<=2^31:=Nat.pow_le_pow_right (by omega) (by omega);have h3:2^s*4294967296<=2^31*4294967296:=Nat.mul_le_mul_right _ h2;omega
   obtain ⟨r,hr⟩:∃ r,r=t % 4294967296:=⟨_,rfl⟩;obtain ⟨q,hq⟩:∃ q,q=t / 4294967296:=⟨_,rfl⟩;have aB:r<4294967296:=by omega
   have aC:q<4294967296:=by omega
   have HQ:Hid (q<2^s):=af (by rw [hq];exact Nat.div_lt_of_lt_mul (by rw [Nat.mul_comm];exact am));have e6:(t:Int) / 4294967296=(q:Int):=by omega
   have e5:IntKind.u32.wrap (t:Int)=(r:Int):=by rw [IntKind.wrap_u32];omega
   have aD:Hid (nv (L++[r])+q*4294967296^(i+1)=nv (xs.take (i+1))*2^s):=af (by
    have h1:=mt t (4294967296^i);rw [<-hr,<-hq] at h1;have h2:=HI.out;rw [qQ HL.out,gX,<-ah,Nat.add_mul,<-h2,Nat.pow_succ,Nat.mul_comm (4294967296^i) 4294967296,Nat.add_assoc,h1,ht,Nat.add_mul,hy,Nat.mul_assoc x,Nat.mul_comm (2^s),<-Nat.mul_assoc];omega)
   have aL:(i:Int)<(l0:Int):=by omega
   clear ah hy ht am hr hq;go_wp2_with (at_builtin;refine pB rfl _ _ rfl w.heap.size _ L rfl (HO.out.kept ((gO.refl _).alloc _)) _ r rfl (by simp) aB aj.out (by have:=al.out;simp;omega) ?_;intro v7 w7 h7 ag;have O7:=af h7;have ai:=af ag;clear h7 ag);go_roundg (l0 - (i+1))
   case measure=>omega
   case rel=>exact ⟨i+1,q,L++[r],rfl,by go_num,by omega,Nat.le_refl _,aC,HQ,O7,af (by rw [List.length_append,HL.out];rfl),aD,af ((HK.out.alloc _).app ai.out)⟩
  ·have ap:i=l0:=by omega
   have HV:Hid (nv (L++[c])=nv xs*2^s):=af (by
    have h:=HI.out;rw [qQ HL.out,h,ap,H0.out,ig _ _ (Nat.le_refl _)])
   have e5:IntKind.u32.wrap (c:Int)=(c:Int):=by rw [IntKind.wrap_u32];omega
   have HT:Hid (∀ W v7,iO W w.heap.size v7 (L++[c])->Calls Tryz.prog 227 #[v7] W fun e w'=>(∃ v',e=.returned v'/\WdsAt w' v' (nw (nv xs*2^s)))/\gO W w'):=af fun W v7 h7=>by
    have h:=kJ v7 _ W h7.at;rw [HV.out] at h;exact h.mono fun _ _ ⟨⟨v',h1,h2⟩,h3⟩=>⟨⟨v',h1,h2.at⟩,h3⟩
   clear ap
   go_wp2_with (first
    | (at_builtin;refine pB rfl _ _ rfl w.heap.size _ L rfl (HO.out.kept ((gO.refl _).alloc _)) _ c rfl (by simp) hc aj.out (by have:=al.out;simp;omega) ?_;intro v7 w7 h7 ag;have O7:=af h7;have ai:=af ag;clear h7 ag)
    | (go_at_call 227;(with_reducible refine (HT.out _ _ O7.out).mono ?_);rintro e w8 ⟨⟨v8,rfl,aq⟩,ar⟩;have aF:=af aq;have aG:=af ar;clear aq ar))
   go_ret;exact ⟨⟨_,rfl,aF.out⟩,((HK.out.alloc _).app ai.out).trans aG.out⟩
theorem zm (va:Value) (xs:List Nat) (n:Nat) (w:World) (ha:WdsAt w va xs) (hn:n<32) :
  Calls Tryz.prog 259 #[va,.int .i64 n] w fun e w'=>(∃ v',e=.returned v'/\WdsAt w' v' (nw (nv xs / 2^n)))/\gO w w':=by
 have HW:=af (fun W (hk:gO w W) (i:Nat)=>jT va xs i W (ha.kept hk));have HA:=af ha;obtain ⟨a0,c0,rfl⟩:=ha.shape;obtain ⟨l0,h0⟩:∃ l0,l0=xs.length:=⟨_,rfl⟩;have az:l0<=1099511627776:=by rw [h0];exact ha.len
 rw [<-h0] at HW⊢;have H0:=af h0;have aA:¬ (n:Int)<0:=by omega
 clear ha h0;go_enter Tryz.func259,Tryz.ntmps259;go_wp2_with fail;go_loopg [5,9] l0 (fun kx s5 s9 wr=>∃ (i:Nat) (L:List Nat),s9=.int .i64 i/\i<=l0/\l0 - i<=kx/\Hid (iO wr w.heap.size s5 L)/\Hid (L.length=i)/\Hid (nv L=nv xs / 2^n % 4294967296^i)/\Hid (gO w wr))
 case atStart=>exact ⟨0,[],rfl,Nat.zero_le _,by omega,af (iO.nil _ _),af rfl,af (by simp [jR,Nat.mod_one]),af (gO.refl _)⟩
 case round =>
  obtain ⟨i,L,rfl,hi,aB,HO,HL,HI,HK⟩:=hrel;by_cases aC:i<l0
  ·obtain ⟨t,u,h1,h2,h3,h4,h5⟩:=uy hn (by have:=H0.out;omega:i<xs.length) HA.out.wd;have hx:=HA.out.wd.getD i;have aD:=HA.out.wd.getD (i+1);have HX:=af (HW.out wr HK.out i);have al:=af (HW.out wr HK.out (i+1));generalize xs.getD i 0=x at *;generalize xs.getD (i+1) 0=x1 at *;obtain ⟨r,hr⟩:∃ r,r=u % 4294967296:=⟨_,rfl⟩;have am:r<4294967296:=by omega
   have e5:IntKind.u32.wrap (u:Int)=(r:Int):=by rw [IntKind.wrap_u32];omega
   have HS:Hid (nv (L++[r])=nv xs / 2^n % 4294967296^(i+1)):=af (by rw [qQ HL.out,HI.out,hr,h5,qO]);have aF:(i:Int)<(l0:Int):=by omega
   have ap:Hid (L.length<1099511627776):=af (by rw [HL.out];omega);have aq:=af HK.out.size;clear h5 hr
   go_wp2_with (first
    | (go_at_call 226;(with_reducible refine HX.out.mono ?_);rintro e w2 ⟨rfl,rfl⟩)
    | (go_at_call 226;refine al.out.mono ?_;rintro e w2 ⟨rfl,rfl⟩)
    | (at_builtin;refine pB rfl _ _ rfl w.heap.size _ L rfl (HO.out.kept ((gO.refl _).alloc _)) _ r rfl (by simp) am ap.out (by have:=aq.out;simp;omega) ?_;intro v7 w7 h7 ag;have O7:=af h7;have ar:=af ag;clear h7 ag))
   go_roundg (l0 - (i+1))
   case measure=>omega
   case rel=>exact ⟨i+1,L++[r],by go_num,by omega,Nat.le_refl _,O7,af (by rw [List.length_append,HL.out];rfl),HS,af ((HK.out.alloc _).app ar.out)⟩
  ·have ah:i=l0:=by omega
   have HV:Hid (nv L=nv xs / 2^n):=af (by
    rw [HI.out];refine Nat.mod_eq_of_lt (Nat.lt_of_le_of_lt (Nat.div_le_self _ _) ?_);rw [ah,H0.out];exact kM HA.out.wd)
   have HT:=af (kJ _ _ _ HO.out.at);clear ah;go_wp2_with fail;refine HT.out.mono ?_;rintro e w2 ⟨⟨v2,rfl,ai⟩,aj⟩;have aw:=af ai;have ay:=af (HK.out.trans aj);clear ai aj;go_wp2;go_ret;exact ⟨⟨_,rfl,by rw [<-HV.out];exact aw.out.at⟩,ay.out⟩
theorem CH (y:Nat) (hy:y<4294967296):(y &&& 2^31)=if 2147483648<=y then 2147483648 else 0:=by
 have hb:y.testBit 31=decide (2147483648<=y):=by
  rw [Nat.testBit_eq_decide_div_mod_eq,show (2:Nat)^31=2147483648 by rfl];exact decide_eq_decide.2 (by omega)
 by_cases h:2147483648<=y
 ·rw [if_pos h,show (2147483648:Nat)=2^31 by rfl];refine Nat.eq_of_testBit_eq fun i=>?_
  rw [Nat.testBit_and,Nat.testBit_two_pow];by_cases e:31=i
  ·subst e;rw [hb];simp [h]
  ·simp [e]
 ·rw [if_neg h];refine Nat.eq_of_testBit_eq fun i=>?_
  rw [Nat.testBit_and,Nat.testBit_two_pow,Nat.zero_testBit];by_cases e:31=i
  ·subst e;rw [hb];simp [h]
  ·simp [e]
theorem Cb (y:Nat) (hy:y<4294967296):bits .and .u32 (y:Int) 2147483648=if 2147483648<=y then 2147483648 else 0:=by
 have h:=Cc y (2^31) hy (by omega);rw [CH y hy] at h;by_cases h2:2147483648<=y
 ·rw [if_pos h2] at h⊢;simpa using h
 ·rw [if_neg h2] at h⊢;simpa using h
theorem DB {B s m x N:Nat} (hl:(nw B).length=m+1) (hx:x=(nw B).getD m 0) (hs:s<32) (h1:2147483648<=x*2^s) (h2:x*2^s<4294967296) (hN:N=B*2^s):(nw N).length=m+1/\2147483648<=(nw N).getD m 0/\N<4294967296^(m+1):=by
 obtain ⟨_,h3,h4⟩:=mD (lC B) (m:=m) hl;rw [gW,<-hx] at h3 h4
 have h5:(x+1)*2^s<=4294967296:=by
  have e:(4294967296:Nat)=2^(32 - s)*2^s:=by rw [<-Nat.pow_add,show 32 - s+s=32 by omega]
  rw [e] at h2⊢;exact Nat.mul_le_mul_right _ (Nat.lt_of_mul_lt_mul_right h2)
 have ah:N<4294967296^(m+1):=by
  have h6:B*2^s<(x+1)*4294967296^m*2^s:=(Nat.mul_lt_mul_right (Nat.two_pow_pos _)).2 h4;have h7:(x+1)*4294967296^m*2^s=(x+1)*2^s*4294967296^m:=by rw [Nat.mul_assoc,Nat.mul_comm (4294967296^m),<-Nat.mul_assoc]
  have h8:(x+1)*2^s*4294967296^m<=4294967296*4294967296^m:=Nat.mul_le_mul_right _ h5;rw [Nat.pow_succ,Nat.mul_comm (4294967296^m),hN];omega
 have ai:2147483648*4294967296^m<=N:=by
  have h6:x*2^s*4294967296^m<=N:=by
   rw [hN,Nat.mul_assoc,Nat.mul_comm (2^s),<-Nat.mul_assoc];exact Nat.mul_le_mul_right _ h3
  exact Nat.le_trans (Nat.mul_le_mul_right _ h1) h6
 have ag:(nw N).length=m+1:=by
  have h6:=iw.2 ah;rcases Nat.lt_or_ge m (nw N).length with h7 | h7
  ·omega
  ·have h8:=iw.1 h7
   have:1*4294967296^m<=2147483648*4294967296^m:=Nat.mul_le_mul_right _ (by omega)
   omega
 refine ⟨ag,?_,ah⟩;obtain ⟨_,_,h6⟩:=mD (lC N) (m:=m) ag;rw [gW] at h6;have:=Nat.lt_of_mul_lt_mul_right (Nat.lt_of_le_of_lt ai h6);omega
theorem DT {N X m head:Nat} (hN:(nw N).length=m+1) (ht:2147483648<=(nw N).getD m 0) (hX:X<N*4294967296) (hh:head=(nw X).getD (m+1) 0*4294967296+(nw X).getD m 0):X / N<=min (head / (nw N).getD m 0) 4294967295:=by
 have ag:=iw.1 (Nat.le_of_eq hN)
 have ah:X<4294967296^(m+2):=by
  rw [Nat.pow_succ];exact Nat.lt_of_lt_of_le hX (Nat.mul_le_mul_right _ (Nat.le_of_lt ag))
 have hl:=iw.2 ah;refine Nat.le_min.2 ⟨?_,?_⟩
 ·obtain ⟨_,h3,_⟩:=mD (lC N) (m:=m) hN;rw [gW] at h3;refine yy h3 ?_ (by omega);have h4:=gX (nw X) m;have h5:=gX (nw X) (m+1);rw [ig (nw X) (m+1+1) (by omega),gW] at h5;have h6:nv ((nw X).take m)<4294967296^m:=by have:=Bu (lC X) 0 m;simpa using this
  rw [h4] at h5;generalize (nw X).getD (m+1) 0=p at *;generalize (nw X).getD m 0=q at *;generalize nv ((nw X).take m)=t at *;have h7:p*4294967296^(m+1)=p*4294967296*4294967296^m:=by rw [Nat.pow_succ,Nat.mul_comm (4294967296^m),<-Nat.mul_assoc]
  rw [hh,Nat.add_mul,Nat.add_mul,Nat.one_mul];omega
 ·have:X / N<4294967296:=Nat.div_lt_of_lt_mul hX
  omega
theorem FR (w:World) (B x:Nat) (hx:x<4294967296) (hB:B<=w.heap.size):iO (w.alloc (.cells #[.int .u32 (x:Int)] 70)) B (.slice (some ⟨w.heap.size,0,none⟩) 1 1) [x] :=
 ⟨⟨by simp,.inr ⟨w.heap.size,1,#[.int .u32 (x:Int)],rfl,hB,heap_alloc_new w _,Nat.le_refl _,by unfold maxLen;omega,by simp,by simp [mV]⟩⟩,by simp,Wd.cons hx Wd.nil⟩
theorem Gr {Aw Q:List Nat} {N R j g X:Nat} (h:nv (Aw.drop (j+1))=N*nv (Q.drop (j+1))+R) (hj:j<Aw.length) (hq:j<Q.length) (hX:X=Aw.getD j 0+4294967296*R) (hg:g=X / N):nv (Aw.drop j)=N*nv ((Q.set j g).drop j)+X % N:=by
 rw [iG hj,iG (l:=Q.set j g) (by rw [List.length_set];exact hq),lO hq,List.drop_set_of_lt (by omega),hg];exact vN h X hX
theorem Gq {N X g:Nat} (hN:0<N) (ag:X / N<=g) (hm:X<N*g):∃ g',g=g'+1/\X / N<=g'/\N*g - N=N*g'/\N<=N*g:=by
 have h1:X / N<g:=by rw [Nat.div_lt_iff_lt_mul hN,Nat.mul_comm];exact hm
 have h0:0<g:=Nat.lt_of_le_of_lt (Nat.zero_le _) h1;obtain ⟨g',rfl⟩:∃ g',g=g'+1:=⟨g - 1,(Nat.sub_add_cancel h0).symm⟩;refine ⟨g',rfl,Nat.le_of_lt_succ h1,?_,?_⟩
 ·rw [Nat.mul_add,Nat.mul_one,Nat.add_sub_cancel]
 ·rw [Nat.mul_add,Nat.mul_one];omega
theorem Gp {N X g:Nat} (hN:0<N) (ag:X / N<=g) (hm:N*g<=X):g=X / N/\X - N*g=X % N:=by
 have h1:g<=X / N:=by rw [Nat.le_div_iff_mul_le hN,Nat.mul_comm];exact hm
 have h2:g=X / N:=Nat.le_antisymm h1 ag;refine ⟨h2,?_⟩;have h3:=Nat.div_add_mod X N;rw [h2];generalize N*(X / N)=z at *;omega
theorem DU {Aw:List Nat} {N m:Nat} (hw:Wd Aw) (hN:(nw N).length=m+1):nv (Aw.drop (Aw.length+1 - (m+1)))<N:=by
 have h1:=kM (hw.drop (Aw.length+1 - (m+1)));have h2:4294967296^(Aw.drop (Aw.length+1 - (m+1))).length<=4294967296^m:=Nat.pow_le_pow_right (by omega) (by rw [List.length_drop];omega);have h3:¬ N<4294967296^m:=fun h=>by have:=iw.2 h;omega
 omega
theorem uH (w:World) (n:Nat) (hn:n<=549755813888):∃ w',Sem.run Tryz.prog (Instr.makeSlice 27 (.int .i64 (n:Int)) (.int .i64 (n:Int))) w=Result.ok (.slice (some ⟨w.heap.size,0,none⟩) n n) w'/\gS w' w.heap.size 70 (List.replicate n (.int .u32 0))/\gO w w':=by
 obtain ⟨i0,ah,ai,aj,al⟩:=info_parts kf;obtain ⟨w',ag,r1,r2⟩:=run_make_full (P:=Tryz.prog) w w.heap.size 27 70 i0 (.int .u32 0) 1 Tryz.underlying27 ah ai aj .i64 .i64 n (by rw [al];omega) (by unfold maxLen;omega) (Nat.le_refl _);refine ⟨w',ag,?_,⟨r2.os,r2.tape,r2.output,r2.size,fun k hk=>r2.block k hk (by simp)⟩⟩;rw [tH (.int .u32 0) rfl n] at r1;obtain ⟨h3,h4⟩:=r1;rcases h4 with ⟨h4,_⟩ | ⟨g,cap,cur,h4,h5,h6,h7,h8,h9,am⟩
 ·cases h4
 ·cases h4;exact ⟨cur,h6,by simp;omega,by simpa using am⟩
theorem Ee {ops:Array Oper} {o:Oper} {a:Act} {K:Act->World->Prop} {Q:Exit->Act->World->Prop} {E:Prop} {w:World} (ai:o.guard=none) (s x:Operand)
  (ho:o.op=.call { callee:=.builtin .append,args:=#[s,x],argTypes:=#[27,27] }) (B:Nat) (v:Value) (xs:List Nat) (hs:a.eval s=v) (ag:iO w B v xs)
  (ad:Addr) (n c:Nat) (ys:List Nat) (hx:a.eval x=.slice (some ad) n c) (hu:WdsAt w (.slice (some ad) n c) ys) (hl:xs.length+ys.length<=1099511627776) (hB:B<=w.heap.size)
  (h:∀ v' w',iO w' B v' (xs++ys)->w.grownBy w' v.ownBlock->K (a.put o.dst v') w'):if Region.wanted o (yielded ops a.tmps)=true then Oper.wp Tryz.prog o a w K Q else E:=by
 have hw:Region.wanted o (yielded ops a.tmps)=true:=by simp [Region.wanted,ai]
 rw [if_pos hw];obtain ⟨i0,aj,al,am,ap⟩:=info_parts kf;obtain ⟨ad',c',he,⟨hc,az⟩,aA,aq,ah⟩:=hu;injection he with ar aw ay
 subst aw ay;subst ar;refine wp_append_own _ s x 27 ho B 70 i0 _ 1 4 Tryz.underlying27 aj al am ap rfl (by decide) v xs.length _ hs ag.1 ad ys.length c (ys.map mV) hx (by simp) ?_ ?_ (by simp [maxLen];omega) (by omega) hB ?_
 ·intro j u hj
  have hj':j<ys.length:=by
   rcases Nat.lt_or_ge j ys.length with h | h
   ·exact h
   ·rw [List.getElem?_eq_none (by simpa using h)] at hj;cases hj
  obtain ⟨b,o,h5,h6⟩:=ah j hj';cases h5;simp [hj',mV] at hj;subst hj;rw [show ({ block:=b,off:=o }:Addr).add j=⟨b,o+j,none⟩ by unfold Addr.add;split <;> simp_all,h6];simp [List.getD_eq_getElem?_getD,hj']
 ·intro u hu;obtain ⟨y,_,rfl⟩:=List.mem_map.1 hu;rfl
 ·intro v' w' h5 h6 _;exact h v' w' ⟨by simpa using h5,by simp;omega,ag.2.2.app aq⟩ h6
theorem JU {xs:List Nat} {s:Nat} (hw:Wd xs) (hs:s<32):(nw (nv xs*2^s)).length<=xs.length+1:=by
 have h:2^s<=2^32:=Nat.pow_le_pow_right (by omega) (by omega);have e:(2:Nat)^32=4294967296:=rfl;rw [e] at h;refine iw.2 ?_;rw [Nat.pow_succ];exact Nat.lt_of_lt_of_le (Nat.mul_lt_mul_of_pos_right (kM hw) (Nat.two_pow_pos s)) (Nat.mul_le_mul_left _ h)
theorem qi (va vb:Value) (xs ys:List Nat) (w:World) (ha:WdsAt w va xs) (hb:WdsAt w vb ys) (aC:xs.length<=137438953472) (cK:ys.length<=137438953472) (bS:nv xs≠0) (bT:nv ys≠0) :
  Calls Tryz.prog 225 #[va,vb] w fun e w'=>(∃ v1 v2,e=.returned (.tuple #[v1,v2,.int .i64 0])/\WdsAt w' v1 (nw (nv xs / nv ys))/\WdsAt w' v2 (nw (nv xs % nv ys)))/\gO w w':=by
 have bU:=af (kJ vb ys w hb)
 obtain ⟨m,hm⟩:∃ m,(nw (nv ys)).length=m+1:=⟨(nw (nv ys)).length - 1,by
  have:(nw (nv ys)).length≠0:=fun h=>bT (kl.1 (List.eq_nil_of_length_eq_zero h))
  omega⟩
 have dD:m<=137438953472:=by have:=jY hb.wd;omega
 obtain ⟨x,hx⟩:∃ x,x=(nw (nv ys)).getD m 0:=⟨_,rfl⟩;have cL:x<4294967296:=by rw [hx];exact (lC _).getD _
 have bV:x≠0:=by
  have h:=FL (nv ys);have cM:nw (nv ys)≠[]:=fun e=>by rw [e] at hm;simp at hm
  have h2:=h cM;rw [List.getLast_eq_getElem] at h2;rw [hx,List.getD_eq_getElem?_getD,show m=(nw (nv ys)).length - 1 by omega,List.getElem?_eq_getElem (by omega)];exact h2
 obtain ⟨s0,_,al,aJ,aK⟩:=vM cL bV;have bW:=af (fun W (hk:gO w W)=>vX va xs s0 W (ha.kept hk) al (by omega));have bX:Hid ((nw (nv xs*2^s0)).length<=137438953473):=af (Nat.le_trans (JU ha.wd al) (by omega));obtain ⟨a0,c0,rfl⟩:=ha.shape;obtain ⟨a1,c1,rfl⟩:=hb.shape;obtain ⟨A,hA⟩:∃ A,A=nv xs:=⟨_,rfl⟩;obtain ⟨B,hB⟩:∃ B,B=nv ys:=⟨_,rfl⟩;rw [<-hB] at bU hm hx⊢;rw [<-hA] at bW bX bS⊢;have cN:=af bS;obtain ⟨n,hn⟩:∃ n,n=m+1:=⟨_,rfl⟩;have HN:=af hn;have HM:=af hm;have HX:=af hx;have aL:=af (And.intro aJ aK);have en:(n:Int) - 1=(m:Int):=by omega
 have dE:((n:Int) == 0)=false:=by simp;omega
 have dF:m<n:=by omega
 have cO:(m:Int)<(n:Int):=by omega
 have dG:n<=137438953473:=by omega
 generalize xs.length=lx at *;generalize ys.length=ly at *;clear bV hm hx ha hb hA hB bT hn aC cK aJ aK;go_enter Tryz.func225,Tryz.ntmps225;go_wp2_with fail;refine bU.out.mono ?_;rintro e w1 ⟨⟨v1,rfl,bt⟩,bY⟩;have H1:=af bt.at;have bZ:=af bY;obtain ⟨a2,c2,hv⟩:=bt.at.shape;rw [HM.out,<-HN.out] at hv;subst hv;obtain ⟨b2,o2,rfl,b_⟩:=H1.out.get m (by rw [HM.out];omega);rw [<-HX.out] at b_;clear bt bY;go_wp2_with fail;go_loopg [8] s0 (fun kx s8 wr=>∃ s:Nat,s8=.int .i64 s/\s<=s0/\s0 - s<=kx/\w1=wr)
 case atStart=>exact ⟨0,rfl,Nat.zero_le _,Nat.le_refl _,rfl⟩
 case round =>
  obtain ⟨s,rfl,hs,cP,rfl⟩:=hrel;obtain ⟨y,hy⟩:∃ y,y=x*2^s:=⟨_,rfl⟩;have ey:(x:Int)*2^s=(y:Int):=by rw [hy];simp
  have dH:¬ (s:Int)<0:=by omega
  by_cases cQ:s<s0
  ·have aM:y<2147483648:=by
    have h1:2^s*2<=2^s0:=by rw [<-Nat.pow_succ];exact Nat.pow_le_pow_right (by omega) cQ
    have h2:x*(2^s*2)<=x*2^s0:=Nat.mul_le_mul_left _ h1;rw [<-Nat.mul_assoc] at h2;have:=aL.out.2;omega
   have ew:IntKind.u32.wrap (y:Int)=(y:Int):=by rw [IntKind.wrap_u32];omega
   have ea:bits .and .u32 (y:Int) 2147483648=0:=by rw [Cb y (by omega),if_neg (by omega)]
   clear hy;go_wp2_with fail;go_roundg (s0 - (s+1))
   case measure=>omega
   case rel=>exact ⟨s+1,by go_num,by omega,Nat.le_refl _,rfl⟩
  ·have cR:s=s0:=by omega
   subst cR;have cS:2147483648<=y:=by rw [hy];exact aL.out.1
   have aM:y<4294967296:=by rw [hy];exact aL.out.2
   have ew:IntKind.u32.wrap (y:Int)=(y:Int):=by rw [IntKind.wrap_u32];omega
   have ea:bits .and .u32 (y:Int) 2147483648=2147483648:=by rw [Cb y aM,if_pos cS]
   clear hy;go_wp2_with fail;refine (bW.out _ bZ.out).mono ?_;rintro e w3 ⟨⟨v3,rfl,aN⟩,bw⟩;have H3:=af aN;have H1':=af (H1.out.kept bw);have cU:=af (bZ.out.trans bw);clear aN bw b_ ea ew;go_wp2_with fail;have bz:=DB (N:=B*2^s) HM.out HX.out al aL.out.1 aL.out.2 rfl;refine (vX _ (nw B) s _ H1'.out al (by rw [HM.out];omega)).mono ?_;rintro e w4 ⟨⟨v4,rfl,bf⟩,bA⟩;rw [gW] at bf;obtain ⟨N,bB⟩:∃ N,N=B*2^s:=⟨_,rfl⟩;rw [<-bB] at bf bz;have cd:=af bB;have aD:=af bz;have H4:=af bf;have H3':=af (H3.out.kept bA);have cV:=af (cU.out.trans bA);obtain ⟨A2,aO⟩:∃ A2,A2=nw (A*2^s):=⟨_,rfl⟩;have bC:=af aO;obtain ⟨la,aC⟩:∃ la,la=A2.length:=⟨_,rfl⟩;have aw:=af aC;have aP:la<=549755813888:=by rw [aC,aO];exact Nat.le_trans bX.out (by omega)
   obtain ⟨a3,c3,aN⟩:=H3'.out.shape;rw [<-aO,<-aC] at aN;subst aN;rw [<-aO] at H3';obtain ⟨kk,ci⟩:∃ kk,kk=la+1 - n:=⟨_,rfl⟩;have dI:(la:Int) - (n:Int)<549755813888:=by omega
   obtain ⟨d,hd⟩:∃ d,d=(la:Int) - (n:Int):=⟨_,rfl⟩;have cW:d=(kk:Int) - 1\/(kk=0/\d<0/\-137438953473<=d):=by omega
   have bh:=af ci;clear bf bA bz bB aO aC H3 H1' ci;go_wp2_with fail;go_cut [9,10] (fun v9 v10 wx=>∃ (g:Nat) (Rs:List Nat),v9=.slice (some ⟨g,0,none⟩) la la/\Hid (w4.heap.size<=g/\gS wx g 70 ((List.replicate la 0).map mV))/\Hid (WdsAt wx v10 Rs/\nv Rs=nv (A2.drop kk)/\Rs.length<=549755813888)/\Hid (gO w4 wx))
   case first =>
    have bD:0<la:=by
     have h1:A2≠[]:=by
      rw [bC.out];intro h;have h2:=kl.1 h;rcases Nat.mul_eq_zero.1 h2 with h3 | h3
      ·exact cN.out h3
      ·have:=Nat.two_pow_pos s;omega
     rw [aw.out];exact List.length_pos_iff.2 h1
    obtain ⟨b3,o3,rfl,_⟩:=H3'.out.get 0 (by rw [<-aw.out];exact bD)
    have hcap:la<=c3:=by
     obtain ⟨_,_,h1,h2,_⟩:=H3'.out;injection h1 with h3 h4 h5
     rw [h4,h5];exact h2.1
    obtain ⟨mk,cj⟩:∃ mk:World->World,∀ W,Sem.run Tryz.prog (Instr.makeSlice 27 (.int .i64 (la:Int)) (.int .i64 (la:Int))) W=Result.ok (.slice (some ⟨W.heap.size,0,none⟩) la la) (mk W)/\gS (mk W) W.heap.size 70 (List.replicate la (.int .u32 0))/\gO W (mk W) :=
     ⟨fun W=>(uH W la aP).choose,fun W=>(uH W la aP).choose_spec⟩
    have ag:=af cj;have ck:=fun W=>(ag.out W).1
    have ew1:IntKind.i64.wrap ((la:Int) - (n:Int))=(la:Int) - (n:Int):=by rw [IntKind.wrap_i64];omega
    have ew2:IntKind.i64.wrap ((la:Int) - (n:Int)+1)=(la:Int) - (n:Int)+1:=by rw [IntKind.wrap_i64];omega
    have emx:max 0 ((la:Int) - (n:Int)+1)=(kk:Int):=by have:=bh.out;omega
    have cX:kk<=la:=by have:=bh.out;omega
    have cZ:(kk:Int)<=(la:Int):=by omega
    have bE:(0:Int)<=(kk:Int):=by omega
    have dJ:(kk:Int)<=(c3:Int):=by omega
    have dK:(la:Int)<=(c3:Int):=by omega
    clear cj hd cW
    obtain ⟨ad,ai⟩:∃ ad:Addr,(if c3=kk then some (⟨b3,o3,none⟩:Addr) else some ⟨b3,o3+kk,none⟩)=some ad:=by
     by_cases h:c3=kk
     ·exact ⟨_,if_pos h⟩
     ·exact ⟨_,if_neg h⟩
    have HU:Hid (∀ W,gO w4 W->WdsAt W (.slice (some ad) (la - kk) (c3 - kk)) (A2.drop kk)):=af fun W hk=>by
     by_cases h:c3=kk
     ·rw [if_pos h] at ai;have e1:la=kk:=by omega
      have e2:A2.drop kk=[]:=List.drop_eq_nil_of_le (by rw [<-aw.out,e1];exact Nat.le_refl _);rw [e2,e1,Nat.sub_self];exact ⟨some ad,c3 - kk,rfl,⟨Nat.zero_le _,fun h=>by cases h⟩,by simp,Wd.nil,fun i hi=>by simp at hi⟩
     ·rw [if_neg h] at ai;injection ai with ai
      rw [<-ai];have:=(H3'.out.kept hk).drop kk (by rw [<-aw.out];exact cX);exact this
    have aQ:=af ai;have ap:Hid ((A2.drop kk).length<=549755813888):=af (by rw [List.length_drop,<-aw.out];omega);clear ai hcap;go_region_law (refine Ee (by rfl) _ _ (by rfl) w4.heap.size _ [] (by rfl) (by first | exact jM _ _ (ag.out w4.drew).2.2.size | exact (jM w4.drew w4.heap.size (Nat.le_refl _)).kept (ag.out _).2.2 | exact jM w4.drew _ (Nat.le_refl _)) ad (la - kk) (c3 - kk) (A2.drop kk) (by exact congrArg (fun q=>Value.slice q (la - kk) (c3 - kk)) aQ.out) (HU.out _ (by first | exact ((gO.refl w4).drew.trans (ag.out _).2.2).alloc _ | exact ((gO.refl w4).drew.alloc _).trans (ag.out _).2.2 | exact (gO.refl w4).drew.alloc _)) (by have:=ap.out;simp only [List.length_nil];omega) (by first | exact (((gO.refl w4).drew.trans (ag.out _).2.2).alloc _).size | exact (((gO.refl w4).drew.alloc _).trans (ag.out _).2.2).size | exact ((gO.refl w4).drew.alloc _).size) ?_;intro v7 w7 h7 cn;have O7:=af h7;have G7:=af cn;clear h7 cn);all_goals simp only [aQ.out]
    all_goals go_wp2_with fail
    all_goals go_meet
    all_goals first
     | exact ⟨_,_,rfl,af ⟨Nat.le_refl _,ky (((ag.out w4.drew).2.1.kept ((gO.refl _).alloc (.cells #[] 70))).same (G7.out.block _ (by have:=(ag.out w4.drew).2.1.lt;simp only [World.size_alloc];exact Nat.lt_succ_of_lt this) (by have:=(ag.out w4.drew).2.1.lt;exact fun e=>Nat.ne_of_lt this (Option.some.inj e))))⟩,af ⟨O7.out.at,by simp,by have:=ap.out;simpa using this⟩,af ((((gO.refl w4).drew.trans (ag.out w4.drew).2.2).alloc (.cells #[] 70)).app (iD G7.out (jM (mk w4.drew) w4.heap.size (ag.out w4.drew).2.2.size).1 ((((gO.refl w4).drew.trans (ag.out w4.drew).2.2).alloc (.cells #[] 70)).size)))⟩
     | exact ⟨_,_,rfl,af ⟨Nat.le_succ _,ky (gS.same (w:=mk (w4.drew.alloc (.cells #[] 70))) (by have h:=(ag.out (w4.drew.alloc (.cells #[] 70))).2.1;rw [World.size_alloc] at h;exact h) (G7.out.block _ (by have h:=(ag.out (w4.drew.alloc (.cells #[] 70))).2.1.lt;rw [World.size_alloc] at h;exact h) (fun e=>Nat.succ_ne_self _ (Option.some.inj e))))⟩,af ⟨O7.out.at,by simp,by have:=ap.out;simpa using this⟩,af ((((gO.refl w4).drew.alloc (.cells #[] 70)).trans (ag.out _).2.2).app (iD G7.out ((jM w4.drew w4.heap.size (Nat.le_refl _)).kept (ag.out _).2.2).1 ((((gO.refl w4).drew.alloc (.cells #[] 70)).trans (ag.out _).2.2).size)))⟩
     | exact ⟨_,_,rfl,af ⟨Nat.le_trans (((gO.refl w4).drew.alloc (.cells #[] 70)).size) G7.out.size,ky (ag.out w7).2.1⟩,af ⟨O7.out.at.kept (ag.out w7).2.2,by simp,by have:=ap.out;simpa using this⟩,af ((((gO.refl w4).drew.alloc (.cells #[] 70)).app (iD G7.out (jM w4.drew w4.heap.size (Nat.le_refl _)).1 (((gO.refl w4).drew.alloc (.cells #[] 70)).size))).trans (ag.out w7).2.2)⟩
   case rest =>
    obtain ⟨g,Rs,rfl,HG,bi,c_⟩:=hcut;go_wp2_with fail;have dL:=af HG.out.1;have da:Hid (nv (A2.drop kk)=N*nv ((List.replicate la 0).drop kk)+nv Rs/\nv Rs<N):=af ⟨by rw [List.drop_replicate,qR,Nat.mul_zero,Nat.zero_add];exact bi.out.2.1.symm,by rw [bi.out.2.1,bh.out,aw.out,HN.out];exact DU (by rw [bC.out];exact lC _) aD.out.1⟩;have db:=af HG.out.2;rw [<-hd];clear hd;go_loopg [10,11] kk (fun kx s10 s11 wr=>∃ (k:Nat) (j:Int) (Q Rs:List Nat),s11=.int .i64 j/\(j=(k:Int) - 1\/(k=0/\j<0))/\-549755813888<=j/\k<=kk/\k<=kx/\Hid (gS wr g 70 (Q.map mV))/\Hid (Q.length=la/\Wd Q)/\Hid (WdsAt wr s10 Rs/\Rs.length<=549755813888)/\Hid (nv (A2.drop k)=N*nv (Q.drop k)+nv Rs/\nv Rs<N)/\Hid (gO w4 wr))
    case atStart=>exact ⟨kk,d,List.replicate la 0,Rs,rfl,by omega,by omega,Nat.le_refl _,Nat.le_refl _,db,af ⟨by simp,Wd.zeros _⟩,af ⟨bi.out.1,bi.out.2.2⟩,da,c_⟩
    case round =>
     obtain ⟨k,j,Q,Rs2,rfl,dd,dM,hk,cP,HQ,ay,HR,HI,aq⟩:=hrel;have HK:=af (cV.out.trans aq.out);have aR:=af (And.intro (H3'.out.kept aq.out) (H4.out.kept aq.out));by_cases bE:k=0
     ·have cq:j<0:=by omega
      have dN:¬ (0:Int)<=j:=by omega
      subst bE
      have aS:A / B=nv Q/\nv Rs2 / 2^s=A % B:=by
       have h1:=HI.out.1;have h2:=HI.out.2;simp only [List.drop_zero] at h1;rw [bC.out,gW,cd.out] at h1;rw [cd.out] at h2;exact ws h1 h2
      have aT:=af aS
      have de:Hid (WdsAt wr (.slice (some ⟨g,0,none⟩) la la) Q):=af (by
       have h:=l' HQ.out (c:=la) (by rw [ay.out.1];exact Nat.le_refl _) (by rw [ay.out.1];omega) ay.out.2;rw [ay.out.1] at h;exact h)
      clear aS;go_wp2_with fail;refine (kJ _ _ _ de.out).mono ?_;rintro e w8 ⟨⟨v8,rfl,aF⟩,aG⟩;go_wp2_with fail;refine (zm _ Rs2 s _ (HR.out.1.kept aG) al).mono ?_;rintro e w9 ⟨⟨v9,rfl,cr⟩,bF⟩;have H8:=af (aF.at.kept bF);have H9:=af cr;have df:=af ((HK.out.trans aG).trans bF);clear aF aG cr bF;go_wp2;go_ret3;exact ⟨⟨_,_,rfl,by rw [aT.out.1];exact H8.out,by rw [<-aT.out.2];exact H9.out⟩,df.out⟩
     ·obtain ⟨i,rfl⟩:∃ i,k=i+1:=⟨k - 1,by omega⟩;have dg:j=(i:Int):=by omega
      subst dg;have aU:i<la:=by have:=bh.out;omega
      have aV:i<A2.length:=by rw [<-aw.out];exact aU
      obtain ⟨b5,o5,dh,ct⟩:=aR.out.1.get i aV;cases dh;have aM:=aR.out.1.wd.getD i;obtain ⟨y,hy⟩:∃ y,y=A2.getD i 0:=⟨_,rfl⟩;rw [<-hy] at ct aM;obtain ⟨X,hX⟩:∃ X,X=y+4294967296*nv Rs2:=⟨_,rfl⟩;have di:Hid (nv ([y]++Rs2)=X):=af (by rw [hX];rfl);have dj:=af hX;have HY:=af hy;have cu:X<N*4294967296:=by have:=HI.out.2;omega
      have dl:=af cu;have dO:(i:Int)<(la:Int):=by omega
      have dP:(0:Int)<=(i:Int):=by omega
      obtain ⟨ra,rc,dm⟩:=HR.out.1.shape;clear hX hy cu dm dd bE;go_wp2_with (at_builtin;refine wI rfl _ _ rfl wr.heap.size _ [y] rfl (FR wr _ y aM (Nat.le_refl _)) _ Rs2 rfl (HR.out.1.kept ((gO.refl _).alloc _)) (by have:=HR.out.2;simp;omega) (by simp) ?_;intro v7 w7 h7 cw;have O7:=af h7;have dp:=af cw;clear h7 cw);have dq:Hid (gO wr w7):=af (((gO.refl wr).alloc _).app dp.out);refine (kJ _ _ _ O7.out.at).mono ?_;rintro e w8 ⟨⟨v8,rfl,aF⟩,aG⟩;rw [di.out] at aF;have H8:=af aF.at;have bG:=af (dq.out.trans aG);obtain ⟨hp,bj⟩:∃ hp,hp=(nw X).getD n 0:=⟨_,rfl⟩;obtain ⟨hq,bk⟩:∃ hq,hq=(nw X).getD m 0:=⟨_,rfl⟩;obtain ⟨top,am⟩:∃ top,top=(nw N).getD m 0:=⟨_,rfl⟩;have dr:hp<4294967296:=by rw [bj];exact (lC X).getD _
      have dt:hq<4294967296:=by rw [bk];exact (lC X).getD _
      have cz:top<4294967296:=by rw [am];exact (lC N).getD _
      have cC:2147483648<=top:=by rw [am];exact aD.out.2.1
      obtain ⟨aH,az⟩:∃ aH,aH=hp*4294967296+hq:=⟨_,rfl⟩;have eor:=pd hp hq dr dt;rw [<-az] at eor;have hg:=DT (N:=N) (X:=X) (m:=m) (head:=aH) aD.out.1 aD.out.2.1 dl.out (by rw [az,bj,bk,HN.out]);rw [<-am] at hg;obtain ⟨g0,bl⟩:∃ g0,g0=aH / top:=⟨_,rfl⟩;rw [<-bl] at hg;have eg0:(aH:Int) / (top:Int)=(g0:Int):=by rw [bl];simp
      have bH:aH<18446744073709551616:=by omega
      have du:g0<18446744073709551616:=Nat.lt_of_le_of_lt (by rw [bl];exact Nat.div_le_self _ _) bH;obtain ⟨g1,cD⟩:∃ g1,g1=min g0 4294967295:=⟨_,rfl⟩;rw [<-cD] at hg;have eg1:min (g0:Int) 4294967295=(g1:Int):=by omega
      have aW:g1<4294967296:=by omega
      have dv:=af hg;have cE:((top:Int) == 0)=false:=by simp;omega
      have W1:=af (jT _ _ n w8 H8.out);have W2:=af (jT _ _ m w8 H8.out);have W3:=af (jT _ _ m w8 (aR.out.2.kept bG.out));rw [<-bj] at W1;rw [<-bk] at W2;rw [<-am] at W3;clear bj bk am az hg bl cD aF aG ct;go_wp2_with fail;refine W1.out.mono ?_;rintro e w9 ⟨rfl,rfl⟩;go_wp2_with fail;refine W2.out.mono ?_;rintro e w9 ⟨rfl,rfl⟩;go_wp2_with fail;refine W3.out.mono ?_;rintro e w9 ⟨rfl,rfl⟩;go_wp2_with fail;refine (jt _ _ (nw N) [g1] _ ((aR.out.2.kept bG.out).kept ((gO.refl _).alloc _)) (re _ g1 aW) (by rw [aD.out.1];omega) (by simp)).mono ?_;rintro e w10 ⟨⟨v10,rfl,aA⟩,aB⟩;rw [gW,show nv [g1]=g1 by simp [nv]] at aA;have dw:=af aA;have bI:=af ((bG.out.alloc _).trans aB);have H8':=af ((H8.out.kept ((gO.refl _).alloc _)).kept aB);clear aA aB eor eg0 eg1;go_wp2_with fail;go_loopg [12,13] g1 (fun kx s12 s13 wq=>∃ g:Nat,s12=.int .u64 g/\g<=kx/\g<4294967296/\Hid (WdsAt wq s13 (nw (N*g)))/\Hid (X / N<=g)/\Hid (gO wr wq)/\Hid (WdsAt wq v8 (nw X)))
      case atStart=>exact ⟨g1,rfl,Nat.le_refl _,aW,dw,dv,bI,H8'⟩
      case round =>
       obtain ⟨g2,rfl,dQ,bJ,bo,cF,bp,bq⟩:=hrel;have br:0<N:=Nat.lt_of_le_of_lt (Nat.zero_le _) HI.out.2;obtain ⟨cm,aX⟩:∃ cm,cm=kv (N*g2) X:=⟨_,rfl⟩;by_cases aI:N*g2<=X
       ·have hc:¬ 0<cm:=by have:=(Aj (N*g2) X).2 aI;omega
        obtain ⟨cG,cH⟩:=Gp br cF.out aI;have dx:=af cG;have dy:=af cH;have bK:=af aX;have dz:=af aI;clear aX aI cG cH;go_wp2_with fail;refine (mA _ _ _ _ _ bo.out bq.out).mono ?_;rintro e w11 ⟨rfl,rfl⟩;rw [gW,gW,<-bK.out];go_wp2_with fail;refine (ut _ _ _ _ _ bq.out bo.out (by rw [gW,gW];exact dz.out)).mono ?_;rintro e w12 ⟨⟨v12,rfl,ah⟩,aj⟩;rw [gW,gW,dy.out] at ah;have cI:g<w11.heap.size:=(HQ.out.kept bp.out).lt;have cJ:=af ah;have ar:=af (bp.out.trans aj);have bL:=af (HQ.out.kept ar.out);have bM:i<Q.length:=by rw [ay.out.1];exact aU
        have f:=bL.out.free i;have dR:=iT bL.out i bM;have e5:IntKind.u32.wrap (g2:Int)=(g2:Int):=by rw [IntKind.wrap_u32];omega
        have bN:=af ((ah.older cI ((iq.refl g w12).store i (.int .u32 (g2:Int)))).at);have dA:Hid (nv (A2.drop i)=N*nv ((Q.set i g2).drop i)+nv (nw (X % N))/\nv (nw (X % N))<N):=af ⟨by rw [gW];exact Gr HI.out.1 aV bM (by rw [dj.out,HY.out]) dx.out,by rw [gW];exact Nat.mod_lt _ br⟩;have dB:Hid ((nw (X % N)).length<=549755813888):=af (Nat.le_trans (jk (Nat.le_of_lt (Nat.mod_lt X br))) (by rw [aD.out.1];omega));clear ah aj bM cI;go_wp2_with fail;go_roundg i
        case measure=>omega
        case rel=>exact ⟨i,(i:Int) - 1,Q.set i g2,nw (X % N),by first | rfl | go_num,.inl rfl,by omega,by omega,Nat.le_refl _,af (iR bL.out i g2),af ⟨by rw [List.length_set];exact ay.out.1,ay.out.2.set i g2 bJ⟩,af ⟨bN.out,dB.out⟩,dA,af ((aq.out.trans ar.out).store HG.out.1 _ _)⟩
       ·have aY:X<N*g2:=by omega
        have hc:0<cm:=by
         have h9:=Aj (N*g2) X;rw [<-aX] at h9;have h8:¬ cm<=0:=fun h=>aI (h9.1 h)
         omega
        obtain ⟨g',rfl,aZ,a_,bd⟩:=Gq br cF.out aY;have eg:((g'+1:Nat):Int) - 1=(g':Int):=by omega
        have bO:=af aZ;have bP:=af a_;have bQ:=af bd;have bK:=af aX;have dC:=af (aR.out.2.kept bp.out);clear aX aI aY aZ a_ bd;go_wp2_with fail;refine (mA _ _ _ _ _ bo.out bq.out).mono ?_;rintro e w11 ⟨rfl,rfl⟩;rw [gW,gW,<-bK.out];go_wp2_with fail;refine (qj _ _ _ _ _ bo.out dC.out (by rw [gW,gW];exact bQ.out)).mono ?_;rintro e w12 ⟨⟨v12,rfl,ah⟩,aj⟩;rw [gW,gW,bP.out] at ah;have cJ:=af ah;have ar:=af (bp.out.trans aj);have bR:=af (bq.out.kept aj);clear ah aj;go_wp2_with fail;go_roundg g'
        case measure=>omega
        case rel=>exact ⟨g',by first | rfl | go_num,Nat.le_refl _,by omega,cJ,bO,ar,bR⟩
theorem zB (v:Value) (xs:List Nat) (w:World) (hv:WdsAt w v xs):Calls Tryz.prog 227 #[v] w fun e w'=>(∃ v',e=.returned v'/\WdsAt w' v' (nw (nv xs)))/\gO w w' :=
 (kJ v xs w hv).mono fun _ _ ⟨⟨v',h1,h2⟩,h3⟩=>⟨⟨v',h1,h2.at⟩,h3⟩
theorem uk (va vb:Value) (xs ys:List Nat) (w:World) (ha:WdsAt w va xs) (hb:WdsAt w vb ys) (aw:xs.length<=137438953472) (ay:ys.length<=137438953472) (az:nv xs≠0) :
  Calls Tryz.prog 181 #[va,vb] w fun e w'=>(∃ v,e=.returned v/\WdsAt w' v (nw (Nat.gcd (nv xs) (nv ys))))/\gO w w':=by
 have aF:=af (fun W (hk:gO w W)=>zB va xs W (ha.kept hk));have aG:=af (fun W (hk:gO w W)=>zB vb ys W (hb.kept hk));obtain ⟨a0,c0,rfl⟩:=ha.shape;obtain ⟨a1,c1,rfl⟩:=hb.shape;have aH:Hid ((nw (nv xs)).length<=137438953472):=af (Nat.le_trans (jY ha.wd) aw);have aI:Hid ((nw (nv ys)).length<=137438953472):=af (Nat.le_trans (jY hb.wd) ay);generalize nv xs=A at *;generalize nv ys=B at *;generalize xs.length=n0 at *;generalize ys.length=n1 at *;have aJ:=af az;clear ha hb aw ay az;go_enter Tryz.func181,Tryz.ntmps181;go_wp2_with fail;refine (aF.out _ (gO.refl _)).mono ?_;rintro e w1 ⟨⟨v1,rfl,aA⟩,aj⟩;go_wp2_with fail;refine (aG.out _ aj).mono ?_;rintro e w2 ⟨⟨v2,rfl,aB⟩,al⟩;have H1:=af (aA.kept al);have H2:=af aB;have aK:=af (aj.trans al);clear aA aB aj al;go_wp2_with fail;go_loopg [0,1] B (fun kx s0 s1 wr=>∃ (m n:Nat),Hid (WdsAt wr s0 (nw m))/\Hid (WdsAt wr s1 (nw n))/\n<=kx/\Hid (Nat.gcd m n=Nat.gcd A B/\m≠0)/\Hid ((nw m).length<=137438953472/\(nw n).length<=137438953472)/\Hid (gO w wr))
 case atStart=>exact ⟨A,B,H1,H2,Nat.le_refl _,af ⟨rfl,aJ.out⟩,af ⟨aH.out,aI.out⟩,aK⟩
 case round =>
  obtain ⟨m,n,ah,ai,aQ,HG,HL,HK⟩:=hrel;obtain ⟨a2,c2,rfl⟩:=ah.out.shape;obtain ⟨a3,c3,rfl⟩:=ai.out.shape;by_cases hn:n=0
  ·have HR:Hid (nw m=nw (Nat.gcd A B)):=af (by rw [<-HG.out.1,hn,Nat.gcd_zero_right]);have hl:(nw n).length=0:=by rw [hn,jE];rfl
   rw [hl];clear hl hn;generalize ag:(nw m).length=lm at *;have aC:=af ag;clear ag;go_wp2;go_ret;exact ⟨⟨_,rfl,by rw [<-HR.out,<-aC.out] ;first | exact ah.out | (rw [aC.out];exact ah.out)⟩,HK.out⟩
  ·have hl:(nw n).length≠0:=fun h=>hn (kl.1 (List.eq_nil_of_length_eq_zero h))
   have aD:=af (qi _ _ _ _ _ ah.out ai.out HL.out.1 HL.out.2 (by rw [gW];exact HG.out.2) (by rw [gW];exact hn));obtain ⟨r,hr⟩:∃ r,r=m % n:=⟨_,rfl⟩;have aL:r<n:=by rw [hr];exact Nat.mod_lt _ (by omega)
   have HN:Hid (Nat.gcd n r=Nat.gcd A B/\n≠0):=af ⟨by rw [<-HG.out.1,hr,Nat.gcd_comm n,<-Nat.gcd_rec,Nat.gcd_comm],hn⟩;have aM:Hid ((nw n).length<=137438953472/\(nw r).length<=137438953472):=af ⟨HL.out.2,Nat.le_trans (iw.2 (Nat.lt_trans aL (iw.1 (Nat.le_refl _)))) HL.out.2⟩;have HR:=af hr;obtain ⟨ln,am⟩:∃ ln,ln=(nw n).length:=⟨_,rfl⟩;have aR:(0:Int)<(ln:Int):=by omega
   have aN:0<ln:=by omega
   obtain ⟨lm,ag⟩:∃ lm,lm=(nw m).length:=⟨_,rfl⟩;rw [<-am,<-ag] at aD⊢;rw [<-am] at ai;clear hl hr hn am ag;go_wp2_with fail;refine aD.out.mono ?_;rintro e w3 ⟨⟨v3,v4,rfl,aO,ap⟩,aq⟩;rw [gW,gW,<-HR.out] at ap;have H4:=af ap;have ar:=af (ai.out.kept aq);have aP:=af (HK.out.trans aq);clear aO ap aq;go_wp2_with fail;go_roundg r
   case measure=>omega
   case rel=>exact ⟨n,r,ar,H4,Nat.le_refl _,HN,aM,aP⟩
theorem GF (q:Rat):0<=kr q ↔ 0<=q:=by
 unfold kr;by_cases h0:q=0
 ·subst h0;simp
 ·rw [if_neg h0];by_cases h1:q<0
  ·rw [if_pos h1];constructor
   ·intro h;omega
   ·intro h;exact absurd h1 (Rat.not_lt.2 h)
  ·rw [if_neg h1];exact ⟨fun _=>Rat.not_lt.1 h1,fun _=>by omega⟩
theorem Bv (q:Rat):kr q<=0 ↔ q<=0:=by
 unfold kr;by_cases h0:q=0
 ·subst h0;simp
 ·rw [if_neg h0];by_cases h1:q<0
  ·rw [if_pos h1];exact ⟨fun _=>Rat.le_of_lt h1,fun _=>by omega⟩
  ·rw [if_neg h1];constructor
   ·intro h;omega
   ·intro h;exact absurd (Rat.le_antisymm h (Rat.not_lt.1 h1)) h0
theorem IP {a:Int} {d:Nat} (hd:d≠0):0<=mkRat a d ↔ 0<=a:=by
 have h:(0:Int)<(d:Int):=by omega
 rw [<-Rat.divInt_ofNat];exact Rat.divInt_nonneg_iff_of_pos_right h
theorem IQ {a:Int} {d:Nat} (hd:d≠0):mkRat a d<=0 ↔ a<=0:=by
 have h1:mkRat a d<=0 ↔ 0<=mkRat (-a) d:=by
  rw [<-Rat.neg_mkRat];constructor
  ·intro h;have:=Rat.neg_le_neg h;simpa using this
  ·intro h;have:=Rat.neg_le_neg h;simpa using this
 rw [h1,IP hd];omega
theorem FA {a:Int} {d:Nat} (hd:d≠0):mkRat a d - 1=mkRat (a - d) d:=by
 have h1:(1:Rat)=mkRat d d:=by
  rw [<-Rat.divInt_ofNat];exact (Rat.divInt_self' (by omega)).symm
 rw [h1,Rat.sub_eq_add_neg,Rat.neg_mkRat,Rat.mkRat_add_mkRat _ _ hd hd,<-Int.add_mul,Rat.mkRat_mul_right (by omega)];rfl
theorem tU {r:Rw} (hw:r.Ok):lD r=(iW r&&(decide (0<=kr (gT r))&&decide (kr (gT r - ((1:Int):Rat))<=0))):=by
 have e1:(((1:Int):Rat))=1:=rfl;rw [e1];cases hv:iW r with
 | false=>unfold lD;rw [hv];rfl
 | true =>
  unfold lD;rw [hv,Bool.true_and,Bool.true_and];have ag:=ij hw;by_cases hn:r.num=[]
  ·have hz:gT r=0:=by
    unfold gT gP;rw [if_neg (fun h=>h.2 hn)];simp [sY,nv,Rat.zero_mkRat]
   have h2:r.neg=false:=by
    unfold iW at hv;by_cases hd:r.den=[]
    ·rw [if_pos ⟨hn,hd⟩] at hv;simpa using hv
    ·rw [if_neg (fun h=>hd h.2),hn] at hv;simp [js] at hv
   rw [hz,h2,hn];have a1:kr 0=0:=rfl
   have a2:kr (0 - 1)<=0:=by
    have h1:mkRat 0 1 - 1=mkRat (0 - (1:Nat)) 1:=FA (by omega);rw [Rat.zero_mkRat] at h1;rw [h1];exact (Bv _).2 ((IQ (by omega)).2 (by omega))
   rw [a1,jR];simp [a2]
  ·have hp:gP r=(r.neg,r.num,r.den):=by unfold gP;rw [if_pos ⟨hv,hn⟩]
   rw [hp] at ag;simp only at ag
   have ah:nv r.num≠0:=by
    intro h;have:=Cs ag.1 ag.2.2.2.1;rw [h,jE] at this;exact hn this.symm
   have hr:gT r=mkRat (sg r.neg (nv r.num)) (nv r.den):=by unfold gT;rw [hp]
   have d1:decide (0<=kr (gT r))=!r.neg:=by
    have h:0<=kr (gT r) ↔ r.neg=false:=by
     rw [hr];refine (GF _).trans ((IP ag.2.2.1).trans ?_);unfold sg;split
     ·rename_i h1;rw [h1];simp;omega
     ·rename_i h1
      have:r.neg=false:=by simpa using h1
      simp [this]
    rw [Bool.eq_iff_iff,decide_eq_true_iff,h];simp
   rw [d1];cases hg:r.neg with
   | true=>rfl
   | false =>
    simp only [Bool.not_false,Bool.true_and];refine decide_eq_decide.2 ?_;rw [hr,FA ag.2.2.1];refine Iff.symm ((Bv _).trans ((IQ ag.2.2.1).trans ?_));unfold sg;rw [hg,if_neg (by simp)];omega
theorem tS {xs:List Nat} {m:Nat} (h:xs.length=m+1):js xs=!(((xs.getD m 0:Nat):Int) == 0):=by
 unfold js;rw [h,Nat.add_sub_cancel];by_cases h2:xs.getD m 0=0
 ·rw [h2];simp
 ·have:(((xs.getD m 0:Nat):Int) == 0)=false:=by simp only [beq_eq_false_iff_ne,ne_eq];omega
  rw [this];simp only [bne,beq_eq_false_iff_ne.2 h2];simp
theorem qZ (v:Value) (r:Rw) (w:World) (hv:RatAt w v r) (hs:r.Short 137438953472):Calls Tryz.prog 120 #[v] w fun e w'=>e=.returned (.bool (iW r))/\gO w w':=by
 obtain ⟨neg,num,den⟩:=r;obtain ⟨u1,u2,rfl,h1,h2⟩:=hv;obtain ⟨aj,al⟩:=hs;simp only at h1 h2 aj al;obtain ⟨a1,c1,rfl⟩:=h1.shape;obtain ⟨a2,c2,rfl⟩:=h2.shape;obtain ⟨n1,ag⟩:∃ n1,n1=num.length:=⟨_,rfl⟩;obtain ⟨n2,ai⟩:∃ n2,n2=den.length:=⟨_,rfl⟩;have aN:n1<=137438953472:=by omega
 have aO:n2<=137438953472:=by omega
 rw [<-ag] at h1⊢;rw [<-ai] at h2⊢;have ah:Hid (gO w (w.alloc (.cells #[.bool neg,.slice a1 n1 c1,.slice a2 n2 c2] 29))):=af ((gO.refl w).alloc _);have e1n:n1=0->num=[]:=fun h=>List.eq_nil_of_length_eq_zero (ag.symm.trans h)
 have e2n:n2=0->den=[]:=fun h=>List.eq_nil_of_length_eq_zero (ai.symm.trans h)
 by_cases e1:n1=0
 ·by_cases e2:n2=0
  ·have hV:iW ⟨neg,num,den⟩=!neg:=by unfold iW;rw [if_pos ⟨e1n e1,e2n e2⟩]
   rw [hV];subst e1 e2;clear h1 h2 ag ai hV e1n e2n;go_enter Tryz.func120,Tryz.ntmps120;go_wp2_with fail;go_quiet (fail);go_wp2;go_ret;exact ⟨rfl,ah.out.drewN _⟩
  ·have hV:iW ⟨neg,num,den⟩=false:=by
    unfold iW;rw [if_neg (fun h=>e2 (ai.trans (congrArg List.length h.2))),e1n e1];simp [js]
   rw [hV];have aF:((n2:Int) == 0)=false:=by simp;exact e2
   subst e1;clear h1 h2 ag ai hV e1n e2n e2;go_enter Tryz.func120,Tryz.ntmps120;go_wp2_with fail;go_quiet (fail);go_wp2;go_ret;exact ⟨rfl,ah.out.drewN _⟩
 ·by_cases e2:n2=0
  ·have hV:iW ⟨neg,num,den⟩=false:=by
    unfold iW;rw [if_neg (fun h=>e1 (ag.trans (congrArg List.length h.1))),e2n e2];simp [js]
   rw [hV];have aG:((n1:Int) == 0)=false:=by simp;exact e1
   subst e2;clear h1 h2 ag ai hV e1n e2n e1;go_enter Tryz.func120,Tryz.ntmps120;go_wp2_with fail;go_quiet (fail);go_wp2;go_ret;exact ⟨rfl,ah.out.drewN _⟩
  ·have hV:iW ⟨neg,num,den⟩=(js num&&js den&&(Nat.gcd (nv num) (nv den) == 1)):=by unfold iW;rw [if_neg (fun h=>e1 (ag.trans (congrArg List.length h.1)))]
   rw [hV];have aG:((n1:Int) == 0)=false:=by simp;exact e1
   have aF:((n2:Int) == 0)=false:=by simp;exact e2
   obtain ⟨m1,ar⟩:∃ m1,n1=m1+1:=⟨n1 - 1,by omega⟩;obtain ⟨m2,aw⟩:∃ m2,n2=m2+1:=⟨n2 - 1,by omega⟩;have am:=tS (ag.symm.trans ar);have ap:=tS (ai.symm.trans aw);have aH:Hid (js num=true->∀ W,gO w W->Calls Tryz.prog 181 #[.slice a1 n1 c1,.slice a2 n2 c2] W fun e w'=>(∃ v,e=.returned v/\WdsAt w' v (nw (Nat.gcd (nv num) (nv den))))/\gO W w'):=af (fun aI W hk=>uk _ _ num den W (h1.kept hk) (h2.kept hk) aj al (tN h1.wd aI));obtain ⟨b1,o1,rfl,hc1⟩:=h1.get m1 (by omega);obtain ⟨b2,o2,rfl,hc2⟩:=h2.get m2 (by omega);obtain ⟨x1,ay⟩:∃ x1,x1=num.getD m1 0:=⟨_,rfl⟩;obtain ⟨x2,az⟩:∃ x2,x2=den.getD m2 0:=⟨_,rfl⟩;rw [<-ay] at hc1 am;rw [<-az] at hc2 ap;have d1:=fun k=>(ah.out.drewN k).cell hc1
   have d2:=fun k=>(ah.out.drewN k).cell hc2
   have t1:(n1:Int) - 1=(m1:Int):=by omega
   have t2:(n2:Int) - 1=(m2:Int):=by omega
   have q1:(m1:Int)<(n1:Int):=by omega
   have q2:(m2:Int)<(n2:Int):=by omega
   have q1':m1<n1:=by omega
   have q2':m2<n2:=by omega
   generalize js num=p1 at *;generalize js den=p2 at *;generalize Nat.gcd (nv num) (nv den)=g at *;obtain ⟨bg,aq⟩:∃ bg,(g == 1)=bg:=⟨_,rfl⟩
   have aJ:Hid (∀ W v1,WdsAt W v1 (nw g)->Calls Tryz.prog 180 #[v1] W fun e w'=>(∃ k:Nat,e=.returned (.int .i64 k)/\((k:Int) == 1)=bg)/\w'=W):=af fun W v1 k1 =>
    (oO v1 _ W k1).mono fun _ _ ⟨⟨k,h3,h4⟩,h5⟩=>⟨⟨k,h3,by
     rw [gW] at h4;rw [<-aq];have:=h4.iff1;by_cases hg:g=1
     ·rw [this.2 hg,hg];rfl
     ·have hk:k≠1:=fun e=>hg (this.1 e)
      rw [show (g == 1)=false by simp;exact hg];simp only [beq_eq_false_iff_ne,ne_eq];omega⟩,h5⟩
   rw [aq];obtain ⟨z1,aA⟩:∃ z1,((x1:Int) == 0)=z1:=⟨_,rfl⟩;obtain ⟨z2,aB⟩:∃ z2,((x2:Int) == 0)=z2:=⟨_,rfl⟩;have y1:((x1:Int) != 0)=!z1:=by simp only [bne,aA]
   have y2:((x2:Int) != 0)=!z2:=by simp only [bne,aB]
   rw [aA] at am;rw [aB] at ap;subst am ap;clear h1 h2 ag ai hV e1n e2n e1 e2 ay az aq ar aw aj al;cases z1 with
   | true =>
    simp only [Bool.not_true] at y1⊢;go_enter Tryz.func120,Tryz.ntmps120;go_wp2_with fail;go_quiet (fail);go_wp2;go_ret;exact ⟨by simp,ah.out.drewN _⟩
   | false =>
    have aK:=af (aH.out rfl);simp only [Bool.not_false] at y1⊢;cases z2 with
    | true =>
     simp only [Bool.not_true] at y2⊢;go_enter Tryz.func120,Tryz.ntmps120;go_wp2_with fail;go_quiet (fail);go_wp2;go_ret;exact ⟨by simp,ah.out.drewN _⟩
    | false =>
     simp only [Bool.not_false] at y2⊢;go_enter Tryz.func120,Tryz.ntmps120;go_wp2_with fail;go_quiet (fail)
     go_wp2_with (first
      | (go_at_call 181;(with_reducible refine (aK.out _ (ah.out.drewN _)).mono ?_);rintro e w2 ⟨⟨vg,rfl,aC⟩,aD⟩;have aL:=af aC;have aM:=af ((ah.out.drewN _).trans aD);clear aC aD)
      | (go_at_call 180;(with_reducible refine (aJ.out _ _ aL.out).mono ?_);rintro e w4 ⟨⟨kb,rfl,aP⟩,rfl⟩))
     go_ret;exact ⟨by simp,aM.out⟩
end Go.Proofs.YtofibjflkebkpaaGreatDoor
