import Derived.Test.YtofibjflkebkpaaGreatDoorEQ8
set_option maxRecDepth 100000
set_option maxHeartbeats 16000000
namespace Go.Proofs.YtofibjflkebkpaaGreatDoor
open Go.RowKit
theorem q_ (a b:Rat):kr (a - b)<=0 ↔ a<=b:=by
 rw [Bv];grind
theorem CD (a b:Rat):0<=kr (a - b) ↔ b<=a:=by
 rw [GF];grind
theorem Be (r:Rw):mkRat (sg (gP r).1 (nv (gP r).2.1)) (nv (gP r).2.2)=gT r:=rfl
theorem ph (v:Value) (r:Rw) (w:World) (hv:RatAt w v r) (hs:r.Short 274877906944):Calls Tryz.prog 105 #[v] w fun e w'=>(∃ v',e=.returned v'/\RatAt w' v' (gR (gT r)))/\gO w w':=by
 have ay:=af (fun W (hk:gO w W)=>ju v r W (hv.kept hk) hs);have aj:=ij hv.ok;have al:=il hs (by omega);obtain ⟨R,hR⟩:∃ R,R=gR (gT r):=⟨_,rfl⟩
 have az:Hid (∀ W u1 u2,WdsAt W u1 (gP r).2.1->WdsAt W u2 (gP r).2.2->Calls Tryz.prog 141 #[.bool (gP r).1,u1,u2] W fun e w'=>(∃ v,e=.returned v/\RatAt w' v R)/\gO W w'):=af fun W u1 u2 k1 k2=>by
  have h:=lf (gP r).1 u1 u2 _ _ W k1 k2 al.1 al.2 aj.2.2.1;rw [jA _ _ _ aj.2.2.1,Be,<-hR] at h;exact h
 rw [<-hR];obtain ⟨u1,u2,rfl,h1,h2⟩:=hv;obtain ⟨a1,c1,rfl⟩:=h1.shape;obtain ⟨a2,c2,rfl⟩:=h2.shape;obtain ⟨w2,am⟩:∃ w2,w2=(w.alloc (.cells #[.bool r.neg,.slice a1 r.num.length c1,.slice a2 r.den.length c2] 29)).alloc (.cells #[.bool false,.slice none 0 0,.slice none 0 0] 29):=⟨_,rfl⟩;have HM:=af (ux w (.cells #[.bool r.neg,.slice a1 r.num.length c1,.slice a2 r.den.length c2] 29));rw [<-am] at HM;have aA:=af am;generalize (gP r).1=s at *;generalize (gP r).2.1=N at *;generalize (gP r).2.2=D at *;generalize r.num.length=n1 at *;generalize r.den.length=n2 at *;generalize r.neg=neg at *;clear aj al hR h1 h2 hs am;go_enter Tryz.func105,Tryz.ntmps105;go_wp2_with fail;rw [<-aA.out];refine (ay.out _ HM.out.2.2).mono ?_;rintro e w3 ⟨⟨u3,u4,rfl,ap,aq⟩,ah⟩;have H3:=af ap;have H4:=af aq;have aB:=af (HM.out.1.kept ah);have aC:=af (HM.out.2.1.kept ah);have aD:=af (HM.out.2.2.trans ah);clear ap aq ah;go_wp2_with fail;refine (az.out _ _ _ H3.out H4.out).mono ?_;rintro e w4 ⟨⟨v4,rfl,ar⟩,ai⟩;have aI:=af ar;have ag:=aB.out.kept ai;have aJ:=af ag;have aF:=af (aC.out.kept ai);have aG:=af (aD.out.trans ai);obtain ⟨u5,u6,rfl,k5,k6⟩:=ar;obtain ⟨a5,c5,rfl⟩:=k5.shape;obtain ⟨a6,c6,rfl⟩:=k6.shape;obtain ⟨y0,y1,y2,aw⟩:=iC ag aF.out k5 k6;have g0:=ag.cell (i:=0) (by simp)
 have g1:=ag.cell (i:=1) (by simp);have g2:=ag.cell (i:=2) (by simp);have f0:=ag.free 0;have f1:=ag.free 1;have f2:=ag.free 2;have aH:=af aw;have Y0:=af y0;have Y1:=af y1;have Y2:=af y2;clear aw y0 y1 y2 k5 k6 ag ai;generalize R.num.length=n5 at *;generalize R.den.length=n6 at *;go_wp2;refine bodyPost_ret (v:=.agg #[.bool R.neg,.slice a5 n5 c5,.slice a6 n6 c6]) ?_ rfl ⟨⟨_,rfl,aH.out⟩,?_⟩
 ·simp [results,Tryz.results105,go_sem,Y0.out,Y1.out,Y2.out]
 ·exact ((aG.out.store (by omega) _ _).store (by omega) _ _).store (by omega) _ _
theorem zv (va vb:Value) (r s:Rw) (w:World) (ha:RatAt w va r) (hb:RatAt w vb s) (hr:r.Short 68719476736) (hs:s.Short 68719476736):Calls Tryz.prog 59 #[va,vb] w fun e w'=>(∃ v',e=.returned v'/\RatAt w' v' (gR (mI (gT r) (gT s))))/\gO w w':=by
 have aq:=af (fun W (hk:gO w W)=>ud va vb r s W (ha.kept hk) (hb.kept hk) hr hs);have aJ:=af (fun W (hk:gO w W)=>ph va r W (ha.kept hk) ⟨Nat.le_trans hr.1 (by omega),Nat.le_trans hr.2 (by omega)⟩);have aK:=af (fun W (hk:gO w W)=>ph vb s W (hb.kept hk) ⟨Nat.le_trans hs.1 (by omega),Nat.le_trans hs.2 (by omega)⟩);obtain ⟨R,hR⟩:∃ R,R=gR (mI (gT r) (gT s)):=⟨_,rfl⟩;rw [<-hR];have aG:=af hR;obtain ⟨S,hS⟩:∃ S,S=kr (gT r - gT s):=⟨_,rfl⟩;rw [<-hS] at aq;have aH:=af hS;obtain ⟨u1,u2,rfl,h1,h2⟩:=ha;obtain ⟨u3,u4,rfl,h3,h4⟩:=hb;obtain ⟨a1,c1,rfl⟩:=h1.shape;obtain ⟨a2,c2,rfl⟩:=h2.shape;obtain ⟨a3,c3,rfl⟩:=h3.shape;obtain ⟨a4,c4,rfl⟩:=h4.shape;generalize r.num.length=n1 at *;generalize r.den.length=n2 at *;generalize s.num.length=n3 at *;generalize s.den.length=n4 at *;generalize r.neg=neg1 at *;generalize s.neg=neg2 at *;obtain ⟨w2,al⟩:∃ w2,w2=((w.alloc (.cells #[.bool neg1,.slice a1 n1 c1,.slice a2 n2 c2] 29)).alloc (.cells #[.bool neg2,.slice a3 n3 c3,.slice a4 n4 c4] 29)).alloc (.cells #[.bool false,.slice none 0 0,.slice none 0 0] 29):=⟨_,rfl⟩;have HM:=af (jq w (.cells #[.bool neg1,.slice a1 n1 c1,.slice a2 n2 c2] 29) (.cells #[.bool neg2,.slice a3 n3 c3,.slice a4 n4 c4] 29));rw [<-al] at HM;have ha2:=gS.made w #[.bool neg1,.slice a1 n1 c1,.slice a2 n2 c2] 29;have ar:Hid (gS w2 w.heap.size 29 [.bool neg1,.slice a1 n1 c1,.slice a2 n2 c2]):=af (by rw [al];exact ha2.kept (((gO.refl _).alloc _).alloc _))
 have aw:=gS.made (w.alloc (.cells #[.bool neg1,.slice a1 n1 c1,.slice a2 n2 c2] 29)) #[.bool neg2,.slice a3 n3 c3,.slice a4 n4 c4] 29;simp only [World.size_alloc] at aw;have ay:Hid (gS w2 (w.heap.size+1) 29 [.bool neg2,.slice a3 n3 c3,.slice a4 n4 c4]):=af (by rw [al];exact aw.kept ((gO.refl _).alloc _));have aI:=af al;have p0:=ar.out.cell (i:=0) (by simp);have p1:=ar.out.cell (i:=1) (by simp);have p2:=ar.out.cell (i:=2) (by simp);have g0:=ay.out.cell (i:=0) (by simp);have g1:=ay.out.cell (i:=1) (by simp);have g2:=ay.out.cell (i:=2) (by simp);simp only [List.getElem_cons_succ,List.getElem_cons_zero] at p0 p1 p2 g0 g1 g2;clear hR hS h1 h2 h3 h4 hr hs al ha2 aw;by_cases hc:S<=0
 ·have HE:Hid (R=gR (gT r)):=af (by rw [aG.out,mI,if_pos ((q_ _ _).1 (by rw [<-aH.out];exact hc))]);have aj:Hid (∀ W,gO w W->Calls Tryz.prog 105 #[.agg #[.bool neg1,.slice a1 n1 c1,.slice a2 n2 c2]] W fun e w'=>(∃ v',e=.returned v'/\RatAt w' v' R)/\gO W w'):=af (by rw [HE.out];exact aJ.out);have dc:decide (S<=0)=true:=by simp;omega
  go_enter Tryz.func59,Tryz.ntmps59;go_wp2_with fail;rw [<-aI.out];refine (aq.out _ HM.out.2.2).mono ?_;rintro e w3 ⟨rfl,ah⟩;have x0:=ah.cell p0;have x1:=ah.cell p1;have x2:=ah.cell p2;have az:=af (HM.out.1.kept ah);have aA:=af (HM.out.2.1.kept ah);have am:=af (HM.out.2.2.trans ah);clear ah;go_wp2_with fail;refine (aj.out _ am.out).mono ?_;rintro e w4 ⟨⟨v4,rfl,aB⟩,ai⟩;have ag:=az.out.kept ai;have aC:=af (aA.out.kept ai);have aD:=af (am.out.trans ai);obtain ⟨u5,u6,rfl,k5,k6⟩:=aB;obtain ⟨a5,c5,rfl⟩:=k5.shape;obtain ⟨a6,c6,rfl⟩:=k6.shape;obtain ⟨y0,y1,y2,ap⟩:=iC ag aC.out k5 k6;have g0:=ag.cell (i:=0) (by simp);have g1:=ag.cell (i:=1) (by simp);have g2:=ag.cell (i:=2) (by simp);have f0:=ag.free 0;have f1:=ag.free 1;have f2:=ag.free 2;have aF:=af ap;have Y0:=af y0;have Y1:=af y1;have Y2:=af y2;clear ap y0 y1 y2 k5 k6 ag ai;generalize R.num.length=n5 at *;generalize R.den.length=n6 at *;go_wp2;refine bodyPost_ret (v:=.agg #[.bool R.neg,.slice a5 n5 c5,.slice a6 n6 c6]) ?_ rfl ⟨⟨_,rfl,aF.out⟩,?_⟩
  ·simp [results,Tryz.results59,go_sem,Y0.out,Y1.out,Y2.out]
  ·exact ((aD.out.store (by omega) _ _).store (by omega) _ _).store (by omega) _ _
 ·have HE:Hid (R=gR (gT s)):=af (by rw [aG.out,mI,if_neg (fun h=>hc (by have:=(q_ _ _).2 h;rw [<-aH.out] at this;exact this))]);have aj:Hid (∀ W,gO w W->Calls Tryz.prog 105 #[.agg #[.bool neg2,.slice a3 n3 c3,.slice a4 n4 c4]] W fun e w'=>(∃ v',e=.returned v'/\RatAt w' v' R)/\gO W w'):=af (by rw [HE.out];exact aK.out);have dc:decide (S<=0)=false:=by simp;omega
  go_enter Tryz.func59,Tryz.ntmps59;go_wp2_with fail;rw [<-aI.out];refine (aq.out _ HM.out.2.2).mono ?_;rintro e w3 ⟨rfl,ah⟩;have x0:=ah.cell g0;have x1:=ah.cell g1;have x2:=ah.cell g2;have az:=af (HM.out.1.kept ah);have aA:=af (HM.out.2.1.kept ah);have am:=af (HM.out.2.2.trans ah);clear ah;go_wp2_with fail;refine (aj.out _ am.out).mono ?_;rintro e w4 ⟨⟨v4,rfl,aB⟩,ai⟩;have ag:=az.out.kept ai;have aC:=af (aA.out.kept ai);have aD:=af (am.out.trans ai);obtain ⟨u5,u6,rfl,k5,k6⟩:=aB;obtain ⟨a5,c5,rfl⟩:=k5.shape;obtain ⟨a6,c6,rfl⟩:=k6.shape;obtain ⟨y0,y1,y2,ap⟩:=iC ag aC.out k5 k6;have g0:=ag.cell (i:=0) (by simp);have g1:=ag.cell (i:=1) (by simp);have g2:=ag.cell (i:=2) (by simp);have f0:=ag.free 0;have f1:=ag.free 1;have f2:=ag.free 2;have aF:=af ap;have Y0:=af y0;have Y1:=af y1;have Y2:=af y2;clear ap y0 y1 y2 k5 k6 ag ai;generalize R.num.length=n5 at *;generalize R.den.length=n6 at *;go_wp2;refine bodyPost_ret (v:=.agg #[.bool R.neg,.slice a5 n5 c5,.slice a6 n6 c6]) ?_ rfl ⟨⟨_,rfl,aF.out⟩,?_⟩
  ·simp [results,Tryz.results59,go_sem,Y0.out,Y1.out,Y2.out]
  ·exact ((aD.out.store (by omega) _ _).store (by omega) _ _).store (by omega) _ _
theorem uA (va vb:Value) (r s:Rw) (w:World) (ha:RatAt w va r) (hb:RatAt w vb s) (hr:r.Short 68719476736) (hs:s.Short 68719476736):Calls Tryz.prog 57 #[va,vb] w fun e w'=>(∃ v',e=.returned v'/\RatAt w' v' (gR (mH (gT r) (gT s))))/\gO w w':=by
 have aq:=af (fun W (hk:gO w W)=>ud va vb r s W (ha.kept hk) (hb.kept hk) hr hs);have aJ:=af (fun W (hk:gO w W)=>ph va r W (ha.kept hk) ⟨Nat.le_trans hr.1 (by omega),Nat.le_trans hr.2 (by omega)⟩);have aK:=af (fun W (hk:gO w W)=>ph vb s W (hb.kept hk) ⟨Nat.le_trans hs.1 (by omega),Nat.le_trans hs.2 (by omega)⟩);obtain ⟨R,hR⟩:∃ R,R=gR (mH (gT r) (gT s)):=⟨_,rfl⟩;rw [<-hR];have aG:=af hR;obtain ⟨S,hS⟩:∃ S,S=kr (gT r - gT s):=⟨_,rfl⟩;rw [<-hS] at aq;have aH:=af hS;obtain ⟨u1,u2,rfl,h1,h2⟩:=ha;obtain ⟨u3,u4,rfl,h3,h4⟩:=hb;obtain ⟨a1,c1,rfl⟩:=h1.shape;obtain ⟨a2,c2,rfl⟩:=h2.shape;obtain ⟨a3,c3,rfl⟩:=h3.shape;obtain ⟨a4,c4,rfl⟩:=h4.shape;generalize r.num.length=n1 at *;generalize r.den.length=n2 at *;generalize s.num.length=n3 at *;generalize s.den.length=n4 at *;generalize r.neg=neg1 at *;generalize s.neg=neg2 at *;obtain ⟨w2,al⟩:∃ w2,w2=((w.alloc (.cells #[.bool neg1,.slice a1 n1 c1,.slice a2 n2 c2] 29)).alloc (.cells #[.bool neg2,.slice a3 n3 c3,.slice a4 n4 c4] 29)).alloc (.cells #[.bool false,.slice none 0 0,.slice none 0 0] 29):=⟨_,rfl⟩;have HM:=af (jq w (.cells #[.bool neg1,.slice a1 n1 c1,.slice a2 n2 c2] 29) (.cells #[.bool neg2,.slice a3 n3 c3,.slice a4 n4 c4] 29));rw [<-al] at HM;have ha2:=gS.made w #[.bool neg1,.slice a1 n1 c1,.slice a2 n2 c2] 29;have ar:Hid (gS w2 w.heap.size 29 [.bool neg1,.slice a1 n1 c1,.slice a2 n2 c2]):=af (by rw [al];exact ha2.kept (((gO.refl _).alloc _).alloc _))
 have aw:=gS.made (w.alloc (.cells #[.bool neg1,.slice a1 n1 c1,.slice a2 n2 c2] 29)) #[.bool neg2,.slice a3 n3 c3,.slice a4 n4 c4] 29;simp only [World.size_alloc] at aw;have ay:Hid (gS w2 (w.heap.size+1) 29 [.bool neg2,.slice a3 n3 c3,.slice a4 n4 c4]):=af (by rw [al];exact aw.kept ((gO.refl _).alloc _));have aI:=af al;have p0:=ar.out.cell (i:=0) (by simp);have p1:=ar.out.cell (i:=1) (by simp);have p2:=ar.out.cell (i:=2) (by simp);have g0:=ay.out.cell (i:=0) (by simp);have g1:=ay.out.cell (i:=1) (by simp);have g2:=ay.out.cell (i:=2) (by simp);simp only [List.getElem_cons_succ,List.getElem_cons_zero] at p0 p1 p2 g0 g1 g2;clear hR hS h1 h2 h3 h4 hr hs al ha2 aw;by_cases hc:0<=S
 ·have HE:Hid (R=gR (gT r)):=af (by rw [aG.out,mH,if_pos ((CD _ _).1 (by rw [<-aH.out];exact hc))]);have aj:Hid (∀ W,gO w W->Calls Tryz.prog 105 #[.agg #[.bool neg1,.slice a1 n1 c1,.slice a2 n2 c2]] W fun e w'=>(∃ v',e=.returned v'/\RatAt w' v' R)/\gO W w'):=af (by rw [HE.out];exact aJ.out);have dc:decide (S ≥ 0)=true:=by simp;omega
  go_enter Tryz.func57,Tryz.ntmps57;go_wp2_with fail;rw [<-aI.out];refine (aq.out _ HM.out.2.2).mono ?_;rintro e w3 ⟨rfl,ah⟩;have x0:=ah.cell p0;have x1:=ah.cell p1;have x2:=ah.cell p2;have az:=af (HM.out.1.kept ah);have aA:=af (HM.out.2.1.kept ah);have am:=af (HM.out.2.2.trans ah);clear ah;go_wp2_with fail;refine (aj.out _ am.out).mono ?_;rintro e w4 ⟨⟨v4,rfl,aB⟩,ai⟩;have ag:=az.out.kept ai;have aC:=af (aA.out.kept ai);have aD:=af (am.out.trans ai);obtain ⟨u5,u6,rfl,k5,k6⟩:=aB;obtain ⟨a5,c5,rfl⟩:=k5.shape;obtain ⟨a6,c6,rfl⟩:=k6.shape;obtain ⟨y0,y1,y2,ap⟩:=iC ag aC.out k5 k6;have g0:=ag.cell (i:=0) (by simp);have g1:=ag.cell (i:=1) (by simp);have g2:=ag.cell (i:=2) (by simp);have f0:=ag.free 0;have f1:=ag.free 1;have f2:=ag.free 2;have aF:=af ap;have Y0:=af y0;have Y1:=af y1;have Y2:=af y2;clear ap y0 y1 y2 k5 k6 ag ai;generalize R.num.length=n5 at *;generalize R.den.length=n6 at *;go_wp2;refine bodyPost_ret (v:=.agg #[.bool R.neg,.slice a5 n5 c5,.slice a6 n6 c6]) ?_ rfl ⟨⟨_,rfl,aF.out⟩,?_⟩
  ·simp [results,Tryz.results57,go_sem,Y0.out,Y1.out,Y2.out]
  ·exact ((aD.out.store (by omega) _ _).store (by omega) _ _).store (by omega) _ _
 ·have HE:Hid (R=gR (gT s)):=af (by rw [aG.out,mH,if_neg (fun h=>hc (by have:=(CD _ _).2 h;rw [<-aH.out] at this;exact this))]);have aj:Hid (∀ W,gO w W->Calls Tryz.prog 105 #[.agg #[.bool neg2,.slice a3 n3 c3,.slice a4 n4 c4]] W fun e w'=>(∃ v',e=.returned v'/\RatAt w' v' R)/\gO W w'):=af (by rw [HE.out];exact aK.out);have dc:decide (S ≥ 0)=false:=by simp;omega
  go_enter Tryz.func57,Tryz.ntmps57;go_wp2_with fail;rw [<-aI.out];refine (aq.out _ HM.out.2.2).mono ?_;rintro e w3 ⟨rfl,ah⟩;have x0:=ah.cell g0;have x1:=ah.cell g1;have x2:=ah.cell g2;have az:=af (HM.out.1.kept ah);have aA:=af (HM.out.2.1.kept ah);have am:=af (HM.out.2.2.trans ah);clear ah;go_wp2_with fail;refine (aj.out _ am.out).mono ?_;rintro e w4 ⟨⟨v4,rfl,aB⟩,ai⟩;have ag:=az.out.kept ai;have aC:=af (aA.out.kept ai);have aD:=af (am.out.trans ai);obtain ⟨u5,u6,rfl,k5,k6⟩:=aB;obtain ⟨a5,c5,rfl⟩:=k5.shape;obtain ⟨a6,c6,rfl⟩:=k6.shape;obtain ⟨y0,y1,y2,ap⟩:=iC ag aC.out k5 k6;have g0:=ag.cell (i:=0) (by simp);have g1:=ag.cell (i:=1) (by simp);have g2:=ag.cell (i:=2) (by simp);have f0:=ag.free 0;have f1:=ag.free 1;have f2:=ag.free 2;have aF:=af ap;have Y0:=af y0;have Y1:=af y1;have Y2:=af y2;clear ap y0 y1 y2 k5 k6 ag ai;generalize R.num.length=n5 at *;generalize R.den.length=n6 at *;go_wp2;refine bodyPost_ret (v:=.agg #[.bool R.neg,.slice a5 n5 c5,.slice a6 n6 c6]) ?_ rfl ⟨⟨_,rfl,aF.out⟩,?_⟩
  ·simp [results,Tryz.results57,go_sem,Y0.out,Y1.out,Y2.out]
  ·exact ((aD.out.store (by omega) _ _).store (by omega) _ _).store (by omega) _ _
theorem ur (va vb:Value) (r s:Rw) (w:World) (ha:RatAt w va r) (hb:RatAt w vb s) (hr:r.Short 17179869184) (hs:s.Short 17179869184):Calls Tryz.prog 66 #[va,vb] w fun e w'=>(∃ v',e=.returned v'/\RatAt w' v' (gR (mI (gT r) (gT s))))/\gO w w':=by
 have az:=af (fun W (hk:gO w W)=>qU va vb r s W (ha.kept hk) (hb.kept hk) ⟨Nat.le_trans hr.1 (by omega),Nat.le_trans hr.2 (by omega)⟩ ⟨Nat.le_trans hs.1 (by omega),Nat.le_trans hs.2 (by omega)⟩);have am:(⟨false,[],[]⟩:Rw).Short 17179869184:=⟨Nat.zero_le _,Nat.zero_le _⟩
 have aM:Hid (∀ W,gO w W->Calls Tryz.prog 113 #[va,.agg #[.bool false,.slice none 0 0,.slice none 0 0]] W fun e w'=>(∃ v',e=.returned v'/\RatAt w' v' (gR (gT r)))/\gO W w'):=af fun W hk=>by
  have h:=nZ va _ r _ W (ha.kept hk) (RatAt.zero W) ⟨Nat.le_trans hr.1 (by omega),Nat.le_trans hr.2 (by omega)⟩ ⟨Nat.le_trans am.1 (by omega),Nat.le_trans am.2 (by omega)⟩;rw [show gT ⟨false,[],[]⟩=0 from rfl,Rat.add_zero] at h;exact h
 have aN:Hid (∀ W,gO w W->Calls Tryz.prog 113 #[vb,.agg #[.bool false,.slice none 0 0,.slice none 0 0]] W fun e w'=>(∃ v',e=.returned v'/\RatAt w' v' (gR (gT s)))/\gO W w'):=af fun W hk=>by
  have h:=nZ vb _ s _ W (hb.kept hk) (RatAt.zero W) ⟨Nat.le_trans hs.1 (by omega),Nat.le_trans hs.2 (by omega)⟩ ⟨Nat.le_trans am.1 (by omega),Nat.le_trans am.2 (by omega)⟩;rw [show gT ⟨false,[],[]⟩=0 from rfl,Rat.add_zero] at h;exact h
 obtain ⟨R,hR⟩:∃ R,R=gR (mI (gT r) (gT s)):=⟨_,rfl⟩;rw [<-hR];have aI:=af hR;obtain ⟨S,hS⟩:∃ S,S=kr (gT r - gT s):=⟨_,rfl⟩;rw [<-hS] at az;have aJ:=af hS;obtain ⟨u1,u2,rfl,h1,h2⟩:=ha;obtain ⟨u3,u4,rfl,h3,h4⟩:=hb;obtain ⟨a1,c1,rfl⟩:=h1.shape;obtain ⟨a2,c2,rfl⟩:=h2.shape;obtain ⟨a3,c3,rfl⟩:=h3.shape;obtain ⟨a4,c4,rfl⟩:=h4.shape;generalize r.num.length=n1 at *;generalize r.den.length=n2 at *;generalize s.num.length=n3 at *;generalize s.den.length=n4 at *;generalize r.neg=neg1 at *;generalize s.neg=neg2 at *;obtain ⟨w2,ap⟩:∃ w2,w2=((w.alloc (.cells #[.bool neg1,.slice a1 n1 c1,.slice a2 n2 c2] 29)).alloc (.cells #[.bool neg2,.slice a3 n3 c3,.slice a4 n4 c4] 29)).alloc (.cells #[.bool false,.slice none 0 0,.slice none 0 0] 29):=⟨_,rfl⟩;have HM:=af (jq w (.cells #[.bool neg1,.slice a1 n1 c1,.slice a2 n2 c2] 29) (.cells #[.bool neg2,.slice a3 n3 c3,.slice a4 n4 c4] 29));rw [<-ap] at HM;have ha2:=gS.made w #[.bool neg1,.slice a1 n1 c1,.slice a2 n2 c2] 29;have aw:Hid (gS w2 w.heap.size 29 [.bool neg1,.slice a1 n1 c1,.slice a2 n2 c2]):=af (by rw [ap];exact ha2.kept (((gO.refl _).alloc _).alloc _));have aA:=gS.made (w.alloc (.cells #[.bool neg1,.slice a1 n1 c1,.slice a2 n2 c2] 29)) #[.bool neg2,.slice a3 n3 c3,.slice a4 n4 c4] 29;simp only [World.size_alloc] at aA;have aB:Hid (gS w2 (w.heap.size+1) 29 [.bool neg2,.slice a3 n3 c3,.slice a4 n4 c4]):=af (by rw [ap];exact aA.kept ((gO.refl _).alloc _))
 have aK:=af ap;have p0:=aw.out.cell (i:=0) (by simp);have p1:=aw.out.cell (i:=1) (by simp);have p2:=aw.out.cell (i:=2) (by simp);have g0:=aB.out.cell (i:=0) (by simp);have g1:=aB.out.cell (i:=1) (by simp);have g2:=aB.out.cell (i:=2) (by simp);simp only [List.getElem_cons_succ,List.getElem_cons_zero] at p0 p1 p2 g0 g1 g2;clear hR h1 h2 h3 h4 hr hs ap ha2 aA hS am;by_cases hc:0<S
 ·have HE:Hid (R=gR (gT s)):=af (by rw [aI.out,mI,if_neg (fun h=>by have:=(q_ _ _).2 h;rw [<-aJ.out] at this;omega)]);have aj:Hid (∀ W,gO w W->Calls Tryz.prog 113 #[.agg #[.bool neg2,.slice a3 n3 c3,.slice a4 n4 c4],.agg #[.bool false,.slice none 0 0,.slice none 0 0]] W fun e w'=>(∃ v',e=.returned v'/\RatAt w' v' R)/\gO W w'):=af (by rw [HE.out];exact aN.out);have dc:decide (S > 0)=true:=by simp;omega
  go_enter Tryz.func66,Tryz.ntmps66;go_wp2_with fail;rw [<-aK.out];refine (az.out _ HM.out.2.2).mono ?_;rintro e w3 ⟨rfl,ag⟩;have x0:=ag.cell g0;have x1:=ag.cell g1;have x2:=ag.cell g2;have al:=aw.out.kept ag;have q0:=ag.cell p0;have q1:=ag.cell p1;have q2:=ag.cell p2;have f0:=al.free 0;have f1:=al.free 1;have f2:=al.free 2;have aO:=al.lt;have aq:=((al.store 0 (.bool neg2)).store 1 (.slice a3 n3 c3)).store 2 (.slice a4 n4 c4);simp only [List.set_cons_zero,List.set_cons_succ] at aq;have y0:=aq.cell (i:=0) (by simp);have y1:=aq.cell (i:=1) (by simp);have y2:=aq.cell (i:=2) (by simp);simp only [List.getElem_cons_succ,List.getElem_cons_zero] at y0 y1 y2;obtain ⟨w4,aC⟩:∃ w4,w4=((w3.setCell ⟨w.heap.size,0,none⟩ (.bool neg2)).setCell ⟨w.heap.size,1,none⟩ (.slice a3 n3 c3)).setCell ⟨w.heap.size,2,none⟩ (.slice a4 n4 c4):=⟨_,rfl⟩;have ay:=af (HM.out.2.2.trans ag);have HO:=(((iq.refl w.heap.size w3).store 0 (.bool neg2)).store 1 (.slice a3 n3 c3)).store 2 (.slice a4 n4 c4);rw [<-aC] at HO;have aL:Hid (gO w w4):=af (HO.toKept ay.out (Nat.le_refl _));have aP:Hid (gS w4 (w.heap.size+1+1) 29 [.bool false,.slice none 0 0,.slice none 0 0]):=af (HO.row (HM.out.1.kept ag) (by omega))
  have aQ:Hid (iX w4 (w.heap.size+1+1) [.bool false,.slice none 0 0,.slice none 0 0]):=af (by
   obtain ⟨cur,e,h1,h2⟩:=HM.out.2.1.kept ag;exact ⟨cur,e,(HO.block _ (HM.out.2.1.kept ag).lt (by omega)).trans h1,h2⟩)
  have aR:=af aC;clear ag aq al HO aC;go_wp2_with fail;rw [<-aR.out];refine (aj.out _ aL.out).mono ?_;rintro e w5 ⟨⟨v5,rfl,aD⟩,ai⟩;have ah:=aP.out.kept ai;have aF:=af (aQ.out.kept ai);have aG:=af (aL.out.trans ai);clear x0 x1 x2 q0 q1 q2 f0 f1 f2 y0 y1 y2;obtain ⟨u5,u6,rfl,k5,k6⟩:=aD;obtain ⟨a5,c5,rfl⟩:=k5.shape;obtain ⟨a6,c6,rfl⟩:=k6.shape;obtain ⟨y0,y1,y2,ar⟩:=iC ah aF.out k5 k6;have g0:=ah.cell (i:=0) (by simp);have g1:=ah.cell (i:=1) (by simp);have g2:=ah.cell (i:=2) (by simp);have f0:=ah.free 0;have f1:=ah.free 1;have f2:=ah.free 2;have aH:=af ar;have Y0:=af y0;have Y1:=af y1;have Y2:=af y2;clear ar y0 y1 y2 k5 k6 ah ai;generalize R.num.length=n5 at *;generalize R.den.length=n6 at *;go_wp2;refine bodyPost_ret (v:=.agg #[.bool R.neg,.slice a5 n5 c5,.slice a6 n6 c6]) ?_ rfl ⟨⟨_,rfl,aH.out⟩,?_⟩
  ·simp [results,Tryz.results66,go_sem,Y0.out,Y1.out,Y2.out]
  ·exact ((aG.out.store (by omega) _ _).store (by omega) _ _).store (by omega) _ _
 ·have HE:Hid (R=gR (gT r)):=af (by rw [aI.out,mI,if_pos ((q_ _ _).1 (by rw [<-aJ.out];omega))]);have aj:Hid (∀ W,gO w W->Calls Tryz.prog 113 #[.agg #[.bool neg1,.slice a1 n1 c1,.slice a2 n2 c2],.agg #[.bool false,.slice none 0 0,.slice none 0 0]] W fun e w'=>(∃ v',e=.returned v'/\RatAt w' v' R)/\gO W w'):=af (by rw [HE.out];exact aM.out);have dc:decide (S > 0)=false:=by simp;omega
  go_enter Tryz.func66,Tryz.ntmps66;go_wp2_with fail;rw [<-aK.out];refine (az.out _ HM.out.2.2).mono ?_;rintro e w3 ⟨rfl,ag⟩;have x0:=ag.cell p0;have x1:=ag.cell p1;have x2:=ag.cell p2;have aS:=af (HM.out.1.kept ag);have aT:=af (HM.out.2.1.kept ag);have ay:=af (HM.out.2.2.trans ag);clear ag;go_wp2_with fail;refine (aj.out _ ay.out).mono ?_;rintro e w5 ⟨⟨v5,rfl,aD⟩,ai⟩;have ah:=aS.out.kept ai;have aF:=af (aT.out.kept ai);have aG:=af (ay.out.trans ai);obtain ⟨u5,u6,rfl,k5,k6⟩:=aD;obtain ⟨a5,c5,rfl⟩:=k5.shape;obtain ⟨a6,c6,rfl⟩:=k6.shape;obtain ⟨y0,y1,y2,ar⟩:=iC ah aF.out k5 k6;have g0:=ah.cell (i:=0) (by simp);have g1:=ah.cell (i:=1) (by simp);have g2:=ah.cell (i:=2) (by simp);have f0:=ah.free 0;have f1:=ah.free 1;have f2:=ah.free 2;have aH:=af ar;have Y0:=af y0;have Y1:=af y1;have Y2:=af y2;clear ar y0 y1 y2 k5 k6 ah ai;generalize R.num.length=n5 at *;generalize R.den.length=n6 at *;go_wp2;refine bodyPost_ret (v:=.agg #[.bool R.neg,.slice a5 n5 c5,.slice a6 n6 c6]) ?_ rfl ⟨⟨_,rfl,aH.out⟩,?_⟩
  ·simp [results,Tryz.results66,go_sem,Y0.out,Y1.out,Y2.out]
  ·exact ((aG.out.store (by omega) _ _).store (by omega) _ _).store (by omega) _ _
theorem Ih (a b:Rat):- mI (- a) (- b)=mH a b:=by
 unfold mI mH;split
 ·rw [if_pos (by grind)];grind
 ·rw [if_neg (by grind)];grind
theorem ul (va vb:Value) (r s:Rw) (w:World) (ha:RatAt w va r) (hb:RatAt w vb s) (hr:r.Short 17179869184) (hs:s.Short 17179869184):Calls Tryz.prog 65 #[va,vb] w fun e w'=>(∃ v',e=.returned v'/\RatAt w' v' (gR (mH (gT r) (gT s))))/\gO w w':=by
 have aB:=af (fun W (hk:gO w W)=>n_ va r W (ha.kept hk) ⟨Nat.le_trans hr.1 (by omega),Nat.le_trans hr.2 (by omega)⟩);have aC:=af (fun W (hk:gO w W)=>n_ vb s W (hb.kept hk) ⟨Nat.le_trans hs.1 (by omega),Nat.le_trans hs.2 (by omega)⟩);have sh1:=lM ha.ok hr (by omega);have sh2:=lM hb.ok hs (by omega);obtain ⟨M,hM⟩:∃ M,M=gR (mI (- gT r) (- gT s)):=⟨_,rfl⟩
 have aD:Hid (∀ W u1 u2,RatAt W u1 (gR (- gT r))->RatAt W u2 (gR (- gT s))->Calls Tryz.prog 66 #[u1,u2] W fun e w'=>(∃ v',e=.returned v'/\RatAt w' v' M)/\gO W w'):=af fun W u1 u2 k1 k2=>by
  have h:=ur u1 u2 _ _ W k1 k2 sh1 sh2;rw [gV,gV,<-hM] at h;exact h
 have shM:M.Short 17179869184:=by
  rw [hM];unfold mI;split
  ·exact sh1
  ·exact sh2
 obtain ⟨R,hR⟩:∃ R,R=gR (mH (gT r) (gT s)):=⟨_,rfl⟩
 have aF:Hid (∀ W u,RatAt W u M->Calls Tryz.prog 111 #[u] W fun e w'=>(∃ v',e=.returned v'/\RatAt w' v' R)/\gO W w'):=af fun W u k=>by
  have h:=n_ u _ W k ⟨Nat.le_trans shM.1 (by omega),Nat.le_trans shM.2 (by omega)⟩;rw [hM,gV,Ih,<-hR] at h;exact h
 rw [<-hR];obtain ⟨u1,u2,rfl,h1,h2⟩:=ha;obtain ⟨u3,u4,rfl,h3,h4⟩:=hb;obtain ⟨a1,c1,rfl⟩:=h1.shape;obtain ⟨a2,c2,rfl⟩:=h2.shape;obtain ⟨a3,c3,rfl⟩:=h3.shape;obtain ⟨a4,c4,rfl⟩:=h4.shape;generalize r.num.length=n1 at *;generalize r.den.length=n2 at *;generalize s.num.length=n3 at *;generalize s.den.length=n4 at *;generalize r.neg=neg1 at *;generalize s.neg=neg2 at *;obtain ⟨w2,ah⟩:∃ w2,w2=((w.alloc (.cells #[.bool neg1,.slice a1 n1 c1,.slice a2 n2 c2] 29)).alloc (.cells #[.bool neg2,.slice a3 n3 c3,.slice a4 n4 c4] 29)).alloc (.cells #[.bool false,.slice none 0 0,.slice none 0 0] 29):=⟨_,rfl⟩;have HM:=af (jq w (.cells #[.bool neg1,.slice a1 n1 c1,.slice a2 n2 c2] 29) (.cells #[.bool neg2,.slice a3 n3 c3,.slice a4 n4 c4] 29));rw [<-ah] at HM;have ha2:=gS.made w #[.bool neg1,.slice a1 n1 c1,.slice a2 n2 c2] 29;have am:Hid (gS w2 w.heap.size 29 [.bool neg1,.slice a1 n1 c1,.slice a2 n2 c2]):=af (by rw [ah];exact ha2.kept (((gO.refl _).alloc _).alloc _));have ap:=gS.made (w.alloc (.cells #[.bool neg1,.slice a1 n1 c1,.slice a2 n2 c2] 29)) #[.bool neg2,.slice a3 n3 c3,.slice a4 n4 c4] 29;simp only [World.size_alloc] at ap;have aq:Hid (gS w2 (w.heap.size+1) 29 [.bool neg2,.slice a3 n3 c3,.slice a4 n4 c4]):=af (by rw [ah];exact ap.kept ((gO.refl _).alloc _));have aG:=af ah;have p0:=am.out.cell (i:=0) (by simp);have p1:=am.out.cell (i:=1) (by simp)
 have p2:=am.out.cell (i:=2) (by simp);have g0:=aq.out.cell (i:=0) (by simp);have g1:=aq.out.cell (i:=1) (by simp);have g2:=aq.out.cell (i:=2) (by simp);simp only [List.getElem_cons_succ,List.getElem_cons_zero] at p0 p1 p2 g0 g1 g2;clear hR h1 h2 h3 h4 hr hs ah ha2 ap hM sh1 sh2 shM;go_enter Tryz.func65,Tryz.ntmps65;go_wp2_with fail;rw [<-aG.out]
 go_region_with (first
  | (go_at_call 111;(with_reducible refine (aB.out _ HM.out.2.2.drew).mono ?_);rintro e w3 ⟨⟨v3,rfl,ar⟩,aw⟩;have hkd:=(gO.refl w2).drew.trans aw;have x0:=hkd.cell g0;have x1:=hkd.cell g1;have x2:=hkd.cell g2;have aH:=af ar;have ay:=af (HM.out.2.2.trans hkd);have aI:=af (HM.out.1.kept hkd);have aJ:=af (HM.out.2.1.kept hkd);clear ar aw hkd)
  | (go_at_call 111;(with_reducible refine (aC.out _ ay.out).mono ?_);rintro e w4 ⟨⟨v4,rfl,az⟩,ai⟩;have aK:=af az;have aL:=af (aH.out.kept ai);have aM:=af (ay.out.trans ai);have aN:=af (aI.out.kept ai);have aO:=af (aJ.out.kept ai);clear az ai)
  | (go_at_call 66;(with_reducible refine (aD.out _ _ _ aL.out aK.out).mono ?_);rintro e w6 ⟨⟨v6,rfl,aA⟩,aj⟩;have aP:=af aA;have aQ:=af (aM.out.trans aj);have aR:=af (aN.out.kept aj);have aS:=af (aO.out.kept aj);clear aA aj)
  | (go_at_call 111;(with_reducible refine (aF.out _ _ aP.out).mono ?_);rintro e w7 ⟨⟨v7,rfl,aT⟩,al⟩;have ag:=aR.out.kept al;have aU:=af ag;have aV:=af (aS.out.kept al);have aW:=af (aQ.out.trans al);obtain ⟨u5,u6,rfl,k5,k6⟩:=aT;obtain ⟨a5,c5,rfl⟩:=k5.shape;obtain ⟨a6,c6,rfl⟩:=k6.shape;have K5:=af k5;have K6:=af k6;have z0:=ag.cell (i:=0) (by simp);have z1:=ag.cell (i:=1) (by simp);have z2:=ag.cell (i:=2) (by simp);have f0:=ag.free 0;have f1:=ag.free 1;have f2:=ag.free 2;clear k5 k6 ag al))
 all_goals
  obtain ⟨y0,y1,y2,aX⟩:=iC aU.out aV.out K5.out K6.out;generalize R.num.length=n7 at *;generalize R.den.length=n8 at *;go_wp2;refine bodyPost_ret (v:=.agg #[.bool R.neg,.slice a5 n7 c5,.slice a6 n8 c6]) ?_ rfl ⟨⟨_,rfl,aX⟩,?_⟩
  ·simp [results,Tryz.results65,go_sem,y0,y1,y2]
  ·exact ((aW.out.store (by omega) _ _).store (by omega) _ _).store (by omega) _ _
theorem ro {f:Nat->Rat} {l:List Nat} (h:∀ s∈l,(gR (f s)).Short 91):∀ k,k<=l.length->(gR (ik f (l.take k))).Short 91:=yx (by decide) h
theorem Gm {w:World} {v:Value} {f:Nat->Rat} {ss:List Nat} (h:RatsAt w v (ss.map fun s=>gR (f s))):∃ a c,v=.slice a ss.length c:=by
 obtain ⟨a,c,e⟩:=h.shape;exact ⟨a,c,by rw [e,List.length_map]⟩
theorem yH {f:Nat->Rat} {ss:List Nat} {k:Nat} (hk:k<ss.length):(ss.map fun s=>gR (f s)).getD k default=gR (f ss[k]):=by
 simp [List.getD_eq_getElem?_getD,hk]
theorem esnone_any (g:Nat) (eg:∀ args w,(callFunc g args).run Tryz.prog w=.ok (.enter g args) w) (f:Nat->Rat) (ss:List Nat) (xv v:Value) (w:World) (hx:gU w xv (ib ss)) (hl:ss.length<=1024) (hs:∀ s∈ss,(gR (f s)).Short 91)
  (aG:∀ s∈ss,∀ W,gO w W->Calls Tryz.prog g #[.int .i64 s,v] W fun e w'=>(∃ v',e=.returned v'/\RatAt w' v' (gR (f s)))/\gO W w') :
  Calls Tryz.prog 48 #[xv,v,.func (.func g) #[] #[]] w fun e w'=>(∃ v',e=.returned v'/\RatAt w' v' (gR (ir f ss)))/\gO w w':=by
 have aS:Hid (∀ W,Calls Tryz.prog 96 #[.int .i64 1] W fun e w'=>(∃ v',e=.returned v'/\RatAt w' v' (gR (ir f (ss.take 0))))/\gO W w'):=af fun W=>xF 1 W (by omega) (by omega)
 have aT:=af (fun k hk=>qb (by decide) hs k hk);have HF:=af hx;have aU:=af aG;have ay:=af hs;obtain ⟨xa,xn,xc,rfl⟩:=hx.shape;obtain ⟨n,hn⟩:∃ n,n=ss.length:=⟨_,rfl⟩
 have aV:xn=n:=by
  obtain ⟨_,_,e,_⟩:=hx;injection e with _ e2 _
  rw [e2,hn];simp [ib]
 subst aV;rw [<-hn] at hl;have HN:=af hn;obtain ⟨R,hR⟩:∃ R,R=gR (ir f ss):=⟨_,rfl⟩;rw [<-hR];have aW:=af hR;clear hR hn hx hs aG;obtain ⟨w2,am⟩:∃ w2,w2=w.alloc (.cells #[.bool false,.slice none 0 0,.slice none 0 0] 29):=⟨_,rfl⟩;have HZ:Hid (RatCell w2 w.heap.size ⟨false,[],[]⟩):=af (by rw [am];exact RatCell.zero w);have aX:Hid (gO w w2):=af (by rw [am];exact (gO.refl w).alloc _);have aY:=af am;clear am;go_enter Tryz.func48,Tryz.ntmps48;go_wp2_with fail;rw [<-aY.out];refine (aS.out _).mono ?_;rintro e w3 ⟨⟨v3,rfl,aH⟩,az⟩;have aZ:=af (HZ.out.kept az);have aI:=af (aX.out.trans az);obtain ⟨n3,l3,m3,a3,c3,b3,d3,w4,rfl,aJ,aK,aL,_,_⟩:=aH.box;have a_:=af aJ;have HC:=af aK;have bd:=af aL;clear aH az aJ aK aL;go_wp2_with fail;rw [<-a_.out];go_loopg [13] xn (fun kx s10 wr=>∃ k:Nat,k<=xn/\s10=.int .i64 k/\xn - k<=kx/\Hid (RatCell wr w3.heap.size (gR (ir f (ss.take k))))/\Hid (gO w3 wr))
 case atStart=>exact ⟨0,Nat.zero_le _,rfl,by omega,HC,bd⟩
 case round =>
  obtain ⟨k,hk,rfl,bF,HX,ap⟩:=hrel;by_cases bG:k<xn
  ·have bf:(k:Int)<(xn:Int):=by omega
   have aq:k<ss.length:=by have:=HN.out;omega
   have aM:=af (aI.out.trans ap.out);obtain ⟨b,o,rfl,aA⟩:=HF.out.get k (by simpa [ib] using aq);have aB:=aT.out k (by omega);have aC:=p' f ss aq;obtain ⟨s,ai⟩:∃ s,s=ss[k]:=⟨_,rfl⟩;have eo:(ib ss)[k]'(by simpa [ib] using aq)=(s:Int):=by rw [ai];simp [ib]
   rw [eo] at aA;rw [<-ai] at aC;have bH:=aM.out.cell aA;have bh:Hid (∀ W,gO w W->Calls Tryz.prog g #[.int .i64 s,v] W fun e w'=>(∃ v',e=.returned v'/\RatAt w' v' (gR (f s)))/\gO W w'):=af (aU.out s (by rw [ai];exact List.getElem_mem _));have ar:=ay.out s (by rw [ai];exact List.getElem_mem _)
   have bi:Hid (∀ W u,RatAt W u (gR (f s))->Calls Tryz.prog 47 #[u] W fun e w'=>(∃ v',e=.returned v'/\RatAt w' v' (gR (1 - f s)))/\gO W w'):=af fun W u k1=>by
    have h:=np u _ W k1 ⟨Nat.le_trans ar.1 (by omega),Nat.le_trans ar.2 (by omega)⟩;rw [gV] at h;exact h
   have bj:Hid (∀ W u1 u2,RatAt W u1 (gR (ir f (ss.take k)))->RatAt W u2 (gR (1 - f s))->Calls Tryz.prog 97 #[u1,u2] W fun e w'=>(∃ v',e=.returned v'/\RatAt w' v' (gR (ir f (ss.take (k+1)))))/\gO W w'):=af fun W u1 u2 k1 k2=>by
    have h2:=kF ar (by decide);have h:=zw u1 u2 _ _ W k1 k2 ⟨Nat.le_trans aB.1 (by omega),Nat.le_trans aB.2 (by omega)⟩ ⟨Nat.le_trans h2.1 (by omega),Nat.le_trans h2.2 (by omega)⟩;rw [gV,gV,<-aC] at h;exact h
   obtain ⟨p1,p2,p3,e1,e2,e3,e4,x0,x1,x2,bk,aD⟩:=HX.out.read;clear aA aB aC ai ar eo aq;go_wp2_with fail
   go_region_with (first
    | (go_at_fn g;(with_reducible refine (bh.out _ aM.out.drew).mono ?_);rintro e w5 ⟨⟨v5,rfl,aN⟩,aO⟩;have ag:=(gO.refl _).drew.trans aO;have bl:=af aN;have bo:=af (HX.out.kept ag);have bp:=af (aD.out.kept ag);have q0:=ag.cell x0;have q1:=ag.cell x1;have q2:=ag.cell x2;have bq:=af (ap.out.trans ag);clear aN aO ag)
    | (go_at_call 47;(with_reducible refine (bi.out _ _ bl.out).mono ?_);rintro e w6 ⟨⟨v6,rfl,aP⟩,ah⟩;have br:=af aP;have bt:=af (bo.out.kept ah);have bw:=af (bp.out.kept ah);have r0:=ah.cell q0;have r1:=ah.cell q1;have r2:=ah.cell q2;have bz:=af (bq.out.trans ah);clear aP ah)
    | (go_at_call 97;(with_reducible refine (bj.out _ _ _ bw.out br.out).mono ?_);rintro e w7 ⟨⟨v7,rfl,aQ⟩,aF⟩;obtain ⟨n8,l8,m8,a8,c8,b8,d8,w8,rfl,aj,⟨⟨z0,j0⟩,⟨z1,j1⟩,⟨z2,j2⟩⟩,⟨f0,f1,f2⟩,bA,_,_,bB,al⟩:=(bt.out.kept aF).save aQ;have aw:=af (al.out _ (bz.out.trans aF) (Nat.le_refl _));have bC:=af aj;clear aQ aF aj al))
   all_goals
    rw [<-bC.out];go_wp2_with fail;go_roundg (xn - (k+1))
    case measure=>omega
    case rel=>exact ⟨k+1,by omega,by go_num,Nat.le_refl _,bB,aw⟩
  ·have bD:k=xn:=by omega
   have bf:¬ (k:Int)<(xn:Int):=by omega
   have bE:Hid (RatCell wr w3.heap.size R):=af (by
    have h:=HX.out;rw [List.take_of_length_le (by have:=HN.out;omega),<-aW.out] at h;exact h)
   obtain ⟨p1,p2,p3,e1,e2,e3,e4,x0,x1,x2,bk,aD⟩:=bE.out.read;obtain ⟨n8,l8,m8,a8,c8,b8,d8,w8,he,aj,⟨⟨z0,j0⟩,⟨z1,j1⟩,⟨z2,j2⟩⟩,⟨f0,f1,f2⟩,bA,Y,aR,_,al⟩:=(aZ.out.kept ap.out).save aD.out;have aw:=af (al.out _ (aI.out.trans ap.out) (Nat.le_refl _));simp only [Value.agg.injEq,Array.mk.injEq,List.cons.injEq,Value.bool.injEq,Value.slice.injEq,and_true] at he;obtain ⟨rfl,⟨rfl,rfl,rfl⟩,rfl,rfl,rfl⟩:=he;rw [aj] at Y aR aw;clear aj al bD;go_wp2;refine bodyPost_ret (v:=.agg #[.bool p1,.slice e1 p2 e2,.slice e3 p3 e4]) ?_ rfl ⟨⟨_,rfl,aR.out⟩,aw.out⟩;simp [results,Tryz.results48,go_sem,Y.out.1,Y.out.2.1,Y.out.2.2]
theorem se (g:Nat) (eg:∀ args w,(callFunc g args).run Tryz.prog w=.ok (.enter g args) w) (f:Nat->Rat) (ss:List Nat) (xv v:Value) (w:World) (hx:gU w xv (ib ss)) (hl:ss.length<=1024) (hs:∀ s∈ss,(gR (f s)).Short 91)
  (aG:∀ s∈ss,∀ W,gO w W->Calls Tryz.prog g #[.int .i64 s,v] W fun e w'=>(∃ v',e=.returned v'/\RatAt w' v' (gR (f s)))/\gO W w') :
  Calls Tryz.prog 58 #[xv,v,.func (.func g) #[] #[]] w fun e w'=>(∃ v',e=.returned v'/\RatAt w' v' (gR (ik f ss)))/\gO w w':=by
 have aN:=af (fun k hk=>ro hs k hk);have HF:=af hx;have aO:=af aG;have aw:=af hs;obtain ⟨xa,xn,xc,rfl⟩:=hx.shape;obtain ⟨n,hn⟩:∃ n,n=ss.length:=⟨_,rfl⟩
 have aP:xn=n:=by
  obtain ⟨_,_,e,_⟩:=hx;injection e with _ e2 _
  rw [e2,hn];simp [ib]
 subst aP;rw [<-hn] at hl;have HN:=af hn;obtain ⟨R,hR⟩:∃ R,R=gR (ik f ss):=⟨_,rfl⟩;rw [<-hR];have aQ:=af hR;clear hR hn hx hs aG;obtain ⟨w3,ah⟩:∃ w3,w3=w.alloc (.cells #[.bool false,.slice none 0 0,.slice none 0 0] 29):=⟨_,rfl⟩;have aR:Hid (RatCell w3 w.heap.size ⟨false,[],[]⟩):=af (by rw [ah];exact RatCell.zero w);have aH:Hid (gO w w3):=af (by rw [ah];exact (gO.refl w).alloc _);have ay:w3.heap.size=w.heap.size+1:=by rw [ah];simp
 obtain ⟨w4,am⟩:∃ w4,w4=w3.alloc (.cells #[.bool false,.slice none 0 0,.slice none 0 0] 29):=⟨_,rfl⟩;have HC:Hid (RatCell w4 (w.heap.size+1) (gR 0)):=af (by rw [am,<-ay];exact RatCell.zero w3);have aS:Hid (gO w3 w4):=af (by rw [am];exact (gO.refl w3).alloc _);have aT:Hid (w4=(w.alloc (.cells #[.bool false,.slice none 0 0,.slice none 0 0] 29)).alloc (.cells #[.bool false,.slice none 0 0,.slice none 0 0] 29)):=af (by rw [am,ah]);have aU:=af ay;clear ah am ay;go_enter Tryz.func58,Tryz.ntmps58;go_wp2_with fail;rw [<-aT.out];go_loopg [12] xn (fun kx s10 wr=>∃ k:Nat,k<=xn/\s10=.int .i64 k/\xn - k<=kx/\Hid (RatCell wr (w.heap.size+1) (gR (ik f (ss.take k))))/\Hid (gO w3 wr))
 case atStart=>exact ⟨0,Nat.zero_le _,rfl,by omega,HC,aS⟩
 case round =>
  obtain ⟨k,hk,rfl,bo,HX,ap⟩:=hrel;by_cases bp:k<xn
  ·have aV:(k:Int)<(xn:Int):=by omega
   have aq:k<ss.length:=by have:=HN.out;omega
   have aI:=af (aH.out.trans ap.out);obtain ⟨b,o,rfl,az⟩:=HF.out.get k (by simpa [ib] using aq);have aA:=aN.out k (by omega);have aB:=oH f ss aq;obtain ⟨s,ai⟩:∃ s,s=ss[k]:=⟨_,rfl⟩;have eo:(ib ss)[k]'(by simpa [ib] using aq)=(s:Int):=by rw [ai];simp [ib]
   rw [eo] at az;rw [<-ai] at aB;have bq:=aI.out.cell az;have aW:Hid (∀ W,gO w W->Calls Tryz.prog g #[.int .i64 s,v] W fun e w'=>(∃ v',e=.returned v'/\RatAt w' v' (gR (f s)))/\gO W w'):=af (aO.out s (by rw [ai];exact List.getElem_mem _));have aC:=aw.out s (by rw [ai];exact List.getElem_mem _)
   have aX:Hid (∀ W u1 u2,RatAt W u1 (gR (ik f (ss.take k)))->RatAt W u2 (gR (f s))->Calls Tryz.prog 57 #[u1,u2] W fun e w'=>(∃ v',e=.returned v'/\RatAt w' v' (gR (ik f (ss.take (k+1)))))/\gO W w'):=af fun W u1 u2 k1 k2=>by
    have h:=uA u1 u2 _ _ W k1 k2 ⟨Nat.le_trans aA.1 (by omega),Nat.le_trans aA.2 (by omega)⟩ ⟨Nat.le_trans aC.1 (by omega),Nat.le_trans aC.2 (by omega)⟩;rw [gV,gV,<-aB] at h;exact h
   obtain ⟨p1,p2,p3,e1,e2,e3,e4,x0,x1,x2,aY,aD⟩:=HX.out.read;clear az aA aB ai aC eo aq;go_wp2_with fail
   go_region_with (first
    | (go_at_fn g;(with_reducible refine (aW.out _ aI.out.drew).mono ?_);rintro e w5 ⟨⟨v5,rfl,aJ⟩,aK⟩;have ag:=(gO.refl _).drew.trans aK;have aZ:=af aJ;have a_:=af (HX.out.kept ag);have bd:=af (aD.out.kept ag);have q0:=ag.cell x0;have q1:=ag.cell x1;have q2:=ag.cell x2;have bf:=af (ap.out.trans ag);clear aJ aK ag)
    | (go_at_call 57;(with_reducible refine (aX.out _ _ _ bd.out aZ.out).mono ?_);rintro e w7 ⟨⟨v7,rfl,aL⟩,aF⟩;obtain ⟨n8,l8,m8,a8,c8,b8,d8,w8,rfl,aj,⟨⟨z0,j0⟩,⟨z1,j1⟩,⟨z2,j2⟩⟩,⟨f0,f1,f2⟩,bh,_,_,bi,al⟩:=(a_.out.kept aF).save aL;have ar:=af (al.out _ (bf.out.trans aF) (by first | exact Nat.le_refl _ | (rw [aU.out];exact Nat.le_refl _)));have bj:=af aj;clear aL aF aj al))
   all_goals
    rw [<-bj.out];go_wp2_with fail;go_roundg (xn - (k+1))
    case measure=>omega
    case rel=>exact ⟨k+1,by omega,by go_num,Nat.le_refl _,bi,ar⟩
  ·have bk:k=xn:=by omega
   have aV:¬ (k:Int)<(xn:Int):=by omega
   have bl:Hid (RatCell wr (w.heap.size+1) R):=af (by
    have h:=HX.out;rw [List.take_of_length_le (by have:=HN.out;omega),<-aQ.out] at h;exact h)
   obtain ⟨p1,p2,p3,e1,e2,e3,e4,x0,x1,x2,aY,aD⟩:=bl.out.read;obtain ⟨n8,l8,m8,a8,c8,b8,d8,w8,he,aj,⟨⟨z0,j0⟩,⟨z1,j1⟩,⟨z2,j2⟩⟩,⟨f0,f1,f2⟩,bh,Y,aM,_,al⟩:=(aR.out.kept ap.out).save aD.out;have ar:=af (al.out _ (aH.out.trans ap.out) (Nat.le_refl _));simp only [Value.agg.injEq,Array.mk.injEq,List.cons.injEq,Value.bool.injEq,Value.slice.injEq,and_true] at he;obtain ⟨rfl,⟨rfl,rfl,rfl⟩,rfl,rfl,rfl⟩:=he;rw [aj] at Y aM ar;clear aj al bk;go_wp2;refine bodyPost_ret (v:=.agg #[.bool p1,.slice e1 p2 e2,.slice e3 p3 e4]) ?_ rfl ⟨⟨_,rfl,aM.out⟩,ar.out⟩;simp [results,Tryz.results58,go_sem,Y.out.1,Y.out.2.1,Y.out.2.2]
theorem pu (f:Nat->Rat) (ss:List Nat) (v:Value) (w:World) (hv:RatsAt w v (ss.map fun s=>gR (f s))) (hl:ss.length<=1024) (hs:∀ s∈ss,(gR (f s)).Short 91) :
  Calls Tryz.prog 52 #[v] w fun e w'=>(∃ v',e=.returned v'/\RatAt w' v' (gR (ir f ss)))/\gO w w':=by
 have aZ:Hid (∀ W,Calls Tryz.prog 102 #[.int .i64 1] W fun e w'=>(∃ v',e=.returned v'/\RatAt w' v' (gR (ir f (ss.take 0))))/\gO W w'):=af fun W=>pg 1 W (by omega)
 have a_:=af (fun k hk=>qb (by decide) hs k hk);have HF:=af hv;have aC:=af hs;obtain ⟨xa,xc,rfl⟩:=Gm hv;obtain ⟨n,hn⟩:∃ n,n=ss.length:=⟨_,rfl⟩;rw [<-hn] at hl HF⊢;have HN:=af hn;obtain ⟨R,hR⟩:∃ R,R=gR (ir f ss):=⟨_,rfl⟩;rw [<-hR];have bd:=af hR;clear hR hn hv hs;obtain ⟨w2,ah⟩:∃ w2,w2=w.alloc (.cells #[.bool false,.slice none 0 0,.slice none 0 0] 29):=⟨_,rfl⟩;have HZ:Hid (RatCell w2 w.heap.size ⟨false,[],[]⟩):=af (by rw [ah];exact RatCell.zero w);have bf:Hid (gO w w2):=af (by rw [ah];exact (gO.refl w).alloc _);have bh:=af ah;clear ah;go_enter Tryz.func52,Tryz.ntmps52;go_wp2_with fail;rw [<-bh.out];refine (aZ.out _).mono ?_;rintro e w3 ⟨⟨v3,rfl,aM⟩,aD⟩;have bi:=af (HZ.out.kept aD);have aN:=af (bf.out.trans aD);obtain ⟨n3,l3,m3,a3,c3,b3,d3,w4,rfl,aO,aP,aQ,_,_⟩:=aM.box;have bj:=af aO;have HC:=af aP;have bk:=af aQ;clear aM aD aO aP aQ;go_wp2_with fail;rw [<-bj.out];go_loopg [9] n (fun kx s10 wr=>∃ k:Nat,k<=n/\s10=.int .i64 k/\n - k<=kx/\Hid (RatCell wr w3.heap.size (gR (ir f (ss.take k))))/\Hid (gO w3 wr))
 case atStart=>exact ⟨0,Nat.zero_le _,rfl,by omega,HC,bk⟩
 case round =>
  obtain ⟨k,hk,rfl,bI,HX,aq⟩:=hrel;by_cases bJ:k<n
  ·have bl:(k:Int)<(n:Int):=by omega
   have ar:k<ss.length:=by have:=HN.out;omega
   have aF:=af (aN.out.trans aq.out);obtain ⟨b,o,u1,u2,rfl,aw,aj,ah⟩:=HF.out.get k (by rw [List.length_map];exact ar);rw [yH ar] at aw aj ah;have aG:=a_.out k (by omega);have aH:=p' f ss ar;obtain ⟨s,aI⟩:∃ s,s=ss[k]:=⟨_,rfl⟩;rw [<-aI] at aH aw aj ah;have ay:=aC.out s (by rw [aI];exact List.getElem_mem _);obtain ⟨a6,c6,rfl⟩:=aj.shape;obtain ⟨a7,c7,rfl⟩:=ah.shape;have ai:=jN aw aF.out;have hq:RatAt wr (.agg #[.bool (gR (f s)).neg,.slice a6 (gR (f s)).num.length c6,.slice a7 (gR (f s)).den.length c7]) (gR (f s)):=⟨_,_,rfl,aj.kept aF.out,ah.kept aF.out⟩
   have bo:Hid (∀ W u,RatAt W u (gR (f s))->Calls Tryz.prog 51 #[u] W fun e w'=>(∃ v',e=.returned v'/\RatAt w' v' (gR (1 - f s)))/\gO W w'):=af fun W u k1=>by
    have h:=lZ u _ W k1 ⟨Nat.le_trans ay.1 (by omega),Nat.le_trans ay.2 (by omega)⟩;rw [gV] at h;exact h
   have bp:Hid (∀ W u1 u2,RatAt W u1 (gR (ir f (ss.take k)))->RatAt W u2 (gR (1 - f s))->Calls Tryz.prog 103 #[u1,u2] W fun e w'=>(∃ v',e=.returned v'/\RatAt w' v' (gR (ir f (ss.take (k+1)))))/\gO W w'):=af fun W u1 u2 k1 k2=>by
    have h2:=kF ay (by decide);have h:=qX u1 u2 _ _ W k1 k2 ⟨Nat.le_trans aG.1 (by omega),Nat.le_trans aG.2 (by omega)⟩ ⟨Nat.le_trans h2.1 (by omega),Nat.le_trans h2.2 (by omega)⟩;rw [gV,gV,<-aH] at h;exact h
   obtain ⟨y0,aR⟩:∃ y,y=(gR (f s)).neg:=⟨_,rfl⟩;obtain ⟨y1,aS⟩:∃ y,y=(gR (f s)).num.length:=⟨_,rfl⟩;obtain ⟨y2,aT⟩:∃ y,y=(gR (f s)).den.length:=⟨_,rfl⟩;rw [<-aR,<-aS,<-aT] at ai hq;obtain ⟨w5,az⟩:∃ w5,w5=wr.alloc (.cells #[.bool y0,.slice a6 y1 c6,.slice a7 y2 c7] 29):=⟨_,rfl⟩;have al:=gS.made wr #[.bool y0,.slice a6 y1 c6,.slice a7 y2 c7] 29;rw [<-az] at al;have aA:gO wr w5:=by rw [az];exact (gO.refl _).alloc _
   have q0:=al.cell (i:=0) (by simp);have q1:=al.cell (i:=1) (by simp);have q2:=al.cell (i:=2) (by simp);simp only [List.getElem_cons_succ,List.getElem_cons_zero] at q0 q1 q2;have bq:=af (hq.kept aA);have br:Hid (wr.rangeAt b (o+k*3) [.bool y0,.slice a6 y1 c6,.slice a7 y2 c7]):=af ai;have bt:=af az;have aU:=af (HX.out.kept aA);have aJ:=af (aq.out.trans aA);obtain ⟨p1,p2,p3,e1,e2,e3,e4,x0,x1,x2,bw,aK⟩:=aU.out.read;clear aw ai aj ah hq az al aA ar aG aH aI ay aR aS aT;go_wp2_with (with_reducible refine wpList_load_mid rfl 29 _ rfl b (o+k*3) rfl _ _ br.out Tryz.underlying29 rfl (by kernel_rfl) ?_);rw [<-bt.out]
   go_region_with (first
    | (go_at_call 51;(with_reducible refine (bo.out _ _ (bq.out.kept (gO.refl _).drew)).mono ?_);rintro e w6 ⟨⟨v6,rfl,aV⟩,aW⟩;have ag:=(gO.refl _).drew.trans aW;have bz:=af aV;have bA:=af (aU.out.kept ag);have bB:=af (aK.out.kept ag);have r0:=ag.cell x0;have r1:=ag.cell x1;have r2:=ag.cell x2;have bC:=af (aJ.out.trans ag);clear aV aW ag)
    | (go_at_call 103;(with_reducible refine (bp.out _ _ _ bB.out bz.out).mono ?_);rintro e w7 ⟨⟨v7,rfl,aX⟩,aL⟩;obtain ⟨n8,l8,m8,a8,c8,b8,d8,w8,rfl,am,⟨⟨z0,j0⟩,⟨z1,j1⟩,⟨z2,j2⟩⟩,⟨f0,f1,f2⟩,bD,_,_,bE,ap⟩:=(bA.out.kept aL).save aX;have aB:=af (ap.out _ (bC.out.trans aL) (Nat.le_refl _));have bF:=af am;clear aX aL am ap))
   all_goals
    rw [<-bF.out];go_wp2_with fail;go_roundg (n - (k+1))
    case measure=>omega
    case rel=>exact ⟨k+1,by omega,by go_num,Nat.le_refl _,bE,aB⟩
  ·have bG:k=n:=by omega
   have bl:¬ (k:Int)<(n:Int):=by omega
   have bH:Hid (RatCell wr w3.heap.size R):=af (by
    have h:=HX.out;rw [List.take_of_length_le (by have:=HN.out;omega),<-bd.out] at h;exact h)
   obtain ⟨p1,p2,p3,e1,e2,e3,e4,x0,x1,x2,bw,aK⟩:=bH.out.read;obtain ⟨n8,l8,m8,a8,c8,b8,d8,w8,he,am,⟨⟨z0,j0⟩,⟨z1,j1⟩,⟨z2,j2⟩⟩,⟨f0,f1,f2⟩,bD,Y,aY,_,ap⟩:=(bi.out.kept aq.out).save aK.out;have aB:=af (ap.out _ (aN.out.trans aq.out) (Nat.le_refl _));simp only [Value.agg.injEq,Array.mk.injEq,List.cons.injEq,Value.bool.injEq,Value.slice.injEq,and_true] at he;obtain ⟨rfl,⟨rfl,rfl,rfl⟩,rfl,rfl,rfl⟩:=he;rw [am] at Y aY aB;clear am ap bG;go_wp2;refine bodyPost_ret (v:=.agg #[.bool p1,.slice e1 p2 e2,.slice e3 p3 e4]) ?_ rfl ⟨⟨_,rfl,aY.out⟩,aB.out⟩;simp [results,Tryz.results52,go_sem,Y.out.1,Y.out.2.1,Y.out.2.2]
theorem oP (f:Nat->Rat) (ss:List Nat) (v:Value) (w:World) (hv:RatsAt w v (ss.map fun s=>gR (f s))) (hl:ss.length<=1024) (hs:∀ s∈ss,(gR (f s)).Short 91) :
  Calls Tryz.prog 67 #[v] w fun e w'=>(∃ v',e=.returned v'/\RatAt w' v' (gR (ik f ss)))/\gO w w':=by
 have aV:=af (fun k hk=>ro hs k hk);have HF:=af hv;have aC:=af hs;obtain ⟨xa,xc,rfl⟩:=Gm hv;obtain ⟨n,hn⟩:∃ n,n=ss.length:=⟨_,rfl⟩;rw [<-hn] at hl HF⊢;have HN:=af hn;obtain ⟨R,hR⟩:∃ R,R=gR (ik f ss):=⟨_,rfl⟩;rw [<-hR];have aW:=af hR;clear hR hn hv hs;obtain ⟨w3,ah⟩:∃ w3,w3=w.alloc (.cells #[.bool false,.slice none 0 0,.slice none 0 0] 29):=⟨_,rfl⟩;have aX:Hid (RatCell w3 w.heap.size ⟨false,[],[]⟩):=af (by rw [ah];exact RatCell.zero w);have aN:Hid (gO w w3):=af (by rw [ah];exact (gO.refl w).alloc _);have aD:w3.heap.size=w.heap.size+1:=by rw [ah];simp
 obtain ⟨w4,aq⟩:∃ w4,w4=w3.alloc (.cells #[.bool false,.slice none 0 0,.slice none 0 0] 29):=⟨_,rfl⟩;have HC:Hid (RatCell w4 (w.heap.size+1) (gR 0)):=af (by rw [aq,<-aD];exact RatCell.zero w3);have aY:Hid (gO w3 w4):=af (by rw [aq];exact (gO.refl w3).alloc _);have aZ:Hid (w4=(w.alloc (.cells #[.bool false,.slice none 0 0,.slice none 0 0] 29)).alloc (.cells #[.bool false,.slice none 0 0,.slice none 0 0] 29)):=af (by rw [aq,ah]);have a_:=af aD;clear ah aq aD;go_enter Tryz.func67,Tryz.ntmps67;go_wp2_with fail;rw [<-aZ.out];go_loopg [9] n (fun kx s10 wr=>∃ k:Nat,k<=n/\s10=.int .i64 k/\n - k<=kx/\Hid (RatCell wr (w.heap.size+1) (gR (ik f (ss.take k))))/\Hid (gO w3 wr))
 case atStart=>exact ⟨0,Nat.zero_le _,rfl,by omega,HC,aY⟩
 case round =>
  obtain ⟨k,hk,rfl,br,HX,ar⟩:=hrel;by_cases bt:k<n
  ·have bd:(k:Int)<(n:Int):=by omega
   have aw:k<ss.length:=by have:=HN.out;omega
   have aF:=af (aN.out.trans ar.out);obtain ⟨b,o,u1,u2,rfl,ay,ai,aj⟩:=HF.out.get k (by rw [List.length_map];exact aw);rw [yH aw] at ay ai aj;have aG:=aV.out k (by omega);have aH:=oH f ss aw;obtain ⟨s,aI⟩:∃ s,s=ss[k]:=⟨_,rfl⟩;rw [<-aI] at aH ay ai aj;have aJ:=aC.out s (by rw [aI];exact List.getElem_mem _);obtain ⟨a6,c6,rfl⟩:=ai.shape;obtain ⟨a7,c7,rfl⟩:=aj.shape;have ag:=jN ay aF.out;have hq:RatAt wr (.agg #[.bool (gR (f s)).neg,.slice a6 (gR (f s)).num.length c6,.slice a7 (gR (f s)).den.length c7]) (gR (f s)):=⟨_,_,rfl,ai.kept aF.out,aj.kept aF.out⟩
   have bf:Hid (∀ W u1 u2,RatAt W u1 (gR (ik f (ss.take k)))->RatAt W u2 (gR (f s))->Calls Tryz.prog 65 #[u1,u2] W fun e w'=>(∃ v',e=.returned v'/\RatAt w' v' (gR (ik f (ss.take (k+1)))))/\gO W w'):=af fun W u1 u2 k1 k2=>by
    have h:=ul u1 u2 _ _ W k1 k2 ⟨Nat.le_trans aG.1 (by omega),Nat.le_trans aG.2 (by omega)⟩ ⟨Nat.le_trans aJ.1 (by omega),Nat.le_trans aJ.2 (by omega)⟩;rw [gV,gV,<-aH] at h;exact h
   obtain ⟨y0,aO⟩:∃ y,y=(gR (f s)).neg:=⟨_,rfl⟩;obtain ⟨y1,aP⟩:∃ y,y=(gR (f s)).num.length:=⟨_,rfl⟩;obtain ⟨y2,aQ⟩:∃ y,y=(gR (f s)).den.length:=⟨_,rfl⟩;rw [<-aO,<-aP,<-aQ] at ag hq;obtain ⟨w5,az⟩:∃ w5,w5=wr.alloc (.cells #[.bool y0,.slice a6 y1 c6,.slice a7 y2 c7] 29):=⟨_,rfl⟩;have al:=gS.made wr #[.bool y0,.slice a6 y1 c6,.slice a7 y2 c7] 29;rw [<-az] at al;have aA:gO wr w5:=by rw [az];exact (gO.refl _).alloc _
   have q0:=al.cell (i:=0) (by simp);have q1:=al.cell (i:=1) (by simp);have q2:=al.cell (i:=2) (by simp);simp only [List.getElem_cons_succ,List.getElem_cons_zero] at q0 q1 q2;have bh:=af (hq.kept aA);have bi:Hid (wr.rangeAt b (o+k*3) [.bool y0,.slice a6 y1 c6,.slice a7 y2 c7]):=af ag;have bj:=af az;have aR:=af (HX.out.kept aA);have aK:=af (ar.out.trans aA);obtain ⟨p1,p2,p3,e1,e2,e3,e4,x0,x1,x2,aS,aL⟩:=aR.out.read;clear ay ag ai aj hq az al aA aw aG aH aI aJ aO aP aQ;go_upto_region 5 with (with_reducible refine wpList_load_mid rfl 29 _ rfl b (o+k*3) rfl _ _ bi.out Tryz.underlying29 rfl (by kernel_rfl) ?_)
   rw [<-bj.out];go_wp2_with fail;refine (bf.out _ _ _ aL.out bh.out).mono ?_;rintro e w7 ⟨⟨v7,rfl,aT⟩,aM⟩;obtain ⟨n8,l8,m8,a8,c8,b8,d8,w8,rfl,am,⟨⟨z0,j0⟩,⟨z1,j1⟩,⟨z2,j2⟩⟩,⟨f0,f1,f2⟩,bk,_,_,bl,ap⟩:=(aR.out.kept aM).save aT;have aB:=af (ap.out _ (aK.out.trans aM) (by rw [a_.out];exact Nat.le_refl _));have bo:=af am;clear aT aM am ap x0 x1 x2 aS q0 q1 q2;go_wp2_with fail;rw [<-bo.out];go_roundg (n - (k+1))
   case measure=>omega
   case rel=>exact ⟨k+1,by omega,by go_num,Nat.le_refl _,bl,aB⟩
  ·have bp:k=n:=by omega
   have bd:¬ (k:Int)<(n:Int):=by omega
   have bq:Hid (RatCell wr (w.heap.size+1) R):=af (by
    have h:=HX.out;rw [List.take_of_length_le (by have:=HN.out;omega),<-aW.out] at h;exact h)
   obtain ⟨p1,p2,p3,e1,e2,e3,e4,x0,x1,x2,aS,aL⟩:=bq.out.read;obtain ⟨n8,l8,m8,a8,c8,b8,d8,w8,he,am,⟨⟨z0,j0⟩,⟨z1,j1⟩,⟨z2,j2⟩⟩,⟨f0,f1,f2⟩,bk,Y,aU,_,ap⟩:=(aX.out.kept ar.out).save aL.out;have aB:=af (ap.out _ (aN.out.trans ar.out) (Nat.le_refl _));simp only [Value.agg.injEq,Array.mk.injEq,List.cons.injEq,Value.bool.injEq,Value.slice.injEq,and_true] at he;obtain ⟨rfl,⟨rfl,rfl,rfl⟩,rfl,rfl,rfl⟩:=he;rw [am] at Y aU aB;clear am ap bp;go_wp2;refine bodyPost_ret (v:=.agg #[.bool p1,.slice e1 p2 e2,.slice e3 p3 e4]) ?_ rfl ⟨⟨_,rfl,aU.out⟩,aB.out⟩;simp [results,Tryz.results67,go_sem,Y.out.1,Y.out.2.1,Y.out.2.2]
theorem DQ {w:World} {b o:Nat}:∀ (ps:List Rw) (d:Nat),(∀ i (h:i<ps.length),∃ u1 u2,w.rangeAt b (o+(d+i)*3) [.bool ps[i].neg,u1,u2]/\WdsAt w u1 ps[i].num/\WdsAt w u2 ps[i].den) ->
  ∃ L:List xW,L.map Prod.fst=ps/\(∀ x∈L,ox w x)/\w.rangeAt b (o+d*3) (L.flatMap pw):=by
 intro ps;induction ps with
 | nil=>intro d _;exact ⟨[],rfl,(fun x hx=>by cases hx),fun j v hj=>by simp at hj⟩
 | cons r ps ih =>
  intro d h;obtain ⟨u1,u2,h1,h2,h3⟩:=h 0 (by simp)
  obtain ⟨L,e,hL,hr⟩:=ih (d+1) fun i hi=>by
   obtain ⟨u1,u2,h1,h2,h3⟩:=h (i+1) (by simpa using hi);refine ⟨u1,u2,?_,h2,h3⟩;rw [show d+1+i=d+(i+1) by omega];exact h1
  refine ⟨(r,u1,u2) :: L,by rw [List.map_cons,e],fun x hx=>?_,fun j v hj=>?_⟩
  ·rcases List.mem_cons.1 hx with rfl | hx
   ·exact ⟨h2,h3⟩
   ·exact hL x hx
  ·rw [List.flatMap_cons] at hj;by_cases ag:j<3
   ·rw [List.getElem?_append_left (by simpa [pw] using ag)] at hj;have:=h1 j v hj
    rwa [Nat.add_zero] at this
   ·rw [List.getElem?_append_right (by simp [pw];omega)] at hj;have:=hr (j - 3) v (by simpa [pw] using hj);rw [show o+(d+1)*3+(j - 3)=o+d*3+j by omega] at this;exact this
theorem xZ {ops:Array Oper} {rest:List Oper} {o:Oper} {a:Act} {Q:Exit->Act->World->Prop} {w:World} (aj:o.guard=none) (s x:Operand)
  (ho:o.op=.call { callee:=.builtin .append,args:=#[s,x],argTypes:=#[23,23] }) (B:Nat) (v:Value) (rs:List Rw) (hs:a.eval s=v) (ai:OwnRats w B v rs)
  (u:Value) (ps:List Rw) (hx:a.eval x=u) (hu:RatsAt w u ps) (hl:rs.length+ps.length<1099511627776) (hB:B<=w.heap.size)
  (h:∀ v' w',OwnRats w' B v' (rs++ps)->Below B w w'->wpList Tryz.prog ops Q rest (a.put o.dst v') w'):wpList Tryz.prog ops Q (o :: rest) a w:=by
 obtain ⟨i0,al,ap,aq,ar⟩:=info_parts tB;obtain ⟨L,h1,h2,h3,h4,h5⟩:=ai;have az:L.length=rs.length:=by rw [<-h1,List.length_map]
 obtain ⟨ad,c,rfl,⟨hc,aw⟩,aA,ag⟩:=hu;cases ad with
 | none =>
  have hp:ps=[]:=by
   cases ps with
   | nil=>rfl
   | cons r ps=>obtain ⟨b,o,_,_,h,_⟩:=ag 0 (by simp);cases h
  subst hp;rw [aw rfl] at hx;refine wpList_append_own_none aj s x 23 ho B 29 i0 3 Tryz.underlying23 al v L.length _ hs h2 hx ?_;exact h v w (by rw [List.append_nil];exact ⟨L,h1,h2,h3,h4,h5⟩) (Below.refl _ _)
 | some ad =>
  have ay:∃ L2:List xW,L2.map Prod.fst=ps/\(∀ x∈L2,ox w x)/\∀ j u,(L2.flatMap pw)[j]?=some u->w.cell? (ad.add j)=some u:=by
   cases ps with
   | nil=>exact ⟨[],rfl,(fun x hx=>by cases hx),fun j u hj=>by simp at hj⟩
   | cons r0 ps0 =>
    obtain ⟨b,o,_,_,he,_⟩:=ag 0 (by simp);cases he
    obtain ⟨L2,e1,e2,e3⟩:=DQ (w:=w) (b:=b) (o:=o) (r0 :: ps0) 0 fun i hi=>by
     obtain ⟨b2,o2,u1,u2,he,k1,k2,k3⟩:=ag i hi;cases he;exact ⟨u1,u2,by rw [Nat.zero_add];exact k1,k2,k3⟩
    refine ⟨L2,e1,e2,fun j u hj=>?_⟩;have:=e3 j u hj;rw [Nat.zero_mul,Nat.add_zero] at this;rw [show ({ block:=b,off:=o }:Addr).add j=⟨b,o+j,none⟩ by unfold Addr.add;split <;> simp_all];exact this
  obtain ⟨L2,g1,g2,g3⟩:=ay;have am:L2.length=ps.length:=by rw [<-g1,List.length_map]
  have ah:=Bp (L:=L2) (w:=w) g2;refine wpList_plain aj fun _ hK=>nd w s x 23 ho B 29 i0 _ 3 56 Tryz.underlying23 al ap aq ar rfl (by decide) v L.length _ hs h2 ad ps.length c (L2.flatMap pw) hx (by rw [Ju,am]) g3 (fun u hu=>(ah u hu).1) (by simp [maxLen];omega) (by omega) hB h4 (fun u hu=>(ah u hu).2) uR ?_
  intro v' w' h6 h7 h8;refine hK _ _ (h v' w' ⟨L++L2,by rw [List.map_append,h1,g1],?_,by simp;omega,h8,fun y hy=>?_⟩ (iD h7 h2 hB))
  ·rw [List.length_append,List.flatMap_append,am];exact h6
  ·rcases List.mem_append.1 hy with hy | hy
   ·exact (h5 y hy).only h4 h7.block
   ·exact (g2 y hy).only h4 h7.block
theorem OwnRats.shape {w:World} {B:Nat} {v:Value} {rs:List Rw} (h:OwnRats w B v rs) (h0:rs≠[]):∃ g cap,v=.slice (some ⟨g,0,none⟩) rs.length cap/\B<=g/\g<w.heap.size/\rs.length<=cap:=by
 obtain ⟨L,h1,⟨h2,h3⟩,_⟩:=h;have ag:L.length=rs.length:=by rw [<-h1,List.length_map]
 rcases h3 with ⟨_,h3⟩ | ⟨g,cap,cur,rfl,h4,h5,h6,_⟩
 ·exact absurd (List.eq_nil_of_length_eq_zero (ag.symm.trans h3)) h0
 ·exact ⟨g,cap,by rw [ag],h4,mN h5,by omega⟩
theorem OwnRats.free {w:World} {B g n cap:Nat} {rs:List Rw} (h:OwnRats w B (.slice (some ⟨g,0,none⟩) n cap) rs) (i:Nat):w.frozen? ⟨g,i,none⟩=false:=by
 obtain ⟨L,_,⟨_,h3⟩,_⟩:=h;rcases h3 with ⟨h3,_⟩ | ⟨g',cap',cur,h3,_,h4,_⟩
 ·cases h3
 ·cases h3;simp [World.frozen?,h4]
theorem rB {w:World} {g i:Nat} {u:Value} (h:vj w g) (hu:sN u):vj (w.setCell ⟨g,i,none⟩ u) g:=by
 intro cur e fr hg x hx
 have hh:(w.setCell ⟨g,i,none⟩ u).heap[g]?=(w.heap[g]?).map (fun x=>match x with | .cells c e f=>.cells (c.setIfInBounds i u) e f | o=>o):=by
  simp [World.setCell,Array.getElem?_modify];congr 1
 rw [hh] at hg;obtain ⟨ob,hw,ho⟩:=Option.map_eq_some_iff.1 hg;cases ob with
 | cells c0 e0 fr0 =>
  simp only [Obj.cells.injEq] at ho;obtain ⟨rfl,_,_⟩:=ho;rw [Array.toList_setIfInBounds] at hx;rcases List.mem_or_eq_of_mem_set hx with hx | rfl
  ·exact h c0 _ _ hw x hx
  ·exact hu
 | _=>cases ho
theorem OwnRats.set {w:World} {B g n cap:Nat} {rs:List Rw} (h:OwnRats w B (.slice (some ⟨g,0,none⟩) n cap) rs) (hn:n=rs.length) (i:Nat) (hi:i<rs.length) {r:Rw} {u1 u2:Value} (h1:WdsAt w u1 r.num) (h2:WdsAt w u2 r.den) :
  OwnRats (((w.setCell ⟨g,i*3,none⟩ (.bool r.neg)).setCell ⟨g,i*3+1,none⟩ u1).setCell ⟨g,i*3+2,none⟩ u2) B (.slice (some ⟨g,0,none⟩) n cap) (rs.set i r):=by
 obtain ⟨L,e,k2,k3,k4,k5⟩:=h;have ag:L.length=rs.length:=by rw [<-e,List.length_map]
 rw [<-ag] at hn;subst hn;have hN:=k4 g (by simp [Value.ownBlock]);have s1:=k2.stored (i*3) (.bool r.neg);have s2:=s1.1.stored (i*3+1) u1;have s3:=s2.1.stored (i*3+2) u2;have n1:=rB (i:=i*3) hN (u:=.bool r.neg) (fun x e=>by cases e);have n2:=rB (i:=i*3+1) n1 h1.cell1.2;have n3:=rB (i:=i*3+2) n2 h2.cell1.2;have hO:=(((iq.refl g w).store (i*3) (.bool r.neg)).store (i*3+1) u1).store (i*3+2) u2;have keep:∀ x,ox w x->ox (((w.setCell ⟨g,i*3,none⟩ (.bool r.neg)).setCell ⟨g,i*3+1,none⟩ u1).setCell ⟨g,i*3+2,none⟩ u2) x:=fun x hx=>hx.only (g:=some g) (fun k hk=>by cases hk;exact hN) (fun k hk ah=>hO.block k hk (fun e=>ah (by rw [e])))
 refine ⟨L.set i (r,u1,u2),by rw [List.map_set,e],?_,by simpa using k3,fun g' hg'=>?_,fun x hx=>?_⟩
 ·rw [List.length_set,Bq L (r,u1,u2) i (by omega)];exact s3.1
 ·simp [Value.ownBlock] at hg';subst hg';exact n3
 ·rcases List.mem_or_eq_of_mem_set hx with hx | rfl
  ·exact keep x (k5 x hx)
  ·exact keep (r,u1,u2) ⟨h1,h2⟩
theorem OwnRats.new (w:World) (B:Nat) (hB:B<=w.heap.size):OwnRats (w.alloc (.cells #[] 29)) B (.slice (some ⟨w.heap.size,0,none⟩) 0 0) [] :=
 ⟨[],rfl,⟨by simp,.inr ⟨w.heap.size,0,#[],rfl,hB,heap_alloc_new w _,Nat.le_refl _,by unfold maxLen;omega,by simp,by simp⟩⟩,by simp,(fun g hg=>by
  simp [Value.ownBlock] at hg;subst hg;exact Ii w #[] 29 (fun u hu=>by simp at hu)),fun x hx=>by cases hx⟩
theorem sj (s:Nat) (v:Value) (ps:List Rw) (w:World) (hs:s<16777216) (hv:RatsAt w v ps) (ay:∀ r∈ps,r.Short 3) (aj:ps.length<=30) (hb:kQ ps=false) :
  Calls Tryz.prog 54 #[.int .i64 s,v] w fun e w'=>(∃ v',e=.returned v'/\RatAt w' v' (gR (gQ ps s)))/\gO w w':=by
 have aJ:Hid (∀ W u,RatsAt W u (nh ps)->Calls Tryz.prog 49 #[.int .i64 s,u] W fun e w'=>(∃ v',e=.returned v'/\RatAt w' v' (gR (gQ ps s)))/\gO W w'):=af fun W u hu =>
  oE s u (nh ps) W hs hu (rV hv.ok hb ay (by decide)) (by rw [md];exact aj)
 have HV:=af hv;have aX:=af ay;obtain ⟨a,c,rfl⟩:=hv.shape;obtain ⟨n,hn⟩:∃ n,n=ps.length:=⟨_,rfl⟩;rw [<-hn] at HV aj⊢;have HN:=af hn;obtain ⟨R,hR⟩:∃ R,R=gR (gQ ps s):=⟨_,rfl⟩;rw [<-hR] at aJ⊢;obtain ⟨w2,ag⟩:∃ w2,w2=w.alloc (.cells #[.bool false,.slice none 0 0,.slice none 0 0] 29):=⟨_,rfl⟩;have HZ:Hid (RatCell w2 w.heap.size ⟨false,[],[]⟩):=af (by rw [ag];exact RatCell.zero w);have aY:Hid (gO w w2):=af (by rw [ag];exact (gO.refl w).alloc _);have aZ:=af ag;clear hn hv ay hs ag hR hb;go_enter Tryz.func54,Tryz.ntmps54;go_wp2_with fail;rw [<-aZ.out];go_loopg [5,10] n (fun kx s5 s10 wr=>∃ k:Nat,k<=n/\s10=.int .i64 k/\n - k<=kx/\Hid (OwnRats wr w2.heap.size s5 ((nh ps).take k))/\Hid (gO w2 wr))
 case atStart=>exact ⟨0,Nat.zero_le _,rfl,by omega,af (OwnRats.nil _ _),af (gO.refl _)⟩
 case round =>
  obtain ⟨k,hk,rfl,bt,HO,az⟩:=hrel;have ap:=af (aY.out.trans az.out);by_cases bw:k<n
  ·have a_:(k:Int)<(n:Int):=by omega
   have aq:k<ps.length:=by have:=HN.out;omega
   obtain ⟨b,o,u1,u2,rfl,aK,aA,ag⟩:=HV.out.get k aq;obtain ⟨a6,c6,rfl⟩:=aA.shape;obtain ⟨a7,c7,rfl⟩:=ag.shape;have ai:=jN aK ap.out;have hq:RatAt wr (.agg #[.bool (ps.getD k default).neg,.slice a6 (ps.getD k default).num.length c6,.slice a7 (ps.getD k default).den.length c7]) (ps.getD k default):=⟨_,_,rfl,aA.kept ap.out,ag.kept ap.out⟩
   have ar:(ps.getD k default).Short 3:=by
    have e:ps.getD k default=ps[k]:=by simp [List.getD_eq_getElem?_getD,aq]
    rw [e];exact aX.out _ (List.getElem_mem _)
   have aB:=af (zV ps aq);obtain ⟨x,aL⟩:∃ x,x=ps.getD k default:=⟨_,rfl⟩;rw [<-aL] at ai hq ar aB;have aM:Hid (∀ W u,RatAt W u x->Calls Tryz.prog 47 #[u] W fun e w'=>(∃ v',e=.returned v'/\RatAt w' v' (gR (1 - gT x)))/\gO W w'):=af fun W u k1=>np u x W k1 ⟨Nat.le_trans ar.1 (by omega),Nat.le_trans ar.2 (by omega)⟩
   obtain ⟨w5,aw⟩:∃ w5,w5=wr.alloc (.cells #[.bool x.neg,.slice a6 x.num.length c6,.slice a7 x.den.length c7] 29):=⟨_,rfl⟩;have al:=gS.made wr #[.bool x.neg,.slice a6 x.num.length c6,.slice a7 x.den.length c7] 29;rw [<-aw] at al;have aC:gO wr w5:=by rw [aw];exact (gO.refl _).alloc _
   have q0:=al.cell (i:=0) (by simp);have q1:=al.cell (i:=1) (by simp);have q2:=al.cell (i:=2) (by simp);simp only [List.getElem_cons_succ,List.getElem_cons_zero] at q0 q1 q2;have bd:=af (hq.kept aC);obtain ⟨Y,hY⟩:∃ Y,Y=gR (1 - gT x):=⟨_,rfl⟩;rw [<-hY] at aM aB;generalize x.neg=y0 at *;generalize x.num.length=y1 at *;generalize x.den.length=y2 at *;have bf:Hid (wr.rangeAt b (o+k*3) [.bool y0,.slice a6 y1 c6,.slice a7 y2 c7]):=af ai;have aN:=af aC;have bh:=af aw;have am:((nh ps).take k).length<=30:=by rw [List.length_take];omega
   have aD:=af am;clear aK ai aA ag hq ar aL aw al aC aq hY am;go_wp2_with (with_reducible refine wpList_load_mid rfl 29 _ rfl b (o+k*3) rfl _ _ bf.out Tryz.underlying29 rfl (by kernel_rfl) ?_);rw [<-bh.out];refine (aM.out _ _ bd.out).mono ?_;rintro e w6 ⟨⟨v6,rfl,bi⟩,aF⟩;obtain ⟨u3,u4,rfl,aG,aH⟩:=bi;obtain ⟨a8,c8,rfl⟩:=aG.shape;obtain ⟨a9,c9,rfl⟩:=aH.shape;have aO:=af (az.out.trans (aN.out.trans aF));have aP:=(HO.out.kept (aN.out.trans aF)).kept ((gO.refl w6).alloc (.cells #[.bool Y.neg,.slice a8 Y.num.length c8,.slice a9 Y.den.length c9] 29));have aQ:w2.heap.size<=w6.heap.size:=aO.out.size;have bj:=af aP;have bk:=af (aG.kept ((gO.refl w6).alloc (.cells #[.bool Y.neg,.slice a8 Y.num.length c8,.slice a9 Y.den.length c9] 29)));have bl:=af (aH.kept ((gO.refl w6).alloc (.cells #[.bool Y.neg,.slice a8 Y.num.length c8,.slice a9 Y.den.length c9] 29)));have bo:=af aQ;clear aF aG aH aP aQ q0 q1 q2;go_wp2_with (at_builtin;refine wE rfl _ _ rfl w2.heap.size _ ((nh ps).take k) rfl bj.out w6.heap.size Y _ _ rfl (nW _ _ _ _ _) bk.out bl.out (by have:=aD.out;omega) (by have:=bo.out;simp;omega) ?_;intro v8 w8 ah aR;have bp:=af ah;have bq:=af ((aO.out.alloc _).app aR);clear ah aR);go_roundg (n - (k+1))
   case measure=>omega
   case rel=>exact ⟨k+1,by omega,by go_num,Nat.le_refl _,af (by rw [aB.out];exact bp.out),bq⟩
  ·have a_:¬ (k:Int)<(n:Int):=by omega
   have br:Hid (RatsAt wr u5 (nh ps)):=af (by
    have h:=HO.out.at;rw [List.take_of_length_le (by rw [md];have:=HN.out;omega)] at h;exact h)
   go_wp2_with fail;refine (aJ.out _ _ br.out).mono ?_;rintro e w7 ⟨⟨v7,rfl,aS⟩,aI⟩;obtain ⟨n8,l8,m8,a8,c8,b8,d8,w8,rfl,aT,⟨⟨z0,j0⟩,⟨z1,j1⟩,⟨z2,j2⟩⟩,⟨f0,f1,f2⟩,bz,Y,aU,_,aV⟩:=(HZ.out.kept (az.out.trans aI)).save aS;have aW:=af (aV.out _ (ap.out.trans aI) (Nat.le_refl _));rw [aT] at Y aU aW;clear aS aI aT aV;go_wp2;refine bodyPost_ret (v:=.agg #[.bool n8,.slice a8 l8 c8,.slice b8 m8 d8]) ?_ rfl ⟨⟨_,rfl,aU.out⟩,aW.out⟩;simp [results,Tryz.results54,go_sem,Y.out.1,Y.out.2.1,Y.out.2.2]
theorem OwnRats.at3 {w:World} {B g n cap:Nat} {rs:List Rw} (h:OwnRats w B (.slice (some ⟨g,0,none⟩) n cap) rs) (i:Nat) (hi:i<rs.length):∃ a1 c1 a2 c2,w.cell? ⟨g,i*3,none⟩=some (.bool (rs.getD i default).neg)/\w.cell? ⟨g,i*3+1,none⟩=some (.slice a1 (rs.getD i default).num.length c1)/\w.cell? ⟨g,i*3+2,none⟩=some (.slice a2 (rs.getD i default).den.length c2) /\
  RatAt w (.agg #[.bool (rs.getD i default).neg,.slice a1 (rs.getD i default).num.length c1,.slice a2 (rs.getD i default).den.length c2]) (rs.getD i default):=by
 obtain ⟨b,o,u1,u2,e,h1,h2,h3⟩:=h.at.get i hi;obtain ⟨a1,c1,rfl⟩:=h2.shape;obtain ⟨a2,c2,rfl⟩:=h3.shape;simp only [Option.some.injEq,Addr.mk.injEq,and_true] at e;obtain ⟨rfl,rfl⟩:=e;rw [Nat.zero_add] at h1;have q0:=h1 0 _ rfl;rw [Nat.add_zero] at q0;exact ⟨a1,c1,a2,c2,q0,h1 1 _ rfl,h1 2 _ rfl,_,_,rfl,h2,h3⟩
def sR (ps:List Rw) (k:Nat):List Rw:=(nh ps).take k++ps.drop k
theorem Id {ps:List Rw} {k:Nat} (hk:k<=ps.length):(sR ps k).length=ps.length:=by
 unfold sR;rw [List.length_append,List.length_take,List.length_drop,md];omega
theorem Ic {ps:List Rw} {k:Nat} (hk:k<ps.length):(sR ps k).getD k default=ps.getD k default:=by
 unfold sR;rw [List.getD_eq_getElem?_getD,List.getElem?_append_right (by rw [List.length_take];omega),List.length_take,md,Nat.min_eq_left (by omega),Nat.sub_self,List.getElem?_drop,Nat.add_zero,<-List.getD_eq_getElem?_getD]
theorem Ie {ps:List Rw} {k:Nat} (hk:k<ps.length):(sR ps k).set k (gR (1 - gT (ps.getD k default)))=sR ps (k+1):=by
 unfold sR;have e:((nh ps).take k).length=k:=by rw [List.length_take,md];omega
 rw [List.set_append_right _ _ (by omega),e,Nat.sub_self,zV ps hk,List.drop_eq_getElem_cons hk,List.set_cons_zero,List.append_assoc];rfl
theorem Ib (ps:List Rw):sR ps ps.length=nh ps:=by
 unfold sR;rw [List.take_of_length_le (by rw [md];exact Nat.le_refl _),List.drop_length,List.append_nil]
theorem tJ {f:Nat->Rat} {ss:List Nat} {k:Nat} (hk:k<ss.length):((ss.take (k+1)).map fun s=>gR (f s))=((ss.take k).map fun s=>gR (f s))++[gR (f ss[k])]:=by
 rw [List.take_succ_eq_append_getElem hk,List.map_append];rfl
theorem qV (xv v:Value) (ss:List Nat) (ps:List Rw) (w:World) (hx:gU w xv (ib ss)) (hl:ss.length<=1024) (hm:∀ s∈ss,s<16777216/\oy s<(ps.length:Int)) (hv:RatsAt w v ps) (aw:∀ r∈ps,r.Short 3) (ay:ps.length<=30) :
  Calls Tryz.prog 53 #[xv,v,.bool false] w fun e w'=>(∃ v',e=.returned v'/\RatsAt w' v' (ss.map fun s=>gR (fQ ps s)))/\gO w w':=by
 have aQ:Hid (∀ s W u,s∈ss->RatsAt W u ps->Calls Tryz.prog 104 #[u,.int .i64 s] W fun e w'=>(∃ v',e=.returned v'/\RatAt w' v' (gR (fQ ps s)))/\gO W w'):=af fun s W u hs hu=>by
  have h:=hm s hs;exact oQ s u ps W h.1 hu aw h.2
 have HF:=af hx;have HV:=af hv;have bl:=af aw;obtain ⟨xa,xn,xc,rfl⟩:=hx.shape;obtain ⟨m,ai⟩:∃ m,m=ss.length:=⟨_,rfl⟩
 have aR:xn=m:=by
  obtain ⟨_,_,e,_⟩:=hx;injection e with _ e2 _
  rw [e2,ai];simp [ib]
 subst aR;rw [<-ai] at hl;have HM:=af ai;obtain ⟨pa,pc,rfl⟩:=hv.shape;obtain ⟨n,hn⟩:∃ n,n=ps.length:=⟨_,rfl⟩;rw [<-hn] at HV ay⊢;have HN:=af hn;obtain ⟨w1,aj⟩:∃ w1,w1=w.alloc (.cells #[] 29):=⟨_,rfl⟩;have aS:Hid (OwnRats w1 w.heap.size (.slice (some ⟨w.heap.size,0,none⟩) 0 0) []):=af (by rw [aj];exact OwnRats.new w _ (Nat.le_refl _));have az:Hid (gO w w1):=af (by rw [aj];exact (gO.refl w).alloc _);have aT:=af aj;clear ai hn hx hv aw hm aj;go_enter Tryz.func53,Tryz.ntmps53;go_wp2_with (rw [<-aT.out];at_builtin;refine xZ rfl _ _ rfl w.heap.size _ [] rfl aS.out _ ps rfl (HV.out.kept az.out) (by have:=HN.out;simp;omega) az.out.size ?_;intro qv w2 ag aG;rw [List.nil_append] at ag;have aH:=af (az.out.app aG);obtain ⟨qa,qc,rfl⟩:=ag.at.shape;rw [<-HN.out] at ag⊢;have aI:=af ag;clear ag aG);have aJ:Hid (OwnRats w2 w.heap.size (.slice qa n qc) ps):=aI;have aK:=aH;obtain ⟨w3,aA⟩:∃ w3:World,w3=w2:=⟨_,rfl⟩;have aU:=af aA;rw [<-aA] at aK aJ;clear aA aI aH;go_wp2_with fail;rw [<-aU.out];go_loopg [9,32] xn (fun kx s9 s32 wq=>∃ j:Nat,j<=xn/\s32=.int .i64 j/\xn - j<=kx/\Hid (OwnRats wq w3.heap.size s9 ((ss.take j).map fun s=>gR (fQ ps s)))/\Hid (gO w3 wq))
 case atStart=>exact ⟨0,Nat.zero_le _,rfl,by omega,af (OwnRats.nil _ _),af (gO.refl _)⟩
 case round =>
  obtain ⟨j,hj,rfl,bo,aL,al⟩:=hrel;have aM:=af (aK.out.trans al.out);by_cases aV:j<xn
  ·have aW:(j:Int)<(xn:Int):=by omega
   have am:j<ss.length:=by have:=HM.out;omega
   obtain ⟨b,o,rfl,aB⟩:=HF.out.get j (by simpa [ib] using am);have ap:=tJ (f:=fQ ps) am;obtain ⟨s,aq⟩:∃ s,s=ss[j]:=⟨_,rfl⟩;have e1:(ib ss)[j]'(by simpa [ib] using am)=(s:Int):=by rw [aq];simp [ib]
   rw [e1] at aB;rw [<-aq] at ap;have bp:=aM.out.cell aB;have aN:Hid (∀ W u,RatsAt W u ps->Calls Tryz.prog 104 #[u,.int .i64 s] W fun e w'=>(∃ v',e=.returned v'/\RatAt w' v' (gR (fQ ps s)))/\gO W w'):=af fun W u=>aQ.out s W u (by rw [aq];exact List.getElem_mem _)
   obtain ⟨Y,hY⟩:∃ Y,Y=gR (fQ ps s):=⟨_,rfl⟩;rw [<-hY] at aN ap;have aX:=af ap;have aC:Hid (((ss.take j).map fun s=>gR (fQ ps s)).length<=1024):=af (by rw [List.length_map,List.length_take];omega);clear aB ap aq hY am e1;go_wp2_with fail;refine (aN.out _ _ (aJ.out.at.kept al.out)).mono ?_;rintro e w6 ⟨⟨v6,rfl,aY⟩,ar⟩;obtain ⟨u3,u4,rfl,aD,aF⟩:=aY;obtain ⟨a8,c8,rfl⟩:=aD.shape;obtain ⟨a9,c9,rfl⟩:=aF.shape;have aZ:=af (al.out.trans ar);have aO:=(aL.out.kept ar).kept ((gO.refl w6).alloc (.cells #[.bool Y.neg,.slice a8 Y.num.length c8,.slice a9 Y.den.length c9] 29));have a_:=af (al.out.trans ar).size;have bd:=af aO;have bf:=af (aD.kept ((gO.refl w6).alloc (.cells #[.bool Y.neg,.slice a8 Y.num.length c8,.slice a9 Y.den.length c9] 29)));have bh:=af (aF.kept ((gO.refl w6).alloc (.cells #[.bool Y.neg,.slice a8 Y.num.length c8,.slice a9 Y.den.length c9] 29)));clear ar aD aF aO;go_wp2_with (at_builtin;refine wE rfl _ _ rfl w3.heap.size _ ((ss.take j).map fun s=>gR (fQ ps s)) rfl bd.out w6.heap.size Y _ _ rfl (nW _ _ _ _ _) bf.out bh.out (by have:=aC.out;omega) (by have:=a_.out;simp;omega) ?_;intro v8 w8 ah aP;have bi:=af ah;have bj:=af ((aZ.out.alloc _).app aP);clear ah aP);go_roundg (xn - (j+1))
   case measure=>omega
   case rel=>exact ⟨j+1,by omega,by go_num,Nat.le_refl _,af (by rw [aX.out];exact bi.out),bj⟩
  ·have aW:¬ (j:Int)<(xn:Int):=by omega
   have bk:Hid (RatsAt wr u9 (ss.map fun s=>gR (fQ ps s))):=af (by
    have h:=aL.out.at;rw [List.take_of_length_le (by have:=HM.out;omega)] at h;exact h)
   go_wp2;go_ret;exact ⟨⟨_,rfl,bk.out⟩,aM.out⟩
theorem qW (xv v:Value) (ss:List Nat) (ps:List Rw) (w:World) (hx:gU w xv (ib ss)) (hl:ss.length<=1024) (hm:∀ s∈ss,s<16777216/\oy s<(ps.length:Int)) (hv:RatsAt w v ps) (aF:∀ r∈ps,r.Short 3) (aG:ps.length<=30) (hb:kQ ps=false) :
  Calls Tryz.prog 53 #[xv,v,.bool true] w fun e w'=>(∃ v',e=.returned v'/\RatsAt w' v' (ss.map fun s=>gR (gQ ps s)))/\gO w w':=by
 have bd:Hid (∀ s W u,s∈ss->RatsAt W u (nh ps)->Calls Tryz.prog 104 #[u,.int .i64 s] W fun e w'=>(∃ v',e=.returned v'/\RatAt w' v' (gR (gQ ps s)))/\gO W w'):=af fun s W u hs hu=>by
  have h:=hm s hs;exact oQ s u (nh ps) W h.1 hu (rV hv.ok hb aF (by decide)) (by rw [md];exact h.2)
 have HF:=af hx;have HV:=af hv;have bf:=af aF;obtain ⟨xa,xn,xc,rfl⟩:=hx.shape;obtain ⟨m,ar⟩:∃ m,m=ss.length:=⟨_,rfl⟩
 have bh:xn=m:=by
  obtain ⟨_,_,e,_⟩:=hx;injection e with _ e2 _
  rw [e2,ar];simp [ib]
 subst bh;rw [<-ar] at hl;have HM:=af ar;obtain ⟨pa,pc,rfl⟩:=hv.shape;obtain ⟨n,hn⟩:∃ n,n=ps.length:=⟨_,rfl⟩;rw [<-hn] at HV aG⊢;have HN:=af hn;obtain ⟨w1,aw⟩:∃ w1,w1=w.alloc (.cells #[] 29):=⟨_,rfl⟩;have bi:Hid (OwnRats w1 w.heap.size (.slice (some ⟨w.heap.size,0,none⟩) 0 0) []):=af (by rw [aw];exact OwnRats.new w _ (Nat.le_refl _));have aH:Hid (gO w w1):=af (by rw [aw];exact (gO.refl w).alloc _);have bj:=af aw;clear ar hn hx hv aF hm hb aw;go_enter Tryz.func53,Tryz.ntmps53;go_wp2_with (rw [<-bj.out];at_builtin;refine xZ rfl _ _ rfl w.heap.size _ [] rfl bi.out _ ps rfl (HV.out.kept aH.out) (by have:=HN.out;simp;omega) aH.out.size ?_;intro qv w2 ag aQ;rw [List.nil_append] at ag;have aR:=af (aH.out.app aQ);obtain ⟨qa,qc,rfl⟩:=ag.at.shape;rw [<-HN.out] at ag⊢;have aS:=af ag;clear ag aQ)
 have bk:Hid (∀ k W u,k<ps.length->RatAt W u (ps.getD k default)->Calls Tryz.prog 51 #[u] W fun e w'=>(∃ v',e=.returned v'/\RatAt w' v' (gR (1 - gT (ps.getD k default))))/\gO W w'):=af fun k W u hk k1=>by
  have e:ps.getD k default=ps[k]:=by simp [List.getD_eq_getElem?_getD,hk]
  have h3:=bf.out ps[k] (List.getElem_mem _);rw [<-e] at h3;exact lZ u _ W k1 ⟨Nat.le_trans h3.1 (by omega),Nat.le_trans h3.2 (by omega)⟩
 go_loopg [18] n (fun kx s10 wr=>∃ k:Nat,k<=n/\s10=.int .i64 k/\n - k<=kx/\Hid (OwnRats wr w.heap.size (.slice qa n qc) (sR ps k))/\Hid (gO w wr))
 case atStart=>exact ⟨0,Nat.zero_le _,rfl,by omega,aS,aR⟩
 case round =>
  obtain ⟨k,hk,rfl,bl,HO,aI⟩:=hrel;by_cases bo:k<n
  ·have bp:(k:Int)<(n:Int):=by omega
   have am:k<ps.length:=by have:=HN.out;omega
   have ay:=Id (Nat.le_of_lt am);obtain ⟨g,cap,he,aT,bL,hcap⟩:=HO.out.shape (by intro e;rw [e] at ay;simp at ay;omega);simp only [Value.slice.injEq] at he;obtain ⟨rfl,ap,rfl⟩:=he;clear ap;obtain ⟨a6,c6,a7,c7,x0,x1,x2,hq⟩:=HO.out.at3 k (by omega);rw [Ic am] at x0 x1 x2 hq;obtain ⟨x,aJ⟩:∃ x,x=ps.getD k default:=⟨_,rfl⟩;have aq:=af (Ie am);have aU:Hid (∀ W u,RatAt W u x->Calls Tryz.prog 51 #[u] W fun e w'=>(∃ v',e=.returned v'/\RatAt w' v' (gR (1 - gT x)))/\gO W w'):=af fun W u=>by rw [aJ];exact bk.out k W u am
   rw [<-aJ] at x0 x1 x2 hq aq;obtain ⟨Y,hY⟩:∃ Y,Y=gR (1 - gT x):=⟨_,rfl⟩;rw [<-hY] at aq aU;have HQ:=af hq;have aV:Hid (k<(sR ps k).length/\n=(sR ps k).length):=af ⟨by omega,by rw [ay];exact HN.out⟩;have aK:=af aT;generalize x.neg=y0 at *;generalize x.num.length=y1 at *;generalize x.den.length=y2 at *;clear hq hY aJ am ay aT hcap;go_wp2_with fail;refine (aU.out _ _ HQ.out).mono ?_;rintro e w7 ⟨⟨v7,rfl,bq⟩,al⟩;obtain ⟨u3,u4,rfl,aj,aL⟩:=bq;obtain ⟨a8,c8,rfl⟩:=aj.shape;obtain ⟨a9,c9,rfl⟩:=aL.shape;have z0:=al.cell x0;have z1:=al.cell x1;have z2:=al.cell x2;have ah:=HO.out.kept al;have f0:=ah.free (k*3);have f1:=ah.free (k*3+1);have f2:=ah.free (k*3+2);have hs:=ah.set aV.out.2 k aV.out.1 aj aL;rw [aq.out] at hs;have br:=af hs;have bt:=af ((((aI.out.trans al).store aK.out (k*3) (.bool Y.neg)).store aK.out (k*3+1) (.slice a8 Y.num.length c8)).store aK.out (k*3+2) (.slice a9 Y.den.length c9));clear al aj aL ah hs x0 x1 x2;go_wp2_with fail;go_roundg (n - (k+1))
   case measure=>omega
   case rel=>exact ⟨k+1,by omega,by go_num,Nat.le_refl _,br,bt⟩
  ·have bp:¬ (k:Int)<(n:Int):=by omega
   have aW:Hid (OwnRats wr w.heap.size (.slice qa n qc) (nh ps)):=af (by
    have bw:k=ps.length:=by have:=HN.out;omega
    have h:=HO.out;rw [bw,Ib] at h;exact h)
   obtain ⟨w3,aj⟩:∃ w3:World,w3=wr:=⟨_,rfl⟩;have bz:=af aj;rw [<-aj] at aI aW;clear aj HO hk bl bo aS aR;go_wp2_with fail;rw [<-bz.out];go_loopg [9,32] xn (fun kx s9 s32 wq=>∃ j:Nat,j<=xn/\s32=.int .i64 j/\xn - j<=kx/\Hid (OwnRats wq w3.heap.size s9 ((ss.take j).map fun s=>gR (gQ ps s)))/\Hid (gO w3 wq))
   case atStart=>exact ⟨0,Nat.zero_le _,rfl,by omega,af (OwnRats.nil _ _),af (gO.refl _)⟩
   case round =>
    obtain ⟨j,hj,rfl,bM,aX,az⟩:=hrel;have aY:=af (aI.out.trans az.out);by_cases bA:j<xn
    ·have bB:(j:Int)<(xn:Int):=by omega
     have aA:j<ss.length:=by have:=HM.out;omega
     obtain ⟨b,o,rfl,aM⟩:=HF.out.get j (by simpa [ib] using aA);have aB:=tJ (f:=gQ ps) aA;obtain ⟨s,aC⟩:∃ s,s=ss[j]:=⟨_,rfl⟩;have e1:(ib ss)[j]'(by simpa [ib] using aA)=(s:Int):=by rw [aC];simp [ib]
     rw [e1] at aM;rw [<-aC] at aB;have bN:=aY.out.cell aM;have aZ:Hid (∀ W u,RatsAt W u (nh ps)->Calls Tryz.prog 104 #[u,.int .i64 s] W fun e w'=>(∃ v',e=.returned v'/\RatAt w' v' (gR (gQ ps s)))/\gO W w'):=af fun W u=>bd.out s W u (by rw [aC];exact List.getElem_mem _)
     obtain ⟨Y,hY⟩:∃ Y,Y=gR (gQ ps s):=⟨_,rfl⟩;rw [<-hY] at aZ aB;have aq:=af aB;have aN:Hid (((ss.take j).map fun s=>gR (gQ ps s)).length<=1024):=af (by rw [List.length_map,List.length_take];omega);clear aM aB aC hY aA e1;go_wp2_with fail;refine (aZ.out _ _ (aW.out.at.kept az.out)).mono ?_;rintro e w6 ⟨⟨v6,rfl,bC⟩,aD⟩;obtain ⟨u3,u4,rfl,aO,aP⟩:=bC;obtain ⟨a8,c8,rfl⟩:=aO.shape;obtain ⟨a9,c9,rfl⟩:=aP.shape;have bD:=af (az.out.trans aD);have ah:=(aX.out.kept aD).kept ((gO.refl w6).alloc (.cells #[.bool Y.neg,.slice a8 Y.num.length c8,.slice a9 Y.den.length c9] 29));have bE:=af (az.out.trans aD).size;have bF:=af ah;have bG:=af (aO.kept ((gO.refl w6).alloc (.cells #[.bool Y.neg,.slice a8 Y.num.length c8,.slice a9 Y.den.length c9] 29)));have bH:=af (aP.kept ((gO.refl w6).alloc (.cells #[.bool Y.neg,.slice a8 Y.num.length c8,.slice a9 Y.den.length c9] 29)));clear aD aO aP ah;go_wp2_with (at_builtin;refine wE rfl _ _ rfl w3.heap.size _ ((ss.take j).map fun s=>gR (gQ ps s)) rfl bF.out w6.heap.size Y _ _ rfl (nW _ _ _ _ _) bG.out bH.out (by have:=aN.out;omega) (by have:=bE.out;simp;omega) ?_;intro v8 w8 ai a_;have bI:=af ai;have bJ:=af ((bD.out.alloc _).app a_);clear ai a_);go_roundg (xn - (j+1))
     case measure=>omega
     case rel=>exact ⟨j+1,by omega,by go_num,Nat.le_refl _,af (by rw [aq.out];exact bI.out),bJ⟩
    ·have bB:¬ (j:Int)<(xn:Int):=by omega
     have bK:Hid (RatsAt wr u9 (ss.map fun s=>gR (gQ ps s))):=af (by
      have h:=aX.out.at;rw [List.take_of_length_le (by have:=HM.out;omega)] at h;exact h)
     go_wp2;go_ret;exact ⟨⟨_,rfl,bK.out⟩,aY.out⟩
structure Lx (xs:List Int) (ps:List Rw):Prop where
 ok:ku xs=0
 len:xs.length<=12
 gt:∀ s∈iz xs,s<16777216/\oy s<(ps.length:Int)
 bad:kQ ps=false
theorem nm {xs:List Int} {ps:List Rw} (h:oz xs ps=0):xs=ib (iz xs)/\(iz xs).length<=1024/\(∀ s∈iz xs,s<16777216/\oy s<(ps.length:Int))/\kQ ps=false:=by
 unfold oz at h;by_cases h1:ku xs=0
 ·rw [if_neg (by rw [h1];simp)] at h;obtain ⟨ag,ah⟩:=Ag h1;obtain ⟨ai,aj⟩:=qP ah;by_cases h2:(iz xs).any (fun s=>decide ((ps.length:Int)<=oy s))=true
  ·rw [if_pos h2] at h;cases h
  ·rw [if_neg h2] at h;refine ⟨ai,by unfold iz;rw [List.length_map];exact ag,fun s hs=>⟨by have:=aj s hs;unfold Mk at this;omega,?_⟩,?_⟩
   ·have h3:(iz xs).any (fun s=>decide ((ps.length:Int)<=oy s))=false:=by simpa using h2
    rw [List.any_eq_false] at h3;have:=h3 s hs;simp at this;omega
   ·cases hb:kQ ps with
    | false=>rfl
    | true=>rw [hb,if_pos rfl] at h;cases h
 ·rw [if_pos h1] at h;exact absurd h h1
def rS (xs:List Int) (ps:List Rw):Rat:=if oz xs ps=0 then 1 - ir (fQ ps) (iz xs) else 0
def rx (xs:List Int) (ps:List Rw):Rat:=if oz xs ps=0 then ir (gQ ps) (iz xs) else 0
def Dk (xs:List Int) (ps:List Rw):Rat:=if oz xs ps=0 then ik (fQ ps) (iz xs) else 0
def Dt (xs:List Int) (ps:List Rw):Rat:=if oz xs ps=0 then 1 - ik (gQ ps) (iz xs) else 0
theorem jV {f:Nat->Rat} {l:List Nat} (hl:l.length<=1024) (h:∀ s∈l,(gR (f s)).Short 91):(gR (ir f l)).Short 95233:=by
 have h1:=qb (by decide) h l.length (Nat.le_refl _);rw [List.take_length] at h1;exact ⟨Nat.le_trans h1.1 (by omega),Nat.le_trans h1.2 (by omega)⟩
theorem kH {f:Nat->Rat} {l:List Nat} (h:∀ s∈l,(gR (f s)).Short 91):(gR (ik f l)).Short 95233:=by
 have h1:=ro h l.length (Nat.le_refl _);rw [List.take_length] at h1;exact ⟨Nat.le_trans h1.1 (by omega),Nat.le_trans h1.2 (by omega)⟩
theorem uK {r:Rw} (h:r.Short 95233):r.Short 34359738368:=⟨Nat.le_trans h.1 (by omega),Nat.le_trans h.2 (by omega)⟩
theorem yo (xv v:Value) (xs:List Int) (ps:List Rw) (w:World) (hx:gU w xv xs) (hv:RatsAt w v ps) (h3:∀ r∈ps,r.Short 3) (ap:ps.length<=30) :
  Calls Tryz.prog 13 #[xv,v] w fun e w'=>(∃ v',e=.returned (.tuple #[v',iV (oz xs ps)])/\RatAt w' v' (gR (rS xs ps)))/\gO w w':=by
 obtain ⟨Q,hQ⟩:∃ Q,Q=oz xs ps:=⟨_,rfl⟩;have aq:Hid (∀ W,gO w W->Calls Tryz.prog 46 #[xv,v] W fun e w'=>e=.returned (iV Q)/\gO W w'):=af fun W h=>by rw [hQ];exact sd xv v xs ps W (hx.kept h) (hv.kept h) h3
 obtain ⟨w2,ar⟩:∃ w2,w2=w.alloc (.cells #[.bool false,.slice none 0 0,.slice none 0 0] 29):=⟨_,rfl⟩;have HZ:Hid (RatCell w2 w.heap.size ⟨false,[],[]⟩):=af (by rw [ar];exact RatCell.zero w);have aw:Hid (gO w w2):=af (by rw [ar];exact (gO.refl w).alloc _);have aF:=af ar;clear ar;by_cases h0:Q=0
 ·have he:oz xs ps=0:=by rw [<-hQ];exact h0
  obtain ⟨aG,ag,hm,az⟩:=nm he;have hR:rS xs ps=1 - ir (fQ ps) (iz xs):=by unfold rS;rw [if_pos he]
  rw [hR,<-hQ];subst h0;obtain ⟨ss,hss⟩:∃ ss,ss=iz xs:=⟨_,rfl⟩;rw [<-hss] at aG ag hm⊢;subst aG;have aA:∀ s∈ss,(gR (fQ ps s)).Short 91:=fun s _=>oX hv.ok h3 ap s
  have aH:=jV ag aA
  have aI:Hid (∀ W,gO w W->Calls Tryz.prog 48 #[xv,v,.func (.func 49) #[] #[]] W fun e w'=>(∃ v',e=.returned v'/\RatAt w' v' (gR (ir (fQ ps) ss)))/\gO W w'):=af fun W h0 =>
   esnone_any 49 (enters_of Tryz.func49 (by kernel_rfl) rfl) (fQ ps) ss xv v W (hx.kept h0) ag aA (fun s hs W h1=>have h:=h0.trans h1;oE s v ps W (hm s hs).1 (hv.kept h) h3 ap)
  have aJ:Hid (∀ W u,RatAt W u (gR (ir (fQ ps) ss))->Calls Tryz.prog 47 #[u] W fun e w'=>(∃ v',e=.returned v'/\RatAt w' v' (gR (1 - ir (fQ ps) ss)))/\gO W w'):=af fun W u hu=>by
   have h:=np u _ W hu (uK aH);rw [gV] at h;exact h
  obtain ⟨R0,ay⟩:∃ R0,R0=gR (ir (fQ ps) ss):=⟨_,rfl⟩;obtain ⟨R1,aB⟩:∃ R1,R1=gR (1 - ir (fQ ps) ss):=⟨_,rfl⟩;try rw [<-ay] at aI
  try rw [<-ay,<-aB] at aJ
  try rw [<-aB]
  try rw [<-ay]
  clear hQ he hR aA aH ay aB ag hm az hss hx hv h3 ap;rw [kj] at aq⊢;go_enter Tryz.func13,Tryz.ntmps13;go_wp2_with fail;rw [<-aF.out];refine (aq.out _ aw.out).mono ?_;rintro e w3 ⟨rfl,ah⟩;have aK:=af (aw.out.trans ah);have aO:=af (HZ.out.kept ah);clear ah;go_wp2_with fail;refine (aI.out _ aK.out).mono ?_;rintro e w5 ⟨⟨v5,rfl,aL⟩,aC⟩;have aP:=af aL;have aQ:=af (aK.out.trans aC);have aR:=af (aO.out.kept aC);clear aL aC;go_wp2_with fail;refine (aJ.out _ _ aP.out).mono ?_;rintro e w6 ⟨⟨v6,rfl,aM⟩,aD⟩;have aS:=af aM;have aT:=af (aQ.out.trans aD);have aU:=af (aR.out.kept aD);clear aM aD;obtain ⟨n8,l8,m8,a8,c8,b8,d8,w8,rfl,ai,⟨⟨z0,j0⟩,⟨z1,j1⟩,⟨z2,j2⟩⟩,⟨f0,f1,f2⟩,aV,Y,aj,_,al⟩:=aU.out.save aS.out;have am:=af (al.out _ aT.out (Nat.le_refl _));rw [ai] at Y aj am;clear ai al;go_wp2;refine bodyPost_ret (v:=.tuple #[.agg #[.bool n8,.slice a8 l8 c8,.slice b8 m8 d8],.nilIface]) ?_ rfl ⟨⟨_,rfl,aj.out⟩,am.out⟩;simp [results,Tryz.results13,go_sem,Y.out.1,Y.out.2.1,Y.out.2.2]
 ·have hR:rS xs ps=0:=by unfold rS;rw [if_neg (by rw [<-hQ];exact h0)]
  rw [hR,<-hQ];have aW:((Q:Nat):Int)≠0:=by omega
  have aX:(((Q:Nat):Int) != 0)=true:=by simpa using aW
  have aN:iV Q=.iface 60 (.int .i64 Q):=iF h0;rw [aN] at aq⊢;clear hQ hR h0 aN hx hv h3 ap;go_enter Tryz.func13,Tryz.ntmps13;go_wp2_with fail;rw [<-aF.out];refine (aq.out _ aw.out).mono ?_;rintro e w3 ⟨rfl,ah⟩;obtain ⟨n8,l8,m8,a8,c8,b8,d8,w8,he,ai,⟨⟨z0,j0⟩,⟨z1,j1⟩,⟨z2,j2⟩⟩,⟨f0,f1,f2⟩,aV,Y,aj,_,al⟩:=(HZ.out.kept ah).save (RatAt.zero w3);have am:=af (al.out _ (aw.out.trans ah) (Nat.le_refl _));simp only [Value.agg.injEq,Array.mk.injEq,List.cons.injEq,Value.bool.injEq,Value.slice.injEq,and_true] at he;obtain ⟨rfl,⟨rfl,rfl,rfl⟩,rfl,rfl,rfl⟩:=he;rw [ai] at Y aj am;clear ah ai al;go_wp2;refine bodyPost_ret (v:=.tuple #[.agg #[.bool false,.slice none 0 0,.slice none 0 0],.iface 60 (.int .i64 (Q:Nat))]) ?_ rfl ⟨⟨_,rfl,aj.out⟩,am.out⟩;simp [results,Tryz.results13,go_sem,Y.out.1,Y.out.2.1,Y.out.2.2]
theorem uj (xv v:Value) (xs:List Int) (ps:List Rw) (w:World) (hx:gU w xv xs) (hv:RatsAt w v ps) (h3:∀ r∈ps,r.Short 3) (ap:ps.length<=30) :
  Calls Tryz.prog 14 #[xv,v] w fun e w'=>(∃ v',e=.returned (.tuple #[v',.int .i64 (oz xs ps:Nat)])/\RatAt w' v' (gR (rS xs ps)))/\gO w w':=by
 obtain ⟨Q,hQ⟩:∃ Q,Q=oz xs ps:=⟨_,rfl⟩;have aF:Hid (∀ W,gO w W->Calls Tryz.prog 50 #[xv,v] W fun e w'=>e=.returned (.int .i64 (Q:Nat))/\gO W w'):=af fun W h=>by rw [hQ];exact lF xv v xs ps W (hx.kept h) (hv.kept h) h3
 obtain ⟨w2,aq⟩:∃ w2,w2=w.alloc (.cells #[.bool false,.slice none 0 0,.slice none 0 0] 29):=⟨_,rfl⟩;have HZ:Hid (RatCell w2 w.heap.size ⟨false,[],[]⟩):=af (by rw [aq];exact RatCell.zero w);have ar:Hid (gO w w2):=af (by rw [aq];exact (gO.refl w).alloc _);have aG:=af aq;clear aq;by_cases h0:Q=0
 ·have he:oz xs ps=0:=by rw [<-hQ];exact h0
  obtain ⟨aH,ag,hm,ay⟩:=nm he;have hR:rS xs ps=1 - ir (fQ ps) (iz xs):=by unfold rS;rw [if_pos he]
  rw [hR,<-hQ];subst h0;obtain ⟨ss,hss⟩:∃ ss,ss=iz xs:=⟨_,rfl⟩;rw [<-hss] at aH ag hm⊢;subst aH;have az:∀ s∈ss,(gR (fQ ps s)).Short 91:=fun s _=>oX hv.ok h3 ap s
  have aI:=jV ag az;have aP:Hid (∀ W,gO w W->Calls Tryz.prog 53 #[xv,v,.bool false] W fun e w'=>(∃ v',e=.returned v'/\RatsAt w' v' (ss.map fun s=>gR (fQ ps s)))/\gO W w'):=af fun W h=>qV xv v ss ps W (hx.kept h) ag hm (hv.kept h) h3 ap
  have aJ:Hid (∀ W u,RatsAt W u (ss.map fun s=>gR (fQ ps s))->Calls Tryz.prog 52 #[u] W fun e w'=>(∃ v',e=.returned v'/\RatAt w' v' (gR (ir (fQ ps) ss)))/\gO W w'):=af fun W u hu=>pu (fQ ps) ss u W hu ag az
  have aK:Hid (∀ W u,RatAt W u (gR (ir (fQ ps) ss))->Calls Tryz.prog 51 #[u] W fun e w'=>(∃ v',e=.returned v'/\RatAt w' v' (gR (1 - ir (fQ ps) ss)))/\gO W w'):=af fun W u hu=>by
   have h:=lZ u _ W hu (uK aI);rw [gV] at h;exact h
  obtain ⟨R0,aw⟩:∃ R0,R0=gR (ir (fQ ps) ss):=⟨_,rfl⟩;obtain ⟨R1,aA⟩:∃ R1,R1=gR (1 - ir (fQ ps) ss):=⟨_,rfl⟩;try rw [<-aw] at aJ
  try rw [<-aw,<-aA] at aK
  try rw [<-aA]
  try rw [<-aw]
  clear hQ he hR az aI aw aA ag hm ay hss hx hv h3 ap
  skip
  go_enter Tryz.func14,Tryz.ntmps14;go_wp2_with fail;rw [<-aG.out];refine (aF.out _ ar.out).mono ?_;rintro e w3 ⟨rfl,ah⟩;have aL:=af (ar.out.trans ah);have aQ:=af (HZ.out.kept ah);clear ah;go_wp2_with fail;refine (aP.out _ aL.out).mono ?_;rintro e w4 ⟨⟨v4,rfl,aM⟩,aB⟩;have aR:=af aM;have aS:=af (aL.out.trans aB);have aT:=af (aQ.out.kept aB);clear aM aB;go_wp2_with fail;refine (aJ.out _ _ aR.out).mono ?_;rintro e w5 ⟨⟨v5,rfl,aN⟩,aC⟩;have aU:=af aN;have aV:=af (aS.out.trans aC);have aW:=af (aT.out.kept aC);clear aN aC;go_wp2_with fail;refine (aK.out _ _ aU.out).mono ?_;rintro e w6 ⟨⟨v6,rfl,aO⟩,aD⟩;have aX:=af aO;have aY:=af (aV.out.trans aD);have aZ:=af (aW.out.kept aD);clear aO aD;obtain ⟨n8,l8,m8,a8,c8,b8,d8,w8,rfl,ai,⟨⟨z0,j0⟩,⟨z1,j1⟩,⟨z2,j2⟩⟩,⟨f0,f1,f2⟩,a_,Y,aj,_,al⟩:=aZ.out.save aX.out;have am:=af (al.out _ aY.out (Nat.le_refl _));rw [ai] at Y aj am;clear ai al;go_wp2;refine bodyPost_ret (v:=.tuple #[.agg #[.bool n8,.slice a8 l8 c8,.slice b8 m8 d8],.int .i64 0]) ?_ rfl ⟨⟨_,rfl,aj.out⟩,am.out⟩;simp [results,Tryz.results14,go_sem,Y.out.1,Y.out.2.1,Y.out.2.2]
 ·have hR:rS xs ps=0:=by unfold rS;rw [if_neg (by rw [<-hQ];exact h0)]
  rw [hR,<-hQ];have bd:((Q:Nat):Int)≠0:=by omega
  have bh:(((Q:Nat):Int) != 0)=true:=by simpa using bd
  have bf:iV Q=.iface 60 (.int .i64 Q):=iF h0
  skip
  clear hQ hR h0 bf hx hv h3 ap;go_enter Tryz.func14,Tryz.ntmps14;go_wp2_with fail;rw [<-aG.out];refine (aF.out _ ar.out).mono ?_;rintro e w3 ⟨rfl,ah⟩;obtain ⟨n8,l8,m8,a8,c8,b8,d8,w8,he,ai,⟨⟨z0,j0⟩,⟨z1,j1⟩,⟨z2,j2⟩⟩,⟨f0,f1,f2⟩,a_,Y,aj,_,al⟩:=(HZ.out.kept ah).save (RatAt.zero w3);have am:=af (al.out _ (ar.out.trans ah) (Nat.le_refl _));simp only [Value.agg.injEq,Array.mk.injEq,List.cons.injEq,Value.bool.injEq,Value.slice.injEq,and_true] at he;obtain ⟨rfl,⟨rfl,rfl,rfl⟩,rfl,rfl,rfl⟩:=he;rw [ai] at Y aj am;clear ah ai al;go_wp2;refine bodyPost_ret (v:=.tuple #[.agg #[.bool false,.slice none 0 0,.slice none 0 0],.int .i64 (Q:Nat)]) ?_ rfl ⟨⟨_,rfl,aj.out⟩,am.out⟩;simp [results,Tryz.results14,go_sem,Y.out.1,Y.out.2.1,Y.out.2.2]
theorem ym (xv v:Value) (xs:List Int) (ps:List Rw) (w:World) (hx:gU w xv xs) (hv:RatsAt w v ps) (h3:∀ r∈ps,r.Short 3) (aq:ps.length<=30) :
  Calls Tryz.prog 15 #[xv,v] w fun e w'=>(∃ v',e=.returned (.tuple #[v',iV (oz xs ps)])/\RatAt w' v' (gR (rx xs ps)))/\gO w w':=by
 obtain ⟨Q,hQ⟩:∃ Q,Q=oz xs ps:=⟨_,rfl⟩;have ar:Hid (∀ W,gO w W->Calls Tryz.prog 46 #[xv,v] W fun e w'=>e=.returned (iV Q)/\gO W w'):=af fun W h=>by rw [hQ];exact sd xv v xs ps W (hx.kept h) (hv.kept h) h3
 obtain ⟨w2,aw⟩:∃ w2,w2=w.alloc (.cells #[.bool false,.slice none 0 0,.slice none 0 0] 29):=⟨_,rfl⟩;have HZ:Hid (RatCell w2 w.heap.size ⟨false,[],[]⟩):=af (by rw [aw];exact RatCell.zero w);have ay:Hid (gO w w2):=af (by rw [aw];exact (gO.refl w).alloc _);have aD:=af aw;clear aw;by_cases h0:Q=0
 ·have he:oz xs ps=0:=by rw [<-hQ];exact h0
  obtain ⟨aF,ag,hm,ah⟩:=nm he;have hR:rx xs ps=ir (gQ ps) (iz xs):=by unfold rx;rw [if_pos he]
  rw [hR,<-hQ];subst h0;obtain ⟨ss,hss⟩:∃ ss,ss=iz xs:=⟨_,rfl⟩;rw [<-hss] at aF ag hm⊢;subst aF;have aA:∀ s∈ss,(gR (gQ ps s)).Short 91:=fun s _=>qK hv.ok ah h3 aq s
  have aK:=jV ag aA
  have aG:Hid (∀ W,gO w W->Calls Tryz.prog 48 #[xv,v,.func (.func 54) #[] #[]] W fun e w'=>(∃ v',e=.returned v'/\RatAt w' v' (gR (ir (gQ ps) ss)))/\gO W w'):=af fun W h0 =>
   esnone_any 54 (enters_of Tryz.func54 (by kernel_rfl) rfl) (gQ ps) ss xv v W (hx.kept h0) ag aA (fun s hs W h1=>have h:=h0.trans h1;sj s v ps W (hm s hs).1 (hv.kept h) h3 aq ah)
  obtain ⟨R0,az⟩:∃ R0,R0=gR (ir (gQ ps) ss):=⟨_,rfl⟩;obtain ⟨R1,aB⟩:∃ R1,R1=gR (1 - ir (gQ ps) ss):=⟨_,rfl⟩;try rw [<-az] at aG
  try rw [<-az,<-aB] at aU
  try rw [<-aB]
  try rw [<-az]
  clear hQ he hR aA aK az aB ag hm ah hss hx hv h3 aq;rw [kj] at ar⊢;go_enter Tryz.func15,Tryz.ntmps15;go_wp2_with fail;rw [<-aD.out];refine (ar.out _ ay.out).mono ?_;rintro e w3 ⟨rfl,ai⟩;have aH:=af (ay.out.trans ai);have aL:=af (HZ.out.kept ai);clear ai;go_wp2_with fail;refine (aG.out _ aH.out).mono ?_;rintro e w5 ⟨⟨v5,rfl,aI⟩,aC⟩;have aM:=af aI;have aN:=af (aH.out.trans aC);have aO:=af (aL.out.kept aC);clear aI aC;have aP:=aM;have aQ:=aN;have aR:=aO;obtain ⟨n8,l8,m8,a8,c8,b8,d8,w8,rfl,aj,⟨⟨z0,j0⟩,⟨z1,j1⟩,⟨z2,j2⟩⟩,⟨f0,f1,f2⟩,aS,Y,al,_,am⟩:=aR.out.save aP.out;have ap:=af (am.out _ aQ.out (Nat.le_refl _));rw [aj] at Y al ap;clear aj am;go_wp2;refine bodyPost_ret (v:=.tuple #[.agg #[.bool n8,.slice a8 l8 c8,.slice b8 m8 d8],.nilIface]) ?_ rfl ⟨⟨_,rfl,al.out⟩,ap.out⟩;simp [results,Tryz.results15,go_sem,Y.out.1,Y.out.2.1,Y.out.2.2]
 ·have hR:rx xs ps=0:=by unfold rx;rw [if_neg (by rw [<-hQ];exact h0)]
  rw [hR,<-hQ];have aT:((Q:Nat):Int)≠0:=by omega
  have aV:(((Q:Nat):Int) != 0)=true:=by simpa using aT
  have aJ:iV Q=.iface 60 (.int .i64 Q):=iF h0;rw [aJ] at ar⊢;clear hQ hR h0 aJ hx hv h3 aq;go_enter Tryz.func15,Tryz.ntmps15;go_wp2_with fail;rw [<-aD.out];refine (ar.out _ ay.out).mono ?_;rintro e w3 ⟨rfl,ai⟩;obtain ⟨n8,l8,m8,a8,c8,b8,d8,w8,he,aj,⟨⟨z0,j0⟩,⟨z1,j1⟩,⟨z2,j2⟩⟩,⟨f0,f1,f2⟩,aS,Y,al,_,am⟩:=(HZ.out.kept ai).save (RatAt.zero w3);have ap:=af (am.out _ (ay.out.trans ai) (Nat.le_refl _));simp only [Value.agg.injEq,Array.mk.injEq,List.cons.injEq,Value.bool.injEq,Value.slice.injEq,and_true] at he;obtain ⟨rfl,⟨rfl,rfl,rfl⟩,rfl,rfl,rfl⟩:=he;rw [aj] at Y al ap;clear ai aj am;go_wp2;refine bodyPost_ret (v:=.tuple #[.agg #[.bool false,.slice none 0 0,.slice none 0 0],.iface 60 (.int .i64 (Q:Nat))]) ?_ rfl ⟨⟨_,rfl,al.out⟩,ap.out⟩;simp [results,Tryz.results15,go_sem,Y.out.1,Y.out.2.1,Y.out.2.2]
theorem ui (xv v:Value) (xs:List Int) (ps:List Rw) (w:World) (hx:gU w xv xs) (hv:RatsAt w v ps) (h3:∀ r∈ps,r.Short 3) (aq:ps.length<=30) :
  Calls Tryz.prog 16 #[xv,v] w fun e w'=>(∃ v',e=.returned (.tuple #[v',.int .i64 (oz xs ps:Nat)])/\RatAt w' v' (gR (rx xs ps)))/\gO w w':=by
 obtain ⟨Q,hQ⟩:∃ Q,Q=oz xs ps:=⟨_,rfl⟩;have aD:Hid (∀ W,gO w W->Calls Tryz.prog 50 #[xv,v] W fun e w'=>e=.returned (.int .i64 (Q:Nat))/\gO W w'):=af fun W h=>by rw [hQ];exact lF xv v xs ps W (hx.kept h) (hv.kept h) h3
 obtain ⟨w2,ar⟩:∃ w2,w2=w.alloc (.cells #[.bool false,.slice none 0 0,.slice none 0 0] 29):=⟨_,rfl⟩;have HZ:Hid (RatCell w2 w.heap.size ⟨false,[],[]⟩):=af (by rw [ar];exact RatCell.zero w);have aw:Hid (gO w w2):=af (by rw [ar];exact (gO.refl w).alloc _);have aF:=af ar;clear ar;by_cases h0:Q=0
 ·have he:oz xs ps=0:=by rw [<-hQ];exact h0
  obtain ⟨aG,ag,hm,ah⟩:=nm he;have hR:rx xs ps=ir (gQ ps) (iz xs):=by unfold rx;rw [if_pos he]
  rw [hR,<-hQ];subst h0;obtain ⟨ss,hss⟩:∃ ss,ss=iz xs:=⟨_,rfl⟩;rw [<-hss] at aG ag hm⊢;subst aG;have az:∀ s∈ss,(gR (gQ ps s)).Short 91:=fun s _=>qK hv.ok ah h3 aq s
  have aL:=jV ag az;have aM:Hid (∀ W,gO w W->Calls Tryz.prog 53 #[xv,v,.bool true] W fun e w'=>(∃ v',e=.returned v'/\RatsAt w' v' (ss.map fun s=>gR (gQ ps s)))/\gO W w'):=af fun W h=>qW xv v ss ps W (hx.kept h) ag hm (hv.kept h) h3 aq ah
  have aH:Hid (∀ W u,RatsAt W u (ss.map fun s=>gR (gQ ps s))->Calls Tryz.prog 52 #[u] W fun e w'=>(∃ v',e=.returned v'/\RatAt w' v' (gR (ir (gQ ps) ss)))/\gO W w'):=af fun W u hu=>pu (gQ ps) ss u W hu ag az
  obtain ⟨R0,ay⟩:∃ R0,R0=gR (ir (gQ ps) ss):=⟨_,rfl⟩;obtain ⟨R1,aA⟩:∃ R1,R1=gR (1 - ir (gQ ps) ss):=⟨_,rfl⟩;try rw [<-ay] at aH
  try rw [<-ay,<-aA] at a_
  try rw [<-aA]
  try rw [<-ay]
  clear hQ he hR az aL ay aA ag hm ah hss hx hv h3 aq
  skip
  go_enter Tryz.func16,Tryz.ntmps16;go_wp2_with fail;rw [<-aF.out];refine (aD.out _ aw.out).mono ?_;rintro e w3 ⟨rfl,ai⟩;have aI:=af (aw.out.trans ai);have aN:=af (HZ.out.kept ai);clear ai;go_wp2_with fail;refine (aM.out _ aI.out).mono ?_;rintro e w4 ⟨⟨v4,rfl,aJ⟩,aB⟩;have aO:=af aJ;have aP:=af (aI.out.trans aB);have aQ:=af (aN.out.kept aB);clear aJ aB;go_wp2_with fail;refine (aH.out _ _ aO.out).mono ?_;rintro e w5 ⟨⟨v5,rfl,aK⟩,aC⟩;have aR:=af aK;have aS:=af (aP.out.trans aC);have aT:=af (aQ.out.kept aC);clear aK aC;have aU:=aR;have aV:=aS;have aW:=aT;obtain ⟨n8,l8,m8,a8,c8,b8,d8,w8,rfl,aj,⟨⟨z0,j0⟩,⟨z1,j1⟩,⟨z2,j2⟩⟩,⟨f0,f1,f2⟩,aX,Y,al,_,am⟩:=aW.out.save aU.out;have ap:=af (am.out _ aV.out (Nat.le_refl _));rw [aj] at Y al ap;clear aj am;go_wp2;refine bodyPost_ret (v:=.tuple #[.agg #[.bool n8,.slice a8 l8 c8,.slice b8 m8 d8],.int .i64 0]) ?_ rfl ⟨⟨_,rfl,al.out⟩,ap.out⟩;simp [results,Tryz.results16,go_sem,Y.out.1,Y.out.2.1,Y.out.2.2]
 ·have hR:rx xs ps=0:=by unfold rx;rw [if_neg (by rw [<-hQ];exact h0)]
  rw [hR,<-hQ];have aY:((Q:Nat):Int)≠0:=by omega
  have bd:(((Q:Nat):Int) != 0)=true:=by simpa using aY
  have aZ:iV Q=.iface 60 (.int .i64 Q):=iF h0
  skip
  clear hQ hR h0 aZ hx hv h3 aq;go_enter Tryz.func16,Tryz.ntmps16;go_wp2_with fail;rw [<-aF.out];refine (aD.out _ aw.out).mono ?_;rintro e w3 ⟨rfl,ai⟩;obtain ⟨n8,l8,m8,a8,c8,b8,d8,w8,he,aj,⟨⟨z0,j0⟩,⟨z1,j1⟩,⟨z2,j2⟩⟩,⟨f0,f1,f2⟩,aX,Y,al,_,am⟩:=(HZ.out.kept ai).save (RatAt.zero w3);have ap:=af (am.out _ (aw.out.trans ai) (Nat.le_refl _));simp only [Value.agg.injEq,Array.mk.injEq,List.cons.injEq,Value.bool.injEq,Value.slice.injEq,and_true] at he;obtain ⟨rfl,⟨rfl,rfl,rfl⟩,rfl,rfl,rfl⟩:=he;rw [aj] at Y al ap;clear ai aj am;go_wp2;refine bodyPost_ret (v:=.tuple #[.agg #[.bool false,.slice none 0 0,.slice none 0 0],.int .i64 (Q:Nat)]) ?_ rfl ⟨⟨_,rfl,al.out⟩,ap.out⟩;simp [results,Tryz.results16,go_sem,Y.out.1,Y.out.2.1,Y.out.2.2]
theorem uh (xv v:Value) (xs:List Int) (ps:List Rw) (w:World) (hx:gU w xv xs) (hv:RatsAt w v ps) (h3:∀ r∈ps,r.Short 3) (ap:ps.length<=30) :
  Calls Tryz.prog 25 #[xv,v] w fun e w'=>(∃ v',e=.returned (.tuple #[v',.int .i64 (oz xs ps:Nat)])/\RatAt w' v' (gR (Dk xs ps)))/\gO w w':=by
 obtain ⟨Q,hQ⟩:∃ Q,Q=oz xs ps:=⟨_,rfl⟩;have aD:Hid (∀ W,gO w W->Calls Tryz.prog 50 #[xv,v] W fun e w'=>e=.returned (.int .i64 (Q:Nat))/\gO W w'):=af fun W h=>by rw [hQ];exact lF xv v xs ps W (hx.kept h) (hv.kept h) h3
 obtain ⟨w2,aq⟩:∃ w2,w2=w.alloc (.cells #[.bool false,.slice none 0 0,.slice none 0 0] 29):=⟨_,rfl⟩;have HZ:Hid (RatCell w2 w.heap.size ⟨false,[],[]⟩):=af (by rw [aq];exact RatCell.zero w);have ar:Hid (gO w w2):=af (by rw [aq];exact (gO.refl w).alloc _);have aF:=af aq;clear aq;by_cases h0:Q=0
 ·have he:oz xs ps=0:=by rw [<-hQ];exact h0
  obtain ⟨aG,ag,hm,ay⟩:=nm he;have hR:Dk xs ps=ik (fQ ps) (iz xs):=by unfold Dk;rw [if_pos he]
  rw [hR,<-hQ];subst h0;obtain ⟨ss,hss⟩:∃ ss,ss=iz xs:=⟨_,rfl⟩;rw [<-hss] at aG ag hm⊢;subst aG;have az:∀ s∈ss,(gR (fQ ps s)).Short 91:=fun s _=>oX hv.ok h3 ap s
  have aL:=kH az;have aM:Hid (∀ W,gO w W->Calls Tryz.prog 53 #[xv,v,.bool false] W fun e w'=>(∃ v',e=.returned v'/\RatsAt w' v' (ss.map fun s=>gR (fQ ps s)))/\gO W w'):=af fun W h=>qV xv v ss ps W (hx.kept h) ag hm (hv.kept h) h3 ap
  have aH:Hid (∀ W u,RatsAt W u (ss.map fun s=>gR (fQ ps s))->Calls Tryz.prog 67 #[u] W fun e w'=>(∃ v',e=.returned v'/\RatAt w' v' (gR (ik (fQ ps) ss)))/\gO W w'):=af fun W u hu=>oP (fQ ps) ss u W hu ag az
  obtain ⟨R0,aw⟩:∃ R0,R0=gR (ik (fQ ps) ss):=⟨_,rfl⟩;obtain ⟨R1,aA⟩:∃ R1,R1=gR (1 - ik (fQ ps) ss):=⟨_,rfl⟩;try rw [<-aw] at aH
  try rw [<-aw,<-aA] at a_
  try rw [<-aA]
  try rw [<-aw]
  clear hQ he hR az aL aw aA ag hm ay hss hx hv h3 ap
  skip
  go_enter Tryz.func25,Tryz.ntmps25;go_wp2_with fail;rw [<-aF.out];refine (aD.out _ ar.out).mono ?_;rintro e w3 ⟨rfl,ah⟩;have aI:=af (ar.out.trans ah);have aN:=af (HZ.out.kept ah);clear ah;go_wp2_with fail;refine (aM.out _ aI.out).mono ?_;rintro e w4 ⟨⟨v4,rfl,aJ⟩,aB⟩;have aO:=af aJ;have aP:=af (aI.out.trans aB);have aQ:=af (aN.out.kept aB);clear aJ aB;go_wp2_with fail;refine (aH.out _ _ aO.out).mono ?_;rintro e w5 ⟨⟨v5,rfl,aK⟩,aC⟩;have aR:=af aK;have aS:=af (aP.out.trans aC);have aT:=af (aQ.out.kept aC);clear aK aC;have aU:=aR;have aV:=aS;have aW:=aT;obtain ⟨n8,l8,m8,a8,c8,b8,d8,w8,rfl,ai,⟨⟨z0,j0⟩,⟨z1,j1⟩,⟨z2,j2⟩⟩,⟨f0,f1,f2⟩,aX,Y,aj,_,al⟩:=aW.out.save aU.out;have am:=af (al.out _ aV.out (Nat.le_refl _));rw [ai] at Y aj am;clear ai al;go_wp2;refine bodyPost_ret (v:=.tuple #[.agg #[.bool n8,.slice a8 l8 c8,.slice b8 m8 d8],.int .i64 0]) ?_ rfl ⟨⟨_,rfl,aj.out⟩,am.out⟩;simp [results,Tryz.results25,go_sem,Y.out.1,Y.out.2.1,Y.out.2.2]
 ·have hR:Dk xs ps=0:=by unfold Dk;rw [if_neg (by rw [<-hQ];exact h0)]
  rw [hR,<-hQ];have aY:((Q:Nat):Int)≠0:=by omega
  have bd:(((Q:Nat):Int) != 0)=true:=by simpa using aY
  have aZ:iV Q=.iface 60 (.int .i64 Q):=iF h0
  skip
  clear hQ hR h0 aZ hx hv h3 ap;go_enter Tryz.func25,Tryz.ntmps25;go_wp2_with fail;rw [<-aF.out];refine (aD.out _ ar.out).mono ?_;rintro e w3 ⟨rfl,ah⟩;obtain ⟨n8,l8,m8,a8,c8,b8,d8,w8,he,ai,⟨⟨z0,j0⟩,⟨z1,j1⟩,⟨z2,j2⟩⟩,⟨f0,f1,f2⟩,aX,Y,aj,_,al⟩:=(HZ.out.kept ah).save (RatAt.zero w3);have am:=af (al.out _ (ar.out.trans ah) (Nat.le_refl _));simp only [Value.agg.injEq,Array.mk.injEq,List.cons.injEq,Value.bool.injEq,Value.slice.injEq,and_true] at he;obtain ⟨rfl,⟨rfl,rfl,rfl⟩,rfl,rfl,rfl⟩:=he;rw [ai] at Y aj am;clear ah ai al;go_wp2;refine bodyPost_ret (v:=.tuple #[.agg #[.bool false,.slice none 0 0,.slice none 0 0],.int .i64 (Q:Nat)]) ?_ rfl ⟨⟨_,rfl,aj.out⟩,am.out⟩;simp [results,Tryz.results25,go_sem,Y.out.1,Y.out.2.1,Y.out.2.2]
theorem vf (xv v:Value) (xs:List Int) (ps:List Rw) (w:World) (hx:gU w xv xs) (hv:RatsAt w v ps) (h3:∀ r∈ps,r.Short 3) (aq:ps.length<=30) :
  Calls Tryz.prog 27 #[xv,v] w fun e w'=>(∃ v',e=.returned (.tuple #[v',.int .i64 (oz xs ps:Nat)])/\RatAt w' v' (gR (Dt xs ps)))/\gO w w':=by
 obtain ⟨Q,hQ⟩:∃ Q,Q=oz xs ps:=⟨_,rfl⟩;have aF:Hid (∀ W,gO w W->Calls Tryz.prog 50 #[xv,v] W fun e w'=>e=.returned (.int .i64 (Q:Nat))/\gO W w'):=af fun W h=>by rw [hQ];exact lF xv v xs ps W (hx.kept h) (hv.kept h) h3
 obtain ⟨w2,ar⟩:∃ w2,w2=w.alloc (.cells #[.bool false,.slice none 0 0,.slice none 0 0] 29):=⟨_,rfl⟩;have HZ:Hid (RatCell w2 w.heap.size ⟨false,[],[]⟩):=af (by rw [ar];exact RatCell.zero w);have aw:Hid (gO w w2):=af (by rw [ar];exact (gO.refl w).alloc _);have aG:=af ar;clear ar;by_cases h0:Q=0
 ·have he:oz xs ps=0:=by rw [<-hQ];exact h0
  obtain ⟨aH,ag,hm,ah⟩:=nm he;have hR:Dt xs ps=1 - ik (gQ ps) (iz xs):=by unfold Dt;rw [if_pos he]
  rw [hR,<-hQ];subst h0;obtain ⟨ss,hss⟩:∃ ss,ss=iz xs:=⟨_,rfl⟩;rw [<-hss] at aH ag hm⊢;subst aH;have az:∀ s∈ss,(gR (gQ ps s)).Short 91:=fun s _=>qK hv.ok ah h3 aq s
  have aI:=kH az;have aP:Hid (∀ W,gO w W->Calls Tryz.prog 53 #[xv,v,.bool true] W fun e w'=>(∃ v',e=.returned v'/\RatsAt w' v' (ss.map fun s=>gR (gQ ps s)))/\gO W w'):=af fun W h=>qW xv v ss ps W (hx.kept h) ag hm (hv.kept h) h3 aq ah
  have aJ:Hid (∀ W u,RatsAt W u (ss.map fun s=>gR (gQ ps s))->Calls Tryz.prog 67 #[u] W fun e w'=>(∃ v',e=.returned v'/\RatAt w' v' (gR (ik (gQ ps) ss)))/\gO W w'):=af fun W u hu=>oP (gQ ps) ss u W hu ag az
  have aK:Hid (∀ W u,RatAt W u (gR (ik (gQ ps) ss))->Calls Tryz.prog 51 #[u] W fun e w'=>(∃ v',e=.returned v'/\RatAt w' v' (gR (1 - ik (gQ ps) ss)))/\gO W w'):=af fun W u hu=>by
   have h:=lZ u _ W hu (uK aI);rw [gV] at h;exact h
  obtain ⟨R0,ay⟩:∃ R0,R0=gR (ik (gQ ps) ss):=⟨_,rfl⟩;obtain ⟨R1,aA⟩:∃ R1,R1=gR (1 - ik (gQ ps) ss):=⟨_,rfl⟩;try rw [<-ay] at aJ
  try rw [<-ay,<-aA] at aK
  try rw [<-aA]
  try rw [<-ay]
  clear hQ he hR az aI ay aA ag hm ah hss hx hv h3 aq
  skip
  go_enter Tryz.func27,Tryz.ntmps27;go_wp2_with fail;rw [<-aG.out];refine (aF.out _ aw.out).mono ?_;rintro e w3 ⟨rfl,ai⟩;have aL:=af (aw.out.trans ai);have aQ:=af (HZ.out.kept ai);clear ai;go_wp2_with fail;refine (aP.out _ aL.out).mono ?_;rintro e w4 ⟨⟨v4,rfl,aM⟩,aB⟩;have aR:=af aM;have aS:=af (aL.out.trans aB);have aT:=af (aQ.out.kept aB);clear aM aB;go_wp2_with fail;refine (aJ.out _ _ aR.out).mono ?_;rintro e w5 ⟨⟨v5,rfl,aN⟩,aC⟩;have aU:=af aN;have aV:=af (aS.out.trans aC);have aW:=af (aT.out.kept aC);clear aN aC;go_wp2_with fail;refine (aK.out _ _ aU.out).mono ?_;rintro e w6 ⟨⟨v6,rfl,aO⟩,aD⟩;have aX:=af aO;have aY:=af (aV.out.trans aD);have aZ:=af (aW.out.kept aD);clear aO aD;obtain ⟨n8,l8,m8,a8,c8,b8,d8,w8,rfl,aj,⟨⟨z0,j0⟩,⟨z1,j1⟩,⟨z2,j2⟩⟩,⟨f0,f1,f2⟩,a_,Y,al,_,am⟩:=aZ.out.save aX.out;have ap:=af (am.out _ aY.out (Nat.le_refl _));rw [aj] at Y al ap;clear aj am;go_wp2;refine bodyPost_ret (v:=.tuple #[.agg #[.bool n8,.slice a8 l8 c8,.slice b8 m8 d8],.int .i64 0]) ?_ rfl ⟨⟨_,rfl,al.out⟩,ap.out⟩;simp [results,Tryz.results27,go_sem,Y.out.1,Y.out.2.1,Y.out.2.2]
 ·have hR:Dt xs ps=0:=by unfold Dt;rw [if_neg (by rw [<-hQ];exact h0)]
  rw [hR,<-hQ];have bd:((Q:Nat):Int)≠0:=by omega
  have bh:(((Q:Nat):Int) != 0)=true:=by simpa using bd
  have bf:iV Q=.iface 60 (.int .i64 Q):=iF h0
  skip
  clear hQ hR h0 bf hx hv h3 aq;go_enter Tryz.func27,Tryz.ntmps27;go_wp2_with fail;rw [<-aG.out];refine (aF.out _ aw.out).mono ?_;rintro e w3 ⟨rfl,ai⟩;obtain ⟨n8,l8,m8,a8,c8,b8,d8,w8,he,aj,⟨⟨z0,j0⟩,⟨z1,j1⟩,⟨z2,j2⟩⟩,⟨f0,f1,f2⟩,a_,Y,al,_,am⟩:=(HZ.out.kept ai).save (RatAt.zero w3);have ap:=af (am.out _ (aw.out.trans ai) (Nat.le_refl _));simp only [Value.agg.injEq,Array.mk.injEq,List.cons.injEq,Value.bool.injEq,Value.slice.injEq,and_true] at he;obtain ⟨rfl,⟨rfl,rfl,rfl⟩,rfl,rfl,rfl⟩:=he;rw [aj] at Y al ap;clear ai aj am;go_wp2;refine bodyPost_ret (v:=.tuple #[.agg #[.bool false,.slice none 0 0,.slice none 0 0],.int .i64 (Q:Nat)]) ?_ rfl ⟨⟨_,rfl,al.out⟩,ap.out⟩;simp [results,Tryz.results27,go_sem,Y.out.1,Y.out.2.1,Y.out.2.2]
def pt (arg:List Nat):List Nat->List (List Nat)->Option (List (List Nat))
 | _,[]=>some []
 | p,q :: t=>(h_ p arg).bind fun x=>(iN q x).bind fun y=>(pt arg q t).map fun r=>y :: r
def lE (t:List (List Nat)) (arg:List Nat):Option (List (List Nat)):=match t with
 | []=>some []
 | p :: t=>(pt arg p t).map fun r=>p :: r
def mw (t:List (List Nat)) (args:List (List Nat)):Option (List (List Nat)):=args.foldlM lE t
def kT (args:List (List Nat)) (m:Nat):Option (List Nat):=(mw ([0] :: List.replicate m []) args).map fun t=>t.getD m []
theorem DL {arg:List Nat}:∀ {t r:List (List Nat)} {p:List Nat},pt arg p t=some r->r.length=t.length:=by
 intro t;induction t with
 | nil=>intro r p h;cases h;rfl
 | cons q t ih =>
  intro r p h;obtain ⟨x,_,h⟩:=Option.bind_eq_some_iff.1 h;obtain ⟨y,_,h⟩:=Option.bind_eq_some_iff.1 h;obtain ⟨u,hu,h⟩:=Option.map_eq_some_iff.1 h;rw [<-h,List.length_cons,List.length_cons,ih hu]
theorem Bd {arg:List Nat} {t r:List (List Nat)} (h:lE t arg=some r):r.length=t.length:=by
 cases t with
 | nil=>cases h;rfl
 | cons p t =>
  obtain ⟨u,hu,h⟩:=Option.map_eq_some_iff.1 h;rw [<-h,List.length_cons,List.length_cons,DL hu]
theorem GY {arg:List Nat} {s c:Nat}:∀ {t r:List (List Nat)} {p:List Nat} {j:Nat},(up p s ↔ j<=c)->(∀ i (h:i<t.length),(up t[i] s ↔ j+1+i<=c))->pt arg p t=some r ->
  ∀ i (h:i<r.length),(up r[i] s ↔ j+1+i<=c+uT s [arg]):=by
 intro t;induction t with
 | nil=>intro r p j _ _ h i hi;cases h;cases hi
 | cons q t ih =>
  intro r p j hp ht h i hi;obtain ⟨x,hx,h⟩:=Option.bind_eq_some_iff.1 h;obtain ⟨y,hy,h⟩:=Option.bind_eq_some_iff.1 h;obtain ⟨u,hu,h⟩:=Option.map_eq_some_iff.1 h;subst h;have hq:=ht 0 (by simp);cases i with
  | zero =>
   show up y s ↔ _;rw [zS hy,sL hx,hp,show (up q s ↔ _) from hq];simp only [uT];by_cases h1:up arg s
   ·rw [if_pos h1];constructor
    ·rintro (h | ⟨h,_⟩) <;> omega
    ·intro h;exact .inr ⟨by omega,h1⟩
   ·rw [if_neg h1];constructor
    ·rintro (h | ⟨_,h⟩)
     ·omega
     ·exact absurd h h1
    ·intro h;exact .inl (by omega)
  | succ i =>
   have:=ih (j:=j+1) hq (fun i hi=>by
    have:=ht (i+1) (by simpa using hi);rw [show j+1+1+i=j+1+(i+1) by omega];exact this) hu i (by simpa using hi)
   rw [show j+1+(i+1)=j+1+1+i by omega];exact this
theorem Et {arg:List Nat} {s c:Nat} {t r:List (List Nat)} (ht:∀ i (h:i<t.length),(up t[i] s ↔ i<=c)) (h:lE t arg=some r):∀ i (h:i<r.length),(up r[i] s ↔ i<=c+uT s [arg]):=by
 cases t with
 | nil=>cases h;intro i hi;cases hi
 | cons p t =>
  obtain ⟨u,hu,h⟩:=Option.map_eq_some_iff.1 h;subst h;intro i hi;cases i with
  | zero =>
   have h0:=ht 0 (by simp);show up p s ↔ _;rw [show (up p s ↔ _) from h0];exact ⟨fun _=>by omega,fun _=>by omega⟩
  | succ i =>
   have:=GY (j:=0) (ht 0 (by simp)) (fun i hi=>by
    have:=ht (i+1) (by simpa using hi);rw [show 0+1+i=i+1 by omega];exact this) hu i (by simpa using hi)
   rw [show 0+1+i=i+1 by omega] at this;exact this
theorem GX {s:Nat}:∀ {args:List (List Nat)} {t r:List (List Nat)} {c:Nat},(∀ i (h:i<t.length),(up t[i] s ↔ i<=c))->mw t args=some r->r.length=t.length/\∀ i (h:i<r.length),(up r[i] s ↔ i<=c+uT s args):=by
 intro args;induction args with
 | nil=>intro t r c ht h;cases h;exact ⟨rfl,fun i hi=>by simpa [uT] using ht i hi⟩
 | cons a args ih =>
  intro t r c ht h;unfold mw at h;rw [List.foldlM_cons] at h;obtain ⟨u,hu,h⟩:=Option.bind_eq_some_iff.1 h;obtain ⟨h1,h2⟩:=ih (c:=c+uT s [a]) (Et ht hu) h;refine ⟨h1.trans (Bd hu),fun i hi=>?_⟩;rw [h2 i hi];simp only [uT];omega
theorem Eu {args:List (List Nat)} {m:Nat} {l:List Nat} (h:kT args m=some l) (s:Nat):up l s ↔ m<=uT s args:=by
 obtain ⟨r,hr,h⟩:=Option.map_eq_some_iff.1 h
 obtain ⟨h1,h2⟩:=GX (c:=0) (s:=s) (fun i hi=>by
  cases i with
  | zero=>exact ⟨fun _=>by omega,fun _=>xU s⟩
  | succ i =>
   have e:([0] :: List.replicate m ([]:List Nat))[i+1]=[]:=by simp
   rw [e];exact ⟨fun h=>absurd h (BS s),fun h=>by omega⟩) hr
 have hl:m<r.length:=by rw [h1];simp
 have e:r.getD m []=r[m]:=by rw [List.getD_eq_getElem?_getD,List.getElem?_eq_getElem hl];rfl
 rw [<-h,e,h2 m hl];omega
def jy (kind:Int) (k:Int) (fams:List (List Nat)):Option (List Nat) :=
 if kind=0 then some (if k=1 then [] else [0]) else if kind=2 then jo iN [] fams else if kind=3 then jo h_ [0] fams else kT fams (fams.length - k.toNat+1)
def kh (V:Nat) (mark:List Bool) (nodes:List Nd) (out:List (List Nat)) (i:Nat):Option (List (List Nat)) :=
 if mark.getD (V+i) false then (jy (nodes.getD i iZ).kind (nodes.getD i iZ).k ((nodes.getD i iZ).args.map (jz V out))).map fun l=>out.set i l else some out
def i_ (V:Nat) (mark:List Bool) (nodes:List Nd):Nat->Option (List (List Nat))
 | 0=>some (List.replicate nodes.length [])
 | k+1=>(i_ V mark nodes k).bind fun out=>kh V mark nodes out k
theorem Es {kind k:Int} {fams:List (List Nat)} {l:List Nat} (h:jy kind k fams=some l) (hk:kind=0\/kind=2\/kind=3\/kind=4) (h4:kind=4->1<=k/\k<=fams.length) (s:Nat):up l s ↔ su kind k (fams.length - uT s fams) fams.length=false:=by
 have ag:=GT s fams;unfold jy at h;unfold su;rcases hk with rfl | rfl | rfl | rfl
 ·simp only [if_true] at h⊢;by_cases e:k=1
  ·rw [if_pos e] at h;cases h;simp [e,BS]
  ·rw [if_neg e] at h;cases h;simp [e,xU]
 ·simp only [show ¬ (2:Int)=0 by decide,show ¬ (2:Int)=3 by decide,show ¬ (2:Int)=1 by decide,if_true,if_false] at h⊢;rw [Er fams s [] l h,<-IB];simp [BS];omega
 ·simp only [show ¬ (3:Int)=0 by decide,show ¬ (3:Int)=2 by decide,show ¬ (3:Int)=1 by decide,if_true,if_false] at h⊢;rw [BR fams s [0] l h,<-IA];simp [xU];omega
 ·simp only [show ¬ (4:Int)=0 by decide,show ¬ (4:Int)=2 by decide,show ¬ (4:Int)=1 by decide,show ¬ (4:Int)=3 by decide,if_true,if_false] at h⊢;rw [Eu h,decide_eq_false_iff_not];have:=h4 rfl;omega
theorem Av {arg:List Nat}:∀ {t r:List (List Nat)} {p:List Nat},pt arg p t=some r->∀ l∈r,Good l:=by
 intro t;induction t with
 | nil=>intro r p h l hl;cases h;cases hl
 | cons q t ih =>
  intro r p h l hl;obtain ⟨x,hx,h⟩:=Option.bind_eq_some_iff.1 h;obtain ⟨y,hy,h⟩:=Option.bind_eq_some_iff.1 h;obtain ⟨u,hu,h⟩:=Option.map_eq_some_iff.1 h;subst h;rcases List.mem_cons.1 hl with e | e
  ·rw [e];exact tA hy
  ·exact ih hu l e
theorem yv {arg:List Nat} {t r:List (List Nat)} (ht:∀ l∈t,Good l) (h:lE t arg=some r):∀ l∈r,Good l:=by
 cases t with
 | nil=>cases h;exact ht
 | cons p t =>
  obtain ⟨u,hu,h⟩:=Option.map_eq_some_iff.1 h;subst h;intro l hl;rcases List.mem_cons.1 hl with e | e
  ·rw [e];exact ht p (List.mem_cons_self ..)
  ·exact Av hu l e
theorem Au:∀ {args:List (List Nat)} {t r:List (List Nat)},(∀ l∈t,Good l)->mw t args=some r->∀ l∈r,Good l:=by
 intro args;induction args with
 | nil=>intro t r ht h;cases h;exact ht
 | cons a args ih =>
  intro t r ht h;unfold mw at h;rw [List.foldlM_cons] at h;obtain ⟨u,hu,h⟩:=Option.bind_eq_some_iff.1 h;exact ih (yv ht hu) h
theorem Ax (m:Nat):∀ l∈([0] :: List.replicate m ([]:List Nat)),Good l:=fun l hl=>by
 rcases List.mem_cons.1 hl with e | e
 ·rw [e];exact oG 0
 ·rw [(List.mem_replicate.1 e).2];exact oF
theorem sp {kind k:Int} {fams:List (List Nat)} {l:List Nat} (h:jy kind k fams=some l):Good l:=by
 unfold jy at h;split at h
 ·split at h
  ·cases h;exact oF
  ·cases h;exact oG 0
 ·split at h
  ·exact vG _ (fun _ _ _ h=>tA h) _ _ _ oF h
  ·split at h
   ·exact vG _ (fun _ _ _ h=>uY h) _ _ _ (oG 0) h
   ·obtain ⟨r,hr,h⟩:=Option.map_eq_some_iff.1 h;have hg:=Au (Ax _) hr;rw [<-h];rw [List.getD_eq_getElem?_getD];cases e:r[fams.length - k.toNat+1]? with
    | none=>exact oF
    | some x=>exact hg x (List.mem_of_getElem? e)
theorem mO (V:Nat) (mark:List Bool) (nodes:List Nd):∀ k out,i_ V mark nodes k=some out->out.length=nodes.length:=by
 intro k;induction k with
 | zero=>intro out h;cases h;simp
 | succ k ih =>
  intro out h;obtain ⟨o,h1,h2⟩:=Option.bind_eq_some_iff.1 h;unfold kh at h2;split at h2
  ·obtain ⟨l,_,h4⟩:=Option.map_eq_some_iff.1 h2;rw [<-h4,List.length_set,ih o h1]
  ·cases h2;exact ih _ h1
theorem xr (V:Nat) (mark:List Bool) (nodes:List Nd) (m:Nat) (h:i_ V mark nodes m=none):∀ k,m<=k->i_ V mark nodes k=none:=by
 intro k hk;induction k with
 | zero =>
      have:m=0:=by omega
      subst this;exact h
 | succ k ih =>
  by_cases e:m=k+1
  ·subst e;exact h
  ·unfold i_;rw [ih (by omega)];rfl
def wP (s:Nat):Nat:=iH 16777215 s
theorem mM (s i:Nat) (hi:i<24):(wP s).testBit i=!s.testBit i:=by
 unfold wP;rw [lg,show (16777215:Nat)=2^24 - 1 from rfl,Nat.testBit_two_pow_sub_one];simp [hi]
theorem BT (V T s:Nat) (f:Fm) (ai:Ok f V T) (mark:List Bool) (ag:∀ i (hi:i<f.nodes.length),mark.getD (V+i) false=true->f.nodes[i].kind=0\/f.nodes[i].kind=2\/f.nodes[i].kind=3\/f.nodes[i].kind=4)
  (aq:∀ i (hi:i<f.nodes.length),mark.getD (V+i) false=true->∀ a∈f.nodes[i].args,mark.getD a.toNat false=true) :
  ∀ k out,k<=f.nodes.length->i_ V mark f.nodes k=some out->∀ i,i<k->mark.getD (V+i) false=true->(up (out.getD i []) (wP s) ↔ (jf V s f.nodes k).getD (V+i) false=false):=by
 intro k;induction k with
 | zero=>intro out _ _ i hi;omega
 | succ k ih =>
  intro out hk h i hi hm;obtain ⟨o,h1,h2⟩:=Option.bind_eq_some_iff.1 h;have ah:k<f.nodes.length:=by omega
  have am:f.nodes.getD k iZ=f.nodes[k]:=by simp [List.getD_eq_getElem?_getD,ah]
  have aw:=mO V mark f.nodes k o h1
  have hold:∀ i,i<k->mark.getD (V+i) false=true->(up (o.getD i []) (wP s) ↔ (jf V s f.nodes (k+1)).getD (V+i) false=false):=fun i hi hm=>by
   rw [oi V s f.nodes k (k+1) (V+i) (by omega) (by omega)];exact ih o (by omega) h1 i hi hm
  unfold kh at h2;rw [am] at h2;by_cases e:i=k
  ·subst e;rw [if_pos hm] at h2;obtain ⟨l,hl,h4⟩:=Option.map_eq_some_iff.1 h2;subst h4;rw [List.getD_eq_getElem?_getD,List.getElem?_set_self (by omega)];show up l (wP s) ↔ _
   have aj:(jf V s f.nodes (i+1)).getD (V+i) false=su f.nodes[i].kind f.nodes[i].k (kq (jf V s f.nodes i) f.nodes[i].args) f.nodes[i].args.length:=by
    show (jf V s f.nodes i++_).getD (V+i) false=_;rw [List.getD_eq_getElem?_getD,List.getElem?_append_right (by rw [nM];omega),nM,Nat.sub_self,am];rfl
   have al:∀ bs:List Int,(∀ a∈bs,(0<=a/\a<(V:Int)+i)/\mark.getD a.toNat false=true)->uT (wP s) (bs.map (jz V o))+kq (jf V s f.nodes i) bs=bs.length:=by
    intro bs;induction bs with
    | nil=>intro _;rfl
    | cons a bs iha =>
     intro ha;have h3:=ha a (List.mem_cons_self ..);have ih2:=iha fun x hx=>ha x (List.mem_cons_of_mem _ hx)
     simp only [List.map_cons,uT,kq,List.length_cons]
     have key:up (jz V o a) (wP s) ↔ (jf V s f.nodes i).getD a.toNat false=false:=by
      obtain ⟨A,rfl⟩:=Int.eq_ofNat_of_zero_le h3.1.1;simp only [Int.toNat_natCast] at h3⊢;unfold jz;by_cases ar:A<V
      ·have:=ai.v24;rw [if_pos (by omega),oh V s f.nodes i A ar];constructor
       ·rintro ⟨t,ht,ap⟩;simp at ht;subst ht;rw [Cv,mM s A (by omega)] at ap;simpa using ap
       ·intro hb;exact ⟨2^A,by simp,by rw [Cv,mM s A (by omega),hb];rfl⟩
      ·rw [if_neg (by omega),show ((A:Int) - (V:Int)).toNat=A - V by omega];have:=ih o (by omega) h1 (A - V) (by omega) (by rw [show V+(A - V)=A by omega];exact h3.2);rw [show V+(A - V)=A by omega] at this;exact this
     by_cases hu:up (jz V o a) (wP s)
     ·rw [if_pos hu,key.1 hu];simp;omega
     ·rw [if_neg hu];cases hv:(jf V s f.nodes i).getD a.toNat false with
      | false=>exact absurd (key.2 hv) hu
      | true=>simp;omega
   have hc:=al f.nodes[i].args (fun a ha=>⟨ai.args i ah a ha,aq i ah hm a ha⟩)
   rw [Es hl (ag i ah hm) (fun h4=>by
    have:=ai.arity i ah;unfold mF at this;rw [if_neg (by omega),if_pos h4] at this;rw [List.length_map];split at this
    ·omega
    ·cases this) (wP s),aj,List.length_map]
   rw [show f.nodes[i].args.length - uT (wP s) (f.nodes[i].args.map (jz V o))=kq (jf V s f.nodes i) f.nodes[i].args by omega]
  ·split at h2
   ·obtain ⟨l,hl,h4⟩:=Option.map_eq_some_iff.1 h2;subst h4;rw [List.getD_eq_getElem?_getD,List.getElem?_set_ne (by omega),<-List.getD_eq_getElem?_getD];exact hold i (by omega) hm
   ·cases h2;exact hold i (by omega) hm
def mG (V:Nat) (mark:List Bool):Nat->Nat
 | 0=>0
 | k+1=>mG V mark k+if mark.getD (V+k) false=true then 1 else 0
def sC (V:Nat) (mark:List Bool) (a:Int):Int:=if a<V then a else ((V+mG V mark (a - V).toNat:Nat):Int)
def uu (V:Nat) (mark:List Bool) (x:Nd):Nd:=⟨x.kind,x.k,x.args.map (sC V mark)⟩
def iK (V:Nat) (mark:List Bool) (nodes:List Nd):Nat->List Nd
 | 0=>[]
 | k+1=>if mark.getD (V+k) false=true then iK V mark nodes k++[uu V mark (nodes.getD k iZ)] else iK V mark nodes k
theorem nL (V:Nat) (mark:List Bool) (nodes:List Nd):∀ k,(iK V mark nodes k).length=mG V mark k:=by
 intro k;induction k with
 | zero=>rfl
 | succ k ih=>unfold iK mG;split <;> simp [ih]
theorem Ck (V:Nat) (mark:List Bool):∀ k,mG V mark k<=k:=by
 intro k;induction k with
 | zero=>exact Nat.le_refl _
 | succ k ih=>unfold mG;split <;> omega
theorem CR (V:Nat) (mark:List Bool) {i:Nat}:∀ k,i<=k->mG V mark i<=mG V mark k:=by
 intro k;induction k with
 | zero=>intro h;rw [show i=0 by omega];exact Nat.le_refl _
 | succ k ih =>
  intro h;by_cases e:i=k+1
  ·rw [e];exact Nat.le_refl _
  ·have:=ih (by omega);rw [mG];omega
theorem Cl (V:Nat) (mark:List Bool) {i k:Nat} (h:i<k) (hm:mark.getD (V+i) false=true):mG V mark i<mG V mark k:=by
 have h1:=CR V mark (i:=i+1) k h;rw [mG,if_pos hm] at h1;omega
def pm (V:Nat) (mark:List Bool) (out:List (List Nat)):Nat->List (List Nat)
 | 0=>[]
 | k+1=>if mark.getD (V+k) false=true then pm V mark out k++[out.getD k []] else pm V mark out k
theorem vV (V:Nat) (mark:List Bool) (out:List (List Nat)) (k:Nat):pm V mark out (k+1)=if mark.getD (V+k) false=true then pm V mark out k++[out.getD k []] else pm V mark out k:=rfl
theorem tF (V:Nat) (mark:List Bool) (out:List (List Nat)):∀ k,(pm V mark out k).length=mG V mark k:=by
 intro k;induction k with
 | zero=>rfl
 | succ k ih=>unfold pm mG;split <;> simp [ih]
theorem yY {V:Nat} {mark:List Bool} {out:List (List Nat)} {i:Nat} (hm:mark.getD (V+i) false=true):∀ k,i<k->(pm V mark out k).getD (mG V mark i) []=out.getD i []:=by
 intro k;induction k with
 | zero=>intro h;omega
 | succ k ih =>
  intro h;by_cases e:i=k
  ·subst e;unfold pm;rw [if_pos hm,List.getD_eq_getElem?_getD,List.getElem?_append_right (by rw [tF];exact Nat.le_refl _),tF,Nat.sub_self];rfl
  ·have h1:=ih (by omega);unfold pm;split
   ·rw [List.getD_eq_getElem?_getD,List.getElem?_append_left (by rw [tF];exact Cl V mark (by omega) hm),<-List.getD_eq_getElem?_getD];exact h1
   ·exact h1
theorem Gf {V:Nat} {mark:List Bool} {out:List (List Nat)} {j:Nat} {l:List Nat}:∀ k,k<=j->pm V mark (out.set j l) k=pm V mark out k:=by
 intro k;induction k with
 | zero=>intro _;rfl
 | succ k ih =>
  intro h;unfold pm;rw [ih (by omega)];split
  ·rw [List.getD_eq_getElem?_getD,List.getElem?_set_ne (by omega),<-List.getD_eq_getElem?_getD]
  ·rfl
def jj (V:Nat):List (List Nat):=(List.range V).map fun i=>[2^i]
theorem sE {V i:Nat} (h:i<V) (t:List (List Nat)):(jj V++t).getD i []=[2^i]:=by
 rw [List.getD_eq_getElem?_getD,List.getElem?_append_left (by simp [jj];exact h)];simp [jj,h]
theorem pz {V i:Nat} (t:List (List Nat)):(jj V++t).getD (V+i) []=t.getD i []:=by
 rw [List.getD_eq_getElem?_getD,List.getElem?_append_right (by simp [jj]),List.getD_eq_getElem?_getD];simp [jj]
def mC (l:List (List Nat)) (x:Nd):Option (List (List Nat)):=(jy x.kind x.k (x.args.map fun a=>l.getD a.toNat [])).map fun r=>l++[r]
def mT (V:Nat) (nodes:List Nd):Option (List (List Nat)):=nodes.foldlM mC (jj V)
theorem Fe {V:Nat} {mark:List Bool} {out:List (List Nat)} {k:Nat} (args:List Int) (h:∀ a∈args,(0<=a/\a<(V:Int)+k)/\mark.getD a.toNat false=true) :
  (args.map (sC V mark)).map (fun a=>(jj V++pm V mark out k).getD a.toNat [])=args.map (jz V out):=by
 rw [List.map_map];refine List.map_congr_left fun a ha=>?_
 obtain ⟨⟨h0,h1⟩,hm⟩:=h a ha;obtain ⟨A,rfl⟩:=Int.eq_ofNat_of_zero_le h0;simp only [Function.comp,sC,jz,Int.toNat_natCast] at hm⊢;by_cases ag:A<V
 ·rw [if_pos (by omega),if_pos (by omega),Int.toNat_natCast,sE ag]
 ·rw [if_neg (by omega),if_neg (by omega),Int.toNat_natCast,pz,show ((A:Int) - (V:Int)).toNat=A - V by omega];exact yY (by rw [show V+(A - V)=A by omega];exact hm) k (by omega)
theorem GO {V:Nat} {mark:List Bool} {nodes:List Nd} (ag:∀ i (h:i<nodes.length),∀ a∈nodes[i].args,0<=a/\a<(V:Int)+i) (ah:∀ i (hi:i<nodes.length),mark.getD (V+i) false=true->∀ a∈nodes[i].args,mark.getD a.toNat false=true) :
  ∀ k,k<=nodes.length->mT V (iK V mark nodes k)=(i_ V mark nodes k).map fun out=>jj V++pm V mark out k:=by
 intro k;induction k with
 | zero=>intro _;simp [mT,iK,i_,pm]
 | succ k ih =>
  intro hk;have ih:=ih (by omega);have ai:nodes.getD k iZ=nodes[k]:=by simp [List.getD_eq_getElem?_getD,show k<nodes.length by omega]
  unfold iK;by_cases hm:mark.getD (V+k) false=true
  ·rw [if_pos hm];unfold mT at ih⊢;rw [List.foldlM_append,ih];show _=((i_ V mark nodes k).bind fun out=>kh V mark nodes out k).map _;cases h1:i_ V mark nodes k with
   | none=>rfl
   | some out =>
    have aj:=mO V mark nodes k out h1;simp only [Option.map_some,Option.bind_some,Option.bind_eq_bind,List.foldlM_cons,List.foldlM_nil];unfold mC kh;rw [if_pos hm,ai];simp only [uu];rw [Fe _ (fun a ha=>⟨ag k (by omega) a ha,ah k (by omega) hm a ha⟩)];cases h2:jy nodes[k].kind nodes[k].k (nodes[k].args.map (jz V out)) with
    | none=>rfl
    | some l =>
     simp only [Option.map_some,Option.bind_some];rw [vV,if_pos hm,Gf k (Nat.le_refl _),List.getD_eq_getElem?_getD,List.getElem?_set_self (by omega)];simp [List.append_assoc]
  ·rw [if_neg hm,ih];show _=((i_ V mark nodes k).bind fun out=>kh V mark nodes out k).map _;cases h1:i_ V mark nodes k with
   | none=>rfl
   | some out =>
    simp only [Option.map_some,Option.bind_some];unfold kh;rw [if_neg hm];simp only [Option.map_some];rw [vV,if_neg hm]
def tZ (t:List (List Nat)) (arg:List Nat) (i:Nat):Option (List Nat):=(h_ (t.getD i []) arg).bind (iN (t.getD (i+1) []))
theorem Gj {arg:List Nat}:∀ {t r:List (List Nat)} {p:List Nat},r.length=t.length->(∀ i,i<t.length->tZ (p :: t) arg i=some (r.getD i []))->pt arg p t=some r:=by
 intro t;induction t with
 | nil=>intro r p hl _;rw [List.eq_nil_of_length_eq_zero hl];rfl
 | cons q t ih =>
  intro r p hl h;cases r with
  | nil=>cases hl
  | cons y r =>
   have h0:=h 0 (by simp);obtain ⟨x,hx,hy⟩:=Option.bind_eq_some_iff.1 h0;have h1:=ih (r:=r) (p:=q) (by simpa using hl) fun i hi=>h (i+1) (by simpa using hi)
   simp only [List.getD_cons_zero,List.getD_cons_succ] at hx hy;unfold pt;rw [hx];simp only [Option.bind_some];rw [hy];simp only [Option.bind_some];rw [h1];rfl
theorem Bc {arg:List Nat}:∀ {t:List (List Nat)} {p:List Nat} {i:Nat},i<t.length->tZ (p :: t) arg i=none->pt arg p t=none:=by
 intro t;induction t with
 | nil=>intro p i h;cases h
 | cons q t ih =>
  intro p i hi h;unfold pt;cases hx:h_ p arg with
  | none=>rfl
  | some x =>
   simp only [Option.bind_some];cases hy:iN q x with
   | none=>rfl
   | some y =>
    simp only [Option.bind_some];cases i with
    | zero =>
     unfold tZ at h;simp only [List.getD_cons_zero,List.getD_cons_succ] at h;rw [hx] at h;simp only [Option.bind_some] at h;rw [hy] at h;cases h
    | succ i =>
     have h1:pt arg q t=none:=ih (i:=i) (by simpa using hi) h;rw [h1];rfl
theorem DM {arg:List Nat} {t r:List (List Nat)} (hl:r.length=t.length) (h0:0<t.length) (hz:r.getD 0 []=t.getD 0 []) (h:∀ i,i+1<t.length->tZ t arg i=some (r.getD (i+1) [])):lE t arg=some r:=by
 cases t with
 | nil=>cases h0
 | cons p t =>
  cases r with
  | nil=>cases hl
  | cons y r =>
   have e:y=p:=hz;subst e;unfold lE;simp only [];rw [Gj (r:=r) (by simpa using hl) fun i hi=>h i (by simpa using hi)];rfl
theorem mQ {arg:List Nat} {t:List (List Nat)} {i:Nat} (hi:i+1<t.length) (h:tZ t arg i=none):lE t arg=none:=by
 cases t with
 | nil=>cases hi
 | cons p t =>
  unfold lE;simp only [];rw [Bc (i:=i) (by simpa using hi) h];rfl
theorem tY {t:List (List Nat)} {args:List (List Nat)} {k:Nat} (hk:k<args.length):mw t (args.take (k+1))=(mw t (args.take k)).bind fun r=>lE r args[k]:=by
 unfold mw;rw [List.take_succ_eq_append_getElem hk,List.foldlM_append];simp [Option.bind_eq_bind]
theorem nU {t:List (List Nat)} {args:List (List Nat)} {k:Nat} (h:mw t (args.take k)=none):mw t args=none:=by
 unfold mw at *;rw [<-List.take_append_drop k args,List.foldlM_append,h];rfl
end Go.Proofs.YtofibjflkebkpaaGreatDoor
