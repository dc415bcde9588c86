import Derived.Test.YtofibjflkebkpaaGreatDoorEQ6
set_option maxRecDepth 100000
set_option maxHeartbeats 16000000
namespace Go.Proofs.YtofibjflkebkpaaGreatDoor
open Go.RowKit
theorem ji (v:Value) (r:Rw) (w:World) (hv:RatAt w v r) (hs:r.Short 137438953472):Calls Tryz.prog 162 #[v] w fun e w'=>(∃ u1 u2,e=.returned (.tuple #[.bool (gP r).1,u1,u2])/\WdsAt w' u1 (gP r).2.1/\WdsAt w' u2 (gP r).2.2)/\gO w w':=by
 have ah:=af (fun W (hk:gO w W)=>qZ v r W (hv.kept hk) hs);obtain ⟨neg,num,den⟩:=r;obtain ⟨u1,u2,rfl,h1,h2⟩:=hv;simp only at h1 h2;obtain ⟨a1,c1,rfl⟩:=h1.shape;obtain ⟨a2,c2,rfl⟩:=h2.shape;obtain ⟨n1,aj⟩:∃ n1,n1=num.length:=⟨_,rfl⟩;obtain ⟨n2,ap⟩:∃ n2,n2=den.length:=⟨_,rfl⟩;rw [<-aj] at h1 ah⊢;rw [<-ap] at h2 ah⊢;have H1:=af h1;have H2:=af h2;obtain ⟨w1,aq⟩:∃ w1,w1=w.alloc (.cells #[.bool neg,.slice a1 n1 c1,.slice a2 n2 c2] 29):=⟨_,rfl⟩;have HR:Hid (gS w1 w.heap.size 29 [.bool neg,.slice a1 n1 c1,.slice a2 n2 c2]):=af (by rw [aq];exact gS.made w #[.bool neg,.slice a1 n1 c1,.slice a2 n2 c2] 29);have al:Hid (gO w w1):=af (by rw [aq];exact (gO.refl w).alloc _);have q0:=HR.out.cell (i:=0) (by simp);have q1:=HR.out.cell (i:=1) (by simp);have q2:=HR.out.cell (i:=2) (by simp);simp only [List.getElem_cons_succ,List.getElem_cons_zero] at q0 q1 q2;have ar:=af aq;clear aq;by_cases hg:iW ⟨neg,num,den⟩=true/\num≠[]
 ·have hP:gP ⟨neg,num,den⟩=(neg,num,den):=by unfold gP;rw [if_pos hg]
  rw [hP];rw [hg.1] at ah
  have ay:((n1:Int) == 0)=false:=by
   have:n1≠0:=fun h=>hg.2 (List.eq_nil_of_length_eq_zero (aj.symm.trans h))
   simp;exact this
  clear h1 h2 hP hg aj ap hs;go_enter Tryz.func162,Tryz.ntmps162;go_wp2_with fail;rw [<-ar.out];refine (ah.out _ al.out).mono ?_;rintro e w2 ⟨rfl,ag⟩;have y0:=ag.cell q0;have y1:=ag.cell q1;have y2:=ag.cell q2;have ai:=af (al.out.trans ag);clear ag q0 q1 q2;go_wp2_with fail;go_quiet (fail);go_wp2;go_ret3;exact ⟨⟨_,_,rfl,H1.out.kept (ai.out.drewN _),H2.out.kept (ai.out.drewN _)⟩,ai.out.drewN _⟩
 ·have hP:gP ⟨neg,num,den⟩=(false,[],[1]):=by unfold gP;rw [if_neg hg]
  rw [hP];by_cases am:iW ⟨neg,num,den⟩=true
  ·have h0:n1=0:=by
    rw [aj];by_cases h:num=[]
    ·rw [h];rfl
    ·exact absurd ⟨am,h⟩ hg
   rw [am] at ah;subst h0;clear h1 h2 hP hg aj ap hs am;go_enter Tryz.func162,Tryz.ntmps162;go_wp2_with fail;rw [<-ar.out];refine (ah.out _ al.out).mono ?_;rintro e w2 ⟨rfl,ag⟩;have y1:=ag.cell q1;have ai:=af (al.out.trans ag);clear ag q0 q1 q2;go_wp2;go_ret3;exact ⟨⟨_,_,rfl,WdsAt.nil _,re _ 1 (by omega)⟩,ai.out.alloc _⟩
  ·have aw:iW ⟨neg,num,den⟩=false:=by simpa using am
   rw [aw] at ah;clear h1 h2 hP hg aj ap hs am aw;go_enter Tryz.func162,Tryz.ntmps162;go_wp2_with fail;rw [<-ar.out];refine (ah.out _ al.out).mono ?_;rintro e w2 ⟨rfl,ag⟩;have ai:=af (al.out.trans ag);clear ag q0 q1 q2;go_wp2;go_ret3;exact ⟨⟨_,_,rfl,WdsAt.nil _,re _ 1 (by omega)⟩,ai.out.alloc _⟩
theorem k' (neg:Bool) (va vb:Value) (xs ys:List Nat) (w:World) (ha:WdsAt w va xs) (hb:WdsAt w vb ys) (aw:xs.length<=137438953472) (aq:ys.length<=137438953472) (hd:nv ys≠0) :
  Calls Tryz.prog 163 #[.bool neg,va,vb] w fun e w'=>(∃ v,e=.returned (.tuple #[v,.int .i64 0])/\RatAt w' v (nt neg (nv xs) (nv ys)))/\gO w w':=by
 have aD:Hid ((nw (Nat.gcd (nv xs) (nv ys))).length<=137438953472):=af (Nat.le_trans (jk (Nat.le_of_dvd (by omega) (Nat.gcd_dvd_right _ _))) (Nat.le_trans (jY hb.wd) aq));have aF:=af (fun W (hk:gO w W)=>oO vb ys W (hb.kept hk));have HB:=af (fun W (hk:gO w W)=>oO va xs W (ha.kept hk));have HG:=af (fun W (hk:gO w W) (h0:nv xs≠0)=>uk va vb xs ys W (ha.kept hk) (hb.kept hk) aw aq h0)
 have aP:Hid (∀ W vg,gO w W->WdsAt W vg (nw (Nat.gcd (nv xs) (nv ys)))->nv xs≠0->Calls Tryz.prog 225 #[va,vg] W fun e w'=>(∃ v1 v2,e=.returned (.tuple #[v1,v2,.int .i64 0])/\WdsAt w' v1 (nw (nv xs / Nat.gcd (nv xs) (nv ys))))/\gO W w'):=af fun W vg hk hg h0 =>
  (qi va vg xs _ W (ha.kept hk) hg aw (aD.out) h0 (by rw [gW];exact fun h=>hd (Nat.eq_zero_of_gcd_eq_zero_right h))).mono fun _ _ ⟨⟨v1,v2,h1,h2,_⟩,h3⟩=>⟨⟨v1,v2,h1,by rw [gW] at h2;exact h2⟩,h3⟩
 have aQ:Hid (∀ W vg,gO w W->WdsAt W vg (nw (Nat.gcd (nv xs) (nv ys)))->Calls Tryz.prog 225 #[vb,vg] W fun e w'=>(∃ v1 v2,e=.returned (.tuple #[v1,v2,.int .i64 0])/\WdsAt w' v1 (nw (nv ys / Nat.gcd (nv xs) (nv ys))))/\gO W w'):=af fun W vg hk hg =>
  (qi vb vg ys _ W (hb.kept hk) hg aq (aD.out) hd (by rw [gW];exact fun h=>hd (Nat.eq_zero_of_gcd_eq_zero_right h))).mono fun _ _ ⟨⟨v1,v2,h1,h2,_⟩,h3⟩=>⟨⟨v1,v2,h1,by rw [gW] at h2;exact h2⟩,h3⟩
 obtain ⟨a0,c0,rfl⟩:=ha.shape;obtain ⟨a1,c1,rfl⟩:=hb.shape;generalize xs.length=n0 at *;generalize ys.length=n1 at *;obtain ⟨w1,ai⟩:∃ w1,w1=w.alloc (.cells #[.bool false,.slice none 0 0,.slice none 0 0] 29):=⟨_,rfl⟩;have HR:Hid (gS w1 w.heap.size 29 [.bool false,.slice none 0 0,.slice none 0 0]):=af (by rw [ai];exact gS.made w #[.bool false,.slice none 0 0,.slice none 0 0] 29);have ag:Hid (gO w w1):=af (by rw [ai];exact (gO.refl w).alloc _);have aR:Hid (iX w1 w.heap.size [.bool false,.slice none 0 0,.slice none 0 0]):=af (by rw [ai];exact iX.made w #[.bool false,.slice none 0 0,.slice none 0 0] 29);have aG:=af ai;have aH:=af hd;clear ai ha hb aw aq hd;by_cases h0:nv xs=0
 ·have hF:nt neg (nv xs) (nv ys)=⟨false,[],[]⟩:=by unfold nt;rw [if_pos h0]
  rw [hF];have H0:=af h0;clear hF h0;go_enter Tryz.func163,Tryz.ntmps163;go_wp2_with fail;rw [<-aG.out];refine (aF.out _ ag.out).mono ?_;rintro e w2 ⟨⟨kd,rfl,hkd⟩,rfl⟩
  have ay:((kd:Int) == 0)=false:=by
   have:kd≠0:=fun h=>aH.out (hkd.iff0.1 h)
   simp;exact this
  clear hkd;go_wp2_with fail;refine (HB.out _ ag.out).mono ?_;rintro e w2 ⟨⟨k,rfl,hk⟩,rfl⟩;have az:k=0:=hk.iff0.2 H0.out;subst az;clear hk;have g0:=HR.out.cell (i:=0) (by simp);have g1:=HR.out.cell (i:=1) (by simp);have g2:=HR.out.cell (i:=2) (by simp);have f0:=HR.out.free 0;have f1:=HR.out.free 1;have f2:=HR.out.free 2;go_wp2;have hF:=(((HR.out.store 0 (.bool false)).store 1 (.slice none 0 0)).store 2 (.slice none 0 0));have y0:=hF.cell (i:=0) (by simp);have y1:=hF.cell (i:=1) (by simp);have y2:=hF.cell (i:=2) (by simp);simp only [List.set_cons_zero,List.set_cons_succ,List.getElem_cons_succ,List.getElem_cons_zero] at y0 y1 y2;refine bodyPost_ret (v:=.tuple #[.agg #[.bool false,.slice none 0 0,.slice none 0 0],.int .i64 0]) ?_ rfl ⟨⟨_,rfl,RatAt.zero _⟩,?_⟩
  ·simp [results,Tryz.results163,go_sem,y0,y1,y2]
  ·exact ((ag.out.store (Nat.le_refl _) _ _).store (Nat.le_refl _) _ _).store (Nat.le_refl _) _ _
 ·have hF:nt neg (nv xs) (nv ys)=⟨neg,nw (nv xs / Nat.gcd (nv xs) (nv ys)),nw (nv ys / Nat.gcd (nv xs) (nv ys))⟩:=by unfold nt;rw [if_neg h0]
  rw [hF];have H0:=af h0;clear hF h0;generalize nw (nv xs / Nat.gcd (nv xs) (nv ys))=P at *;generalize nw (nv ys / Nat.gcd (nv xs) (nv ys))=Q at *;generalize nw (Nat.gcd (nv xs) (nv ys))=G at *;go_enter Tryz.func163,Tryz.ntmps163;go_wp2_with fail;rw [<-aG.out];refine (aF.out _ ag.out).mono ?_;rintro e w2 ⟨⟨kd,rfl,hkd⟩,rfl⟩
  have ay:((kd:Int) == 0)=false:=by
   have:kd≠0:=fun h=>aH.out (hkd.iff0.1 h)
   simp;exact this
  clear hkd;go_wp2_with fail;refine (HB.out _ ag.out).mono ?_;rintro e w2 ⟨⟨k,rfl,hk⟩,rfl⟩
  have az:((k:Int) == 0)=false:=by
   have:k≠0:=fun h=>H0.out (hk.iff0.1 h)
   simp;exact this
  clear hk;go_wp2_with fail;refine (HG.out _ ag.out H0.out).mono ?_;rintro e w3 ⟨⟨v3,rfl,aI⟩,ar⟩;have aJ:=af aI;have aK:=af (ag.out.trans ar);have aS:=af (HR.out.kept ar);have aA:=af (aR.out.kept ar);clear aI ar az;go_wp2_with fail;refine (aP.out _ _ aK.out aJ.out H0.out).mono ?_;rintro e w4 ⟨⟨v4,v5,rfl,aL⟩,aj⟩;have aT:=af aL;have aB:=af (aJ.out.kept aj);have aM:=af (aK.out.trans aj);have aU:=af (aS.out.kept aj);have aC:=af (aA.out.kept aj);clear aL aj;go_wp2_with fail;refine (aQ.out _ _ aM.out aB.out).mono ?_;rintro e w5 ⟨⟨v6,v7,rfl,aN⟩,al⟩;have aO:=af aN;have am:=af (aT.out.kept al);have aV:=af (aM.out.trans al);have ah:=af (aU.out.kept al);have ap:=af (aC.out.kept al);clear aN al;obtain ⟨a4,c4,rfl⟩:=am.out.shape;obtain ⟨a6,c6,rfl⟩:=aO.out.shape;have g0:=ah.out.cell (i:=0) (by simp);have g1:=ah.out.cell (i:=1) (by simp);have g2:=ah.out.cell (i:=2) (by simp);have f0:=ah.out.free 0;have f1:=ah.out.free 1;have f2:=ah.out.free 2;go_wp2;have hF:=(((ah.out.store 0 (.bool neg)).store 1 (.slice a4 P.length c4)).store 2 (.slice a6 Q.length c6));have y0:=hF.cell (i:=0) (by simp);have y1:=hF.cell (i:=1) (by simp);have y2:=hF.cell (i:=2) (by simp);simp only [List.set_cons_zero,List.set_cons_succ,List.getElem_cons_succ,List.getElem_cons_zero] at y0 y1 y2
  have hO:=(((iq.refl w.heap.size w5).store 0 (.bool neg)).store 1 (.slice a4 P.length c4)).store 2 (.slice a6 Q.length c6);have z1:=am.out.apart ap.out (by simp) hO;have z2:=aO.out.apart ap.out (by simp) hO;refine bodyPost_ret (v:=.tuple #[.agg #[.bool neg,.slice a4 P.length c4,.slice a6 Q.length c6],.int .i64 0]) ?_ rfl ⟨⟨_,rfl,⟨_,_,rfl,z1,z2⟩⟩,?_⟩
  ·simp [results,Tryz.results163,go_sem,y0,y1,y2]
  ·exact ((aV.out.store (Nat.le_refl _) _ _).store (Nat.le_refl _) _ _).store (Nat.le_refl _) _ _
theorem k_ {w:World} {g:Nat} {T:TypeId} {v1 v2:Value} {r:Rw} (C:Obj) (hr:gS w g T [.bool false,.slice none 0 0,.slice none 0 0]) (hf:iX w g [.bool false,.slice none 0 0,.slice none 0 0]) (h1:WdsAt w v1 r.num) (h2:WdsAt w v2 r.den) :
  ((((w.setCell ⟨g,0,none⟩ (.bool r.neg)).setCell ⟨g,1,none⟩ v1).setCell ⟨g,2,none⟩ v2).alloc C).cell? ⟨g,0,none⟩=some (.bool r.neg) /\
  ((((w.setCell ⟨g,0,none⟩ (.bool r.neg)).setCell ⟨g,1,none⟩ v1).setCell ⟨g,2,none⟩ v2).alloc C).cell? ⟨g,1,none⟩=some v1 /\
  ((((w.setCell ⟨g,0,none⟩ (.bool r.neg)).setCell ⟨g,1,none⟩ v1).setCell ⟨g,2,none⟩ v2).alloc C).cell? ⟨g,2,none⟩=some v2 /\
  RatAt ((((w.setCell ⟨g,0,none⟩ (.bool r.neg)).setCell ⟨g,1,none⟩ v1).setCell ⟨g,2,none⟩ v2).alloc C) (.agg #[.bool r.neg,v1,v2]) r:=by
 obtain ⟨y0,y1,y2,ag⟩:=iC hr hf h1 h2;have hk:=(gO.refl (((w.setCell ⟨g,0,none⟩ (.bool r.neg)).setCell ⟨g,1,none⟩ v1).setCell ⟨g,2,none⟩ v2)).alloc C;exact ⟨hk.cell y0,hk.cell y1,hk.cell y2,ag.kept hk⟩
theorem vW (n:Nat) (w:World) (hn:n<9223372036854775808):Calls Tryz.prog 224 #[.int .i64 n] w fun e w'=>(∃ v' xs,e=.returned v'/\WdsAt w' v' xs/\nv xs=n/\xs.length=2)/\gO w w':=by
 obtain ⟨x,hx⟩:∃ x,x=n % 4294967296:=⟨_,rfl⟩;obtain ⟨y,hy⟩:∃ y,y=n / 4294967296:=⟨_,rfl⟩;have ag:x<4294967296:=by omega
 have ah:y<4294967296:=by omega
 have HV:Hid (nv [x,y]=n):=af (by simp [nv];omega);have e0:IntKind.u64.wrap (n:Int)=(n:Int):=by rw [IntKind.wrap_u64];omega
 have e1:IntKind.u32.wrap (n:Int)=(x:Int):=by rw [IntKind.wrap_u32];omega
 have e2:(n:Int) / 4294967296=(y:Int):=by omega
 have e3:IntKind.u32.wrap (y:Int)=(y:Int):=by rw [IntKind.wrap_u32];omega
 have hp:¬ (n:Int)<0:=by omega
 clear hx hy;go_enter Tryz.func224,Tryz.ntmps224;go_wp2;go_ret;exact ⟨⟨_,rfl,[x,y],zU w x y ag ah,HV.out,rfl⟩,(gO.refl _).alloc _⟩
theorem zo (n:Nat) (w:World) (hn:n<9223372036854775808):Calls Tryz.prog 161 #[.int .i64 n,.int .i64 1] w fun e w'=>(∃ v',e=.returned (.tuple #[v',.int .i64 0])/\RatAt w' v' (gR ((n:Int):Rat)))/\gO w w':=by
 have aH:=af (fun W=>vW n W hn);have aI:Hid (∀ W,Calls Tryz.prog 224 #[.int .i64 1] W fun e w'=>(∃ v' xs,e=.returned v'/\WdsAt w' v' xs/\nv xs=1/\xs.length=2)/\gO W w'):=af fun W=>vW 1 W (by omega)
 obtain ⟨R,hR⟩:∃ R,R=gR ((n:Int):Rat):=⟨_,rfl⟩
 have aJ:Hid (∀ W u1 u2 xs ys,WdsAt W u1 xs->WdsAt W u2 ys->nv xs=n->nv ys=1->xs.length=2->ys.length=2->Calls Tryz.prog 163 #[.bool false,u1,u2] W fun e w'=>(∃ v,e=.returned (.tuple #[v,.int .i64 0])/\RatAt w' v R)/\gO W w'):=af fun W u1 u2 xs ys k1 k2 n1 n2 l1 l2=>by
  have h:=k' false u1 u2 xs ys W k1 k2 (by omega) (by omega) (by omega);rw [n1,n2,jA _ _ _ (by omega),show sg false n=(n:Int) from rfl,Rat.mkRat_one,<-hR] at h;exact h
 rw [<-hR];obtain ⟨w2,ai⟩:∃ w2,w2=w.alloc (.cells #[.bool false,.slice none 0 0,.slice none 0 0] 29):=⟨_,rfl⟩;have HR:Hid (gS w2 w.heap.size 29 [.bool false,.slice none 0 0,.slice none 0 0]):=af (by rw [ai];exact gS.made w #[.bool false,.slice none 0 0,.slice none 0 0] 29);have aK:Hid (iX w2 w.heap.size [.bool false,.slice none 0 0,.slice none 0 0]):=af (by rw [ai];exact iX.made w #[.bool false,.slice none 0 0,.slice none 0 0] 29);have aL:Hid (gO w w2):=af (by rw [ai];exact (gO.refl w).alloc _);have aM:=af ai;have aW:¬ (n:Int)<0:=by omega
 clear ai hR;go_enter Tryz.func161,Tryz.ntmps161;go_wp2_with fail;rw [<-aM.out];refine (aH.out _).mono ?_;rintro e w3 ⟨⟨v3,xs,rfl,aw,ay,az⟩,al⟩;have aN:=af aw;have aA:=af (And.intro ay az);have aO:=af (HR.out.kept al);have aP:=af (aK.out.kept al);have aQ:=af (aL.out.trans al);clear aw al ay az;go_wp2_with fail;refine (aI.out _).mono ?_;rintro e w4 ⟨⟨v4,ys,rfl,aB,aC,aD⟩,aj⟩;have aR:=af aB;have aF:=af (And.intro aC aD);have am:=af (aN.out.kept aj);have aS:=af (aO.out.kept aj);have aT:=af (aP.out.kept aj);have aU:=af (aQ.out.trans aj);clear aB aj aC aD;go_wp2_with fail;refine (aJ.out _ _ _ _ _ am.out aR.out aA.out.1 aF.out.1 aA.out.2 aF.out.2).mono ?_;rintro e w10 ⟨⟨v10,rfl,ap⟩,ah⟩;have ag:=aS.out.kept ah;have aq:=af (aT.out.kept ah);have ar:=af (aU.out.trans ah);obtain ⟨u7,u8,rfl,k7,k8⟩:=ap;obtain ⟨a7,c7,rfl⟩:=k7.shape;obtain ⟨a8,c8,rfl⟩:=k8.shape;obtain ⟨y0,y1,y2,aG⟩:=iC ag aq.out k7 k8;have g0:=ag.cell (i:=0) (by simp);have g1:=ag.cell (i:=1) (by simp);have g2:=ag.cell (i:=2) (by simp);have f0:=ag.free 0;have f1:=ag.free 1;have f2:=ag.free 2;have aV:=af aG;have Y0:=af y0;have Y1:=af y1;have Y2:=af y2;clear aG y0 y1 y2 k7 k8 ag ah;generalize R.num.length=n7 at *
 generalize R.den.length=n8 at *;go_wp2;refine bodyPost_ret (v:=.tuple #[.agg #[.bool R.neg,.slice a7 n7 c7,.slice a8 n8 c8],.int .i64 0]) ?_ rfl ⟨⟨_,rfl,aV.out⟩,?_⟩
 ·simp [results,Tryz.results161,go_sem,Y0.out,Y1.out,Y2.out]
 ·exact ((ar.out.store (by omega) _ _).store (by omega) _ _).store (by omega) _ _
theorem pg (n:Nat) (w:World) (hn:n<9223372036854775808):Calls Tryz.prog 102 #[.int .i64 n] w fun e w'=>(∃ v',e=.returned v'/\RatAt w' v' (gR ((n:Int):Rat)))/\gO w w':=by
 have aq:=af (fun W=>zo n W hn);generalize gR ((n:Int):Rat)=R at *;obtain ⟨w2,ai⟩:∃ w2,w2=w.alloc (.cells #[.bool false,.slice none 0 0,.slice none 0 0] 29):=⟨_,rfl⟩;have HR:Hid (gS w2 w.heap.size 29 [.bool false,.slice none 0 0,.slice none 0 0]):=af (by rw [ai];exact gS.made w #[.bool false,.slice none 0 0,.slice none 0 0] 29);have ar:Hid (iX w2 w.heap.size [.bool false,.slice none 0 0,.slice none 0 0]):=af (by rw [ai];exact iX.made w #[.bool false,.slice none 0 0,.slice none 0 0] 29);have aw:Hid (gO w w2):=af (by rw [ai];exact (gO.refl w).alloc _);have ay:=af ai;clear ai;go_enter Tryz.func102,Tryz.ntmps102;go_wp2_with fail;rw [<-ay.out];refine (aq.out _).mono ?_;rintro e w10 ⟨⟨v10,rfl,aj⟩,ah⟩;have ag:=HR.out.kept ah;have al:=af (ar.out.kept ah);have am:=af (aw.out.trans ah);obtain ⟨u7,u8,rfl,k7,k8⟩:=aj;obtain ⟨a7,c7,rfl⟩:=k7.shape;obtain ⟨a8,c8,rfl⟩:=k8.shape;obtain ⟨y0,y1,y2,ap⟩:=k_ (.cells #[.bool R.neg,.slice a7 R.num.length c7,.slice a8 R.den.length c8] 29) ag al.out k7 k8;have aA:=ag.lt;have az:=af ap;have Y0:=af y0;have Y1:=af y1;have Y2:=af y2;have g0:=ag.cell (i:=0) (by simp);have g1:=ag.cell (i:=1) (by simp);have g2:=ag.cell (i:=2) (by simp);have f0:=ag.free 0;have f1:=ag.free 1;have f2:=ag.free 2
 clear ap y0 y1 y2 k7 k8 ag ah;generalize R.num.length=n7 at *;generalize R.den.length=n8 at *;go_wp2;refine bodyPost_ret (v:=.agg #[.bool R.neg,.slice a7 n7 c7,.slice a8 n8 c8]) ?_ rfl ⟨⟨_,rfl,az.out⟩,?_⟩
 ·simp [results,Tryz.results102,go_sem,Y0.out,Y1.out,Y2.out]
 ·exact (((am.out.store (by omega) _ _).store (by omega) _ _).store (by omega) _ _).alloc _
theorem n_ (v:Value) (r:Rw) (w:World) (hv:RatAt w v r) (hs:r.Short 137438953472):Calls Tryz.prog 111 #[v] w fun e w'=>(∃ v',e=.returned v'/\RatAt w' v' (gR (- gT r)))/\gO w w':=by
 have ay:=af (fun W (hk:gO w W)=>ji v r W (hv.kept hk) hs);have aj:=ij hv.ok;have al:=il hs (by omega);obtain ⟨R,hR⟩:∃ R,R=gR (- gT r):=⟨_,rfl⟩
 have az:Hid (∀ W u1 u2,WdsAt W u1 (gP r).2.1->WdsAt W u2 (gP r).2.2->Calls Tryz.prog 163 #[.bool (!(gP r).1),u1,u2] W fun e w'=>(∃ v,e=.returned (.tuple #[v,.int .i64 0])/\RatAt w' v R)/\gO W w'):=af fun W u1 u2 k1 k2=>by
  have h:=k' (!(gP r).1) u1 u2 _ _ W k1 k2 al.1 al.2 aj.2.2.1;rw [jA _ _ _ aj.2.2.1,rH,<-hR] at h;exact h
 rw [<-hR];obtain ⟨u1,u2,rfl,h1,h2⟩:=hv;obtain ⟨a1,c1,rfl⟩:=h1.shape;obtain ⟨a2,c2,rfl⟩:=h2.shape;obtain ⟨w2,am⟩:∃ w2,w2=(w.alloc (.cells #[.bool r.neg,.slice a1 r.num.length c1,.slice a2 r.den.length c2] 29)).alloc (.cells #[.bool false,.slice none 0 0,.slice none 0 0] 29):=⟨_,rfl⟩;have HM:=af (ux w (.cells #[.bool r.neg,.slice a1 r.num.length c1,.slice a2 r.den.length c2] 29));rw [<-am] at HM;have aA:=af am;generalize (gP r).1=s at *;generalize (gP r).2.1=N at *;generalize (gP r).2.2=D at *;generalize r.num.length=n1 at *;generalize r.den.length=n2 at *;generalize r.neg=neg at *;clear aj al hR h1 h2 hs am;go_enter Tryz.func111,Tryz.ntmps111;go_wp2_with fail;rw [<-aA.out];refine (ay.out _ HM.out.2.2).mono ?_;rintro e w3 ⟨⟨u3,u4,rfl,ap,aq⟩,ah⟩;have H3:=af ap;have H4:=af aq;have aB:=af (HM.out.1.kept ah);have aC:=af (HM.out.2.1.kept ah);have aD:=af (HM.out.2.2.trans ah);clear ap aq ah;go_wp2_with fail;refine (az.out _ _ _ H3.out H4.out).mono ?_;rintro e w4 ⟨⟨v4,rfl,ar⟩,ai⟩;have aI:=af ar;have ag:=aB.out.kept ai;have aJ:=af ag;have aF:=af (aC.out.kept ai);have aG:=af (aD.out.trans ai);obtain ⟨u5,u6,rfl,k5,k6⟩:=ar;obtain ⟨a5,c5,rfl⟩:=k5.shape;obtain ⟨a6,c6,rfl⟩:=k6.shape;obtain ⟨y0,y1,y2,aw⟩:=k_ (.cells #[.bool R.neg,.slice a5 R.num.length c5,.slice a6 R.den.length c6] 29) ag aF.out k5 k6
 have aK:=ag.lt;have g0:=ag.cell (i:=0) (by simp);have g1:=ag.cell (i:=1) (by simp);have g2:=ag.cell (i:=2) (by simp);have f0:=ag.free 0;have f1:=ag.free 1;have f2:=ag.free 2;have aH:=af aw;have Y0:=af y0;have Y1:=af y1;have Y2:=af y2;clear aw y0 y1 y2 k5 k6 ag ai;generalize R.num.length=n5 at *;generalize R.den.length=n6 at *;go_wp2;refine bodyPost_ret (v:=.agg #[.bool R.neg,.slice a5 n5 c5,.slice a6 n6 c6]) ?_ rfl ⟨⟨_,rfl,aH.out⟩,?_⟩
 ·simp [results,Tryz.results111,go_sem,Y0.out,Y1.out,Y2.out]
 ·exact (((aG.out.store (by omega) _ _).store (by omega) _ _).store (by omega) _ _).alloc _
theorem sB (v:Value) (r:Rw) (w:World) (hv:RatAt w v r) (hs:r.Short 137438953472):Calls Tryz.prog 121 #[v] w fun e w'=>e=.returned (.int .i64 (kr (gT r)))/\gO w w':=by
 have ap:=af (fun W (hk:gO w W)=>ji v r W (hv.kept hk) hs);obtain ⟨k1,k2⟩:=uL hv.ok;obtain ⟨u1,u2,rfl,h1,h2⟩:=hv;obtain ⟨a1,c1,rfl⟩:=h1.shape;obtain ⟨a2,c2,rfl⟩:=h2.shape;have ai:Hid (gO w (w.alloc (.cells #[.bool r.neg,.slice a1 r.num.length c1,.slice a2 r.den.length c2] 29))):=af ((gO.refl w).alloc _);obtain ⟨ln,aq⟩:∃ ln,ln=(gP r).2.1.length:=⟨_,rfl⟩;have ar:=af aq;rw [<-aq] at k1 k2;obtain ⟨S,hS⟩:∃ S,S=kr (gT r):=⟨_,rfl⟩;rw [<-hS]
 have aj:S=if ln=0 then 0 else if (gP r).1=true then -1 else 1:=by
  rw [hS];unfold kr;by_cases h:ln=0
  ·rw [if_pos h,if_pos (k1.1 h)]
  ·rw [if_neg h,if_neg (fun e=>h (k1.2 e))];by_cases h3:(gP r).1=true
   ·rw [if_pos h3,if_pos ((k2 h).1 h3)]
   ·rw [if_neg h3,if_neg (fun e=>h3 ((k2 h).2 e))]
 generalize (gP r).1=s at *;generalize (gP r).2.1=N at *;generalize (gP r).2.2=D at *;generalize r.num.length=n1 at *;generalize r.den.length=n2 at *;generalize r.neg=neg at *;clear h1 h2 hs hS k1 k2 aq;by_cases h0:ln=0
 ·have hE:S=0:=by rw [aj,if_pos h0]
  subst h0 hE;clear aj;go_enter Tryz.func121,Tryz.ntmps121;go_wp2_with fail;refine (ap.out _ ai.out).mono ?_;rintro e w3 ⟨⟨u3,u4,rfl,ag,al⟩,ah⟩;obtain ⟨a3,c3,rfl⟩:=ag.shape;rw [<-ar.out];have am:=af (ai.out.trans ah);clear ag al ah;go_wp2;go_ret;exact ⟨rfl,am.out⟩
 ·have hb:((ln:Int) == 0)=false:=by simp;exact h0
  cases s with
  | true =>
   have hE:S=-1:=by rw [aj,if_neg h0,if_pos rfl]
   subst hE;clear aj h0;go_enter Tryz.func121,Tryz.ntmps121;go_wp2_with fail;refine (ap.out _ ai.out).mono ?_;rintro e w3 ⟨⟨u3,u4,rfl,ag,al⟩,ah⟩;obtain ⟨a3,c3,rfl⟩:=ag.shape;rw [<-ar.out];have am:=af (ai.out.trans ah);clear ag al ah;go_wp2;go_ret;exact ⟨rfl,am.out⟩
  | false =>
   have hE:S=1:=by rw [aj,if_neg h0,if_neg (by simp)]
   subst hE;clear aj h0;go_enter Tryz.func121,Tryz.ntmps121;go_wp2_with fail;refine (ap.out _ ai.out).mono ?_;rintro e w3 ⟨⟨u3,u4,rfl,ag,al⟩,ah⟩;obtain ⟨a3,c3,rfl⟩:=ag.shape;rw [<-ar.out];have am:=af (ai.out.trans ah);clear ag al ah;go_wp2;go_ret;exact ⟨rfl,am.out⟩
theorem qX (va vb:Value) (r s:Rw) (w:World) (ha:RatAt w va r) (hb:RatAt w vb s) (hr:r.Short 68719476736) (hs:s.Short 68719476736):Calls Tryz.prog 103 #[va,vb] w fun e w'=>(∃ v',e=.returned v'/\RatAt w' v' (gR (gT r*gT s)))/\gO w w':=by
 have aO:=af (fun W (hk:gO w W)=>ji va r W (ha.kept hk) ⟨Nat.le_trans hr.1 (by omega),Nat.le_trans hr.2 (by omega)⟩);have aP:=af (fun W (hk:gO w W)=>ji vb s W (hb.kept hk) ⟨Nat.le_trans hs.1 (by omega),Nat.le_trans hs.2 (by omega)⟩);have ag:=ij ha.ok;have ah:=ij hb.ok;have az:=il hr (by omega);have aA:=il hs (by omega);obtain ⟨R,hR⟩:∃ R,R=gR (gT r*gT s):=⟨_,rfl⟩;obtain ⟨x,hx⟩:∃ x,x=((gP r).1 != (gP s).1):=⟨_,rfl⟩
 have aC:Hid (∀ W u1 u2,WdsAt W u1 (nw (nv (gP r).2.1*nv (gP s).2.1))->WdsAt W u2 (nw (nv (gP r).2.2*nv (gP s).2.2))->Calls Tryz.prog 163 #[.bool x,u1,u2] W fun e w'=>(∃ v,e=.returned (.tuple #[v,.int .i64 0])/\RatAt w' v R)/\gO W w'):=af fun W u1 u2 k1 k2=>by
  have hd:nv (gP r).2.2*nv (gP s).2.2≠0:=Nat.mul_ne_zero ag.2.2.1 ah.2.2.1;have h:=k' x u1 u2 _ _ W k1 k2 (Nat.le_trans (ip ag.1 ah.1) (by omega)) (Nat.le_trans (ip ag.2.1 ah.2.1) (by omega)) (by rw [gW];exact hd);rw [gW,gW,jA _ _ _ hd,hx,rG,<-hR] at h;rw [hx];exact h
 have aQ:Hid (∀ W u1 u2,WdsAt W u1 (gP r).2.1->WdsAt W u2 (gP s).2.1->Calls Tryz.prog 164 #[u1,u2] W fun e w'=>(∃ v',e=.returned v'/\WdsAt w' v' (nw (nv (gP r).2.1*nv (gP s).2.1)))/\gO W w'):=af fun W u1 u2 k1 k2=>jt u1 u2 _ _ W k1 k2 (by omega) (by omega)
 have aR:Hid (∀ W u1 u2,WdsAt W u1 (gP r).2.2->WdsAt W u2 (gP s).2.2->Calls Tryz.prog 164 #[u1,u2] W fun e w'=>(∃ v',e=.returned v'/\WdsAt w' v' (nw (nv (gP r).2.2*nv (gP s).2.2)))/\gO W w'):=af fun W u1 u2 k1 k2=>jt u1 u2 _ _ W k1 k2 (by omega) (by omega)
 rw [<-hR];obtain ⟨u1,u2,rfl,h1,h2⟩:=ha;obtain ⟨u3,u4,rfl,h3,h4⟩:=hb;obtain ⟨a1,c1,rfl⟩:=h1.shape;obtain ⟨a2,c2,rfl⟩:=h2.shape;obtain ⟨a3,c3,rfl⟩:=h3.shape;obtain ⟨a4,c4,rfl⟩:=h4.shape;obtain ⟨w2,ar⟩:∃ w2,w2=((w.alloc (.cells #[.bool r.neg,.slice a1 r.num.length c1,.slice a2 r.den.length c2] 29)).alloc (.cells #[.bool s.neg,.slice a3 s.num.length c3,.slice a4 s.den.length c4] 29)).alloc (.cells #[.bool false,.slice none 0 0,.slice none 0 0] 29):=⟨_,rfl⟩;have HM:=af (jq w (.cells #[.bool r.neg,.slice a1 r.num.length c1,.slice a2 r.den.length c2] 29) (.cells #[.bool s.neg,.slice a3 s.num.length c3,.slice a4 s.den.length c4] 29));rw [<-ar] at HM;have aB:=gS.made (w.alloc (.cells #[.bool r.neg,.slice a1 r.num.length c1,.slice a2 r.den.length c2] 29)) #[.bool s.neg,.slice a3 s.num.length c3,.slice a4 s.den.length c4] 29;simp only [World.size_alloc] at aB;have aS:Hid (gS w2 (w.heap.size+1) 29 [.bool s.neg,.slice a3 s.num.length c3,.slice a4 s.den.length c4]):=af (by rw [ar];exact aB.kept ((gO.refl _).alloc _));have aT:=af ar;generalize nw (nv (gP r).2.1*nv (gP s).2.1)=NM at *;generalize nw (nv (gP r).2.2*nv (gP s).2.2)=DE at *;generalize (gP r).1=s1 at *;generalize (gP s).1=s2 at *;generalize (gP r).2.1=N at *;generalize (gP r).2.2=D at *;generalize (gP s).2.1=M at *;generalize (gP s).2.2=E at *;generalize r.num.length=n1 at *
 generalize r.den.length=n2 at *;generalize s.num.length=n3 at *;generalize s.den.length=n4 at *;generalize r.neg=neg1 at *;generalize s.neg=neg2 at *;have aU:(s1 != s2)=x:=hx.symm;have bz:(s1 == s2)=!x:=by rw [hx];simp [bne]
 clear ag ah az aA hR h1 h2 h3 h4 hr hs ar aB hx;go_enter Tryz.func103,Tryz.ntmps103;go_wp2_with fail;rw [<-aT.out];refine (aO.out _ HM.out.2.2).mono ?_;rintro e w3 ⟨⟨u3,u4,rfl,aD,aF⟩,am⟩;have HN:=af aD;have HD:=af aF;have aV:=af (HM.out.1.kept am);have aW:=af (HM.out.2.1.kept am);have aw:=aS.out.kept am;have g0:=aw.cell (i:=0) (by simp);have g1:=aw.cell (i:=1) (by simp);have g2:=aw.cell (i:=2) (by simp);simp only [List.getElem_cons_succ,List.getElem_cons_zero] at g0 g1 g2;have aG:=af (HM.out.2.2.trans am);clear aD aF am aw;go_wp2_with fail;refine (aP.out _ aG.out).mono ?_;rintro e w4 ⟨⟨u5,u6,rfl,aH,aI⟩,aj⟩;have HN':=af (HN.out.kept aj);have HD':=af (HD.out.kept aj);have aX:=af aH;have aY:=af aI;have aZ:=af (aV.out.kept aj);have a_:=af (aW.out.kept aj);have bd:=af (aG.out.trans aj);clear aH aI aj g0 g1 g2;go_wp2_with fail;refine (aQ.out _ _ _ HN'.out aX.out).mono ?_;rintro e w5 ⟨⟨v5,rfl,aJ⟩,al⟩;have bf:=af aJ;have bh:=af (aZ.out.kept al);have bi:=af (a_.out.kept al);have bj:=af (HD'.out.kept al);have bk:=af (aY.out.kept al);have bl:=af (bd.out.trans al);clear aJ al;go_wp2_with fail;refine (aR.out _ _ _ bj.out bk.out).mono ?_;rintro e w6 ⟨⟨v6,rfl,aK⟩,ap⟩;have aL:=af aK;have aq:=af (bf.out.kept ap)
 have bo:=af (bh.out.kept ap);have bp:=af (bi.out.kept ap);have bq:=af (bl.out.trans ap);clear aK ap;go_wp2_with fail
 first
  | (refine (aC.out _ _ _ aq.out aL.out).mono ?_)
  | (rw [aU];refine (aC.out _ _ _ aq.out aL.out).mono ?_)
 rintro e w7 ⟨⟨v7,rfl,aM⟩,ay⟩;have bA:=af aM;have ai:=bo.out.kept ay;have br:=af (bp.out.kept ay);have bt:=af (bq.out.trans ay);obtain ⟨u7,u8,rfl,k7,k8⟩:=aM;obtain ⟨a7,c7,rfl⟩:=k7.shape;obtain ⟨a8,c8,rfl⟩:=k8.shape;obtain ⟨y0,y1,y2,aN⟩:=k_ (.cells #[.bool R.neg,.slice a7 R.num.length c7,.slice a8 R.den.length c8] 29) ai br.out k7 k8;have bB:=ai.lt;have g0:=ai.cell (i:=0) (by simp);have g1:=ai.cell (i:=1) (by simp);have g2:=ai.cell (i:=2) (by simp);have f0:=ai.free 0;have f1:=ai.free 1;have f2:=ai.free 2;have bw:=af aN;have Y0:=af y0;have Y1:=af y1;have Y2:=af y2;clear aN y0 y1 y2 k7 k8 ai ay;generalize R.num.length=n7 at *;generalize R.den.length=n8 at *;go_wp2;refine bodyPost_ret (v:=.agg #[.bool R.neg,.slice a7 n7 c7,.slice a8 n8 c8]) ?_ rfl ⟨⟨_,rfl,bw.out⟩,?_⟩
 ·simp [results,Tryz.results103,go_sem,Y0.out,Y1.out,Y2.out]
 ·exact (((bt.out.store (by omega) _ _).store (by omega) _ _).store (by omega) _ _).alloc _
theorem ve (va vb:Value) (r s:Rw) (w:World) (ha:RatAt w va r) (hb:RatAt w vb s) (hr:r.Short 34359738368) (hs:s.Short 34359738368) (hss:(gP r).1=(gP s).1):Calls Tryz.prog 113 #[va,vb] w fun e w'=>(∃ v',e=.returned v'/\RatAt w' v' (gR (gT r+gT s)))/\gO w w':=by
 have a_:=af (fun W (hk:gO w W)=>ji va r W (ha.kept hk) ⟨Nat.le_trans hr.1 (by omega),Nat.le_trans hr.2 (by omega)⟩);have bd:=af (fun W (hk:gO w W)=>ji vb s W (hb.kept hk) ⟨Nat.le_trans hs.1 (by omega),Nat.le_trans hs.2 (by omega)⟩);have ah:=ij ha.ok;have ai:=ij hb.ok;have aA:=il hr (by omega);have aB:=il hs (by omega);obtain ⟨R,hR⟩:∃ R,R=gR (gT r+gT s):=⟨_,rfl⟩;obtain ⟨p,hp⟩:∃ p,p=nv (gP r).2.1*nv (gP s).2.2:=⟨_,rfl⟩;obtain ⟨q,hq⟩:∃ q,q=nv (gP s).2.1*nv (gP r).2.2:=⟨_,rfl⟩;obtain ⟨d,hd⟩:∃ d,d=nv (gP r).2.2*nv (gP s).2.2:=⟨_,rfl⟩;have aL:(nw p).length<=68719476736:=by rw [hp];exact Nat.le_trans (ip ah.1 ai.2.1) (by omega)
 have aM:(nw q).length<=68719476736:=by rw [hq];exact Nat.le_trans (ip ai.1 ah.2.1) (by omega)
 have aN:(nw d).length<=68719476736:=by rw [hd];exact Nat.le_trans (ip ah.2.1 ai.2.1) (by omega)
 have aC:d≠0:=by rw [hd];exact Nat.mul_ne_zero ah.2.2.1 ai.2.2.1
 have bf:Hid (∀ W u1 u2,WdsAt W u1 (nw p)->WdsAt W u2 (nw q)->Calls Tryz.prog 174 #[u1,u2] W fun e w'=>(∃ v',e=.returned v'/\WdsAt w' v' (nw (p+q)))/\gO W w'):=af fun W u1 u2 k1 k2=>by
  have h:=Bi u1 u2 _ _ W k1 k2 (by omega) (by omega);rw [gW,gW] at h;exact h
 have bh:Hid (∀ W u1 u2,WdsAt W u1 (nw (p+q))->WdsAt W u2 (nw d)->Calls Tryz.prog 163 #[.bool (gP r).1,u1,u2] W fun e w'=>(∃ v,e=.returned (.tuple #[v,.int .i64 0])/\RatAt w' v R)/\gO W w'):=af fun W u1 u2 k1 k2=>by
  have h:=k' (gP r).1 u1 u2 _ _ W k1 k2 (Nat.le_trans (qd aL aM) (by omega)) (Nat.le_trans aN (by omega)) (by rw [gW];exact aC);rw [gW,gW,jA _ _ _ aC,hp,hq,hd,rF ha.ok hb.ok hss,<-hR] at h;exact h
 have bi:Hid (∀ W u1 u2,WdsAt W u1 (gP r).2.1->WdsAt W u2 (gP s).2.2->Calls Tryz.prog 164 #[u1,u2] W fun e w'=>(∃ v',e=.returned v'/\WdsAt w' v' (nw p))/\gO W w'):=af fun W u1 u2 k1 k2=>by rw [hp];exact jt u1 u2 _ _ W k1 k2 (by omega) (by omega)
 have bj:Hid (∀ W u1 u2,WdsAt W u1 (gP s).2.1->WdsAt W u2 (gP r).2.2->Calls Tryz.prog 164 #[u1,u2] W fun e w'=>(∃ v',e=.returned v'/\WdsAt w' v' (nw q))/\gO W w'):=af fun W u1 u2 k1 k2=>by rw [hq];exact jt u1 u2 _ _ W k1 k2 (by omega) (by omega)
 have bk:Hid (∀ W u1 u2,WdsAt W u1 (gP r).2.2->WdsAt W u2 (gP s).2.2->Calls Tryz.prog 164 #[u1,u2] W fun e w'=>(∃ v',e=.returned v'/\WdsAt w' v' (nw d))/\gO W w'):=af fun W u1 u2 k1 k2=>by rw [hd];exact jt u1 u2 _ _ W k1 k2 (by omega) (by omega)
 rw [<-hR];obtain ⟨u1,u2,rfl,h1,h2⟩:=ha;obtain ⟨u3,u4,rfl,h3,h4⟩:=hb;obtain ⟨a1,c1,rfl⟩:=h1.shape;obtain ⟨a2,c2,rfl⟩:=h2.shape;obtain ⟨a3,c3,rfl⟩:=h3.shape;obtain ⟨a4,c4,rfl⟩:=h4.shape;obtain ⟨w2,ay⟩:∃ w2,w2=((w.alloc (.cells #[.bool r.neg,.slice a1 r.num.length c1,.slice a2 r.den.length c2] 29)).alloc (.cells #[.bool s.neg,.slice a3 s.num.length c3,.slice a4 s.den.length c4] 29)).alloc (.cells #[.bool false,.slice none 0 0,.slice none 0 0] 29):=⟨_,rfl⟩;have HM:=af (jq w (.cells #[.bool r.neg,.slice a1 r.num.length c1,.slice a2 r.den.length c2] 29) (.cells #[.bool s.neg,.slice a3 s.num.length c3,.slice a4 s.den.length c4] 29));rw [<-ay] at HM;have aD:=gS.made (w.alloc (.cells #[.bool r.neg,.slice a1 r.num.length c1,.slice a2 r.den.length c2] 29)) #[.bool s.neg,.slice a3 s.num.length c3,.slice a4 s.den.length c4] 29;simp only [World.size_alloc] at aD;have bl:Hid (gS w2 (w.heap.size+1) 29 [.bool s.neg,.slice a3 s.num.length c3,.slice a4 s.den.length c4]):=af (by rw [ay];exact aD.kept ((gO.refl _).alloc _));have bo:=af ay;generalize nw d=DE at *;generalize (gP r).1=s1 at *;generalize (gP s).1=s2 at *;generalize (gP r).2.1=N at *;generalize (gP r).2.2=D at *;generalize (gP s).2.1=M at *;generalize (gP s).2.2=E at *;generalize r.num.length=n1 at *;generalize r.den.length=n2 at *;generalize s.num.length=n3 at *;generalize s.den.length=n4 at *
 generalize r.neg=neg1 at *;generalize s.neg=neg2 at *;clear ah ai aA aB hR h1 h2 h3 h4 hr hs ay aD hp hq hd aL aM aN aC;have hb:(s1 == s2)=true:=by simpa using hss
 clear hss;go_enter Tryz.func113,Tryz.ntmps113;go_wp2_with fail;rw [<-bo.out];refine (a_.out _ HM.out.2.2).mono ?_;rintro e w3 ⟨⟨u3,u4,rfl,aO,aP⟩,ar⟩;have HN:=af aO;have HD:=af aP;have bp:=af (HM.out.1.kept ar);have bq:=af (HM.out.2.1.kept ar);have az:=bl.out.kept ar;have g0:=az.cell (i:=0) (by simp);have g1:=az.cell (i:=1) (by simp);have g2:=az.cell (i:=2) (by simp);simp only [List.getElem_cons_succ,List.getElem_cons_zero] at g0 g1 g2;have aQ:=af (HM.out.2.2.trans ar);clear aO aP ar az;go_wp2_with fail;refine (bd.out _ aQ.out).mono ?_;rintro e w4 ⟨⟨u5,u6,rfl,aR,aS⟩,ap⟩;have HN':=af (HN.out.kept ap);have HD':=af (HD.out.kept ap);have br:=af aR;have aT:=af aS;have bt:=af (bp.out.kept ap);have bw:=af (bq.out.kept ap);have bz:=af (aQ.out.trans ap);clear aR aS ap g0 g1 g2;go_wp2_with fail;refine (bi.out _ _ _ HN'.out aT.out).mono ?_;rintro e w5 ⟨⟨v5,rfl,aU⟩,al⟩;have bA:=af aU;have bB:=af (bt.out.kept al);have bC:=af (bw.out.kept al);have aV:=af (HD'.out.kept al);have bD:=af (aT.out.kept al);have bE:=af (br.out.kept al);have bF:=af (bz.out.trans al);clear aU al;go_wp2_with fail;refine (bj.out _ _ _ bE.out aV.out).mono ?_;rintro e w6 ⟨⟨v6,rfl,aW⟩,am⟩;have bG:=af aW;have aF:=af (bA.out.kept am)
 have bH:=af (bB.out.kept am);have bI:=af (bC.out.kept am);have bJ:=af (aV.out.kept am);have bK:=af (bD.out.kept am);have bL:=af (bF.out.trans am);clear aW am;go_wp2_with fail;refine (bk.out _ _ _ bJ.out bK.out).mono ?_;rintro e w7 ⟨⟨v7,rfl,aX⟩,aq⟩;have bM:=af aX;have bN:=af (aF.out.kept aq);have bO:=af (bG.out.kept aq);have bP:=af (bH.out.kept aq);have bQ:=af (bI.out.kept aq);have bR:=af (bL.out.trans aq);clear aX aq;go_wp2_with fail;refine (bf.out _ _ _ bN.out bO.out).mono ?_;rintro e w9 ⟨⟨v9,rfl,aY⟩,aw⟩;have aG:=bM;have bS:=bP;have bT:=bQ;have bU:=bR;have bV:=af aY;have aH:=af (aG.out.kept aw);have bW:=af (bS.out.kept aw);have bX:=af (bT.out.kept aw);have bY:=af (bU.out.trans aw);clear aY aw;go_wp2_with fail;refine (bh.out _ _ _ bV.out aH.out).mono ?_;rintro e w10 ⟨⟨v10,rfl,aI⟩,aj⟩;have ag:=bW.out.kept aj;have aJ:=af (bX.out.kept aj);have aK:=af (bY.out.trans aj);obtain ⟨u7,u8,rfl,k7,k8⟩:=aI;obtain ⟨a7,c7,rfl⟩:=k7.shape;obtain ⟨a8,c8,rfl⟩:=k8.shape;obtain ⟨y0,y1,y2,aZ⟩:=k_ (.cells #[.bool R.neg,.slice a7 R.num.length c7,.slice a8 R.den.length c8] 29) ag aJ.out k7 k8;have b_:=ag.lt;have g0:=ag.cell (i:=0) (by simp);have g1:=ag.cell (i:=1) (by simp)
 have g2:=ag.cell (i:=2) (by simp);have f0:=ag.free 0;have f1:=ag.free 1;have f2:=ag.free 2;have bZ:=af aZ;have Y0:=af y0;have Y1:=af y1;have Y2:=af y2;clear aZ y0 y1 y2 k7 k8 ag aj;generalize R.num.length=n7 at *;generalize R.den.length=n8 at *;go_wp2;refine bodyPost_ret (v:=.agg #[.bool R.neg,.slice a7 n7 c7,.slice a8 n8 c8]) ?_ rfl ⟨⟨_,rfl,bZ.out⟩,?_⟩
 ·simp [results,Tryz.results113,go_sem,Y0.out,Y1.out,Y2.out]
 ·exact (((aK.out.store (by omega) _ _).store (by omega) _ _).store (by omega) _ _).alloc _
theorem zk (va vb:Value) (r s:Rw) (w:World) (ha:RatAt w va r) (hb:RatAt w vb s) (hr:r.Short 34359738368) (hs:s.Short 34359738368) (hss:(gP r).1≠(gP s).1) (aw:nv (gP s).2.1*nv (gP r).2.2<=nv (gP r).2.1*nv (gP s).2.2):Calls Tryz.prog 113 #[va,vb] w fun e w'=>(∃ v',e=.returned v'/\RatAt w' v' (gR (gT r+gT s)))/\gO w w':=by
 have bk:=af (fun W (hk:gO w W)=>ji va r W (ha.kept hk) ⟨Nat.le_trans hr.1 (by omega),Nat.le_trans hr.2 (by omega)⟩);have bl:=af (fun W (hk:gO w W)=>ji vb s W (hb.kept hk) ⟨Nat.le_trans hs.1 (by omega),Nat.le_trans hs.2 (by omega)⟩);have ah:=ij ha.ok;have ai:=ij hb.ok;have aC:=il hr (by omega);have aD:=il hs (by omega);obtain ⟨R,hR⟩:∃ R,R=gR (gT r+gT s):=⟨_,rfl⟩;obtain ⟨p,hp⟩:∃ p,p=nv (gP r).2.1*nv (gP s).2.2:=⟨_,rfl⟩;obtain ⟨q,hq⟩:∃ q,q=nv (gP s).2.1*nv (gP r).2.2:=⟨_,rfl⟩;obtain ⟨d,hd⟩:∃ d,d=nv (gP r).2.2*nv (gP s).2.2:=⟨_,rfl⟩;have bo:(nw p).length<=68719476736:=by rw [hp];exact Nat.le_trans (ip ah.1 ai.2.1) (by omega)
 have bp:(nw q).length<=68719476736:=by rw [hq];exact Nat.le_trans (ip ai.1 ah.2.1) (by omega)
 have aQ:(nw d).length<=68719476736:=by rw [hd];exact Nat.le_trans (ip ah.2.1 ai.2.1) (by omega)
 have aF:d≠0:=by rw [hd];exact Nat.mul_ne_zero ah.2.2.1 ai.2.2.1
 rw [<-hp,<-hq] at aw
 have aR:Hid (∀ W u1 u2,WdsAt W u1 (nw p)->WdsAt W u2 (nw q)->Calls Tryz.prog 175 #[u1,u2] W fun e w'=>e=.returned (.int .i64 (kv p q))/\gO W w'):=af fun W u1 u2 k1 k2=>by
  have h:=mA u1 u2 _ _ W k1 k2;rw [gW,gW] at h;exact h.mono fun _ _ ⟨h1,h2⟩=>⟨h1,by rw [h2];exact gO.refl _⟩
 have bq:Hid (∀ W u1 u2,WdsAt W u1 (nw p)->WdsAt W u2 (nw q)->Calls Tryz.prog 176 #[u1,u2] W fun e w'=>(∃ v',e=.returned (.tuple #[v',.int .i64 0])/\WdsAt w' v' (nw (p - q)))/\gO W w'):=af fun W u1 u2 k1 k2=>by
  have h:=qj u1 u2 _ _ W k1 k2 (by rw [gW,gW];exact aw);rw [gW,gW] at h;exact h
 obtain ⟨cm,aG⟩:∃ cm,cm=kv p q:=⟨_,rfl⟩;rw [<-aG] at aR
 have br:¬ cm<0:=by
  rw [aG];rcases Nat.lt_or_ge q p with h | h
  ·rw [lY h];omega
  ·rw [mK (by omega)];omega
 have bt:Hid (∀ W u1 u2,WdsAt W u1 (nw (p - q))->WdsAt W u2 (nw d)->Calls Tryz.prog 163 #[.bool (gP r).1,u1,u2] W fun e w'=>(∃ v,e=.returned (.tuple #[v,.int .i64 0])/\RatAt w' v R)/\gO W w'):=af fun W u1 u2 k1 k2=>by
  have h:=k' (gP r).1 u1 u2 _ _ W k1 k2 (Nat.le_trans (jk (Nat.sub_le p q)) (by omega)) (Nat.le_trans aQ (by omega)) (by rw [gW];exact aF);rw [gW,gW,jA _ _ _ aF,hp,hq,hd,rI ha.ok hb.ok hss (by rw [hp,hq] at aw;exact aw),<-hR] at h;exact h
 have bw:Hid (∀ W u1 u2,WdsAt W u1 (gP r).2.1->WdsAt W u2 (gP s).2.2->Calls Tryz.prog 164 #[u1,u2] W fun e w'=>(∃ v',e=.returned v'/\WdsAt w' v' (nw p))/\gO W w'):=af fun W u1 u2 k1 k2=>by rw [hp];exact jt u1 u2 _ _ W k1 k2 (by omega) (by omega)
 have bz:Hid (∀ W u1 u2,WdsAt W u1 (gP s).2.1->WdsAt W u2 (gP r).2.2->Calls Tryz.prog 164 #[u1,u2] W fun e w'=>(∃ v',e=.returned v'/\WdsAt w' v' (nw q))/\gO W w'):=af fun W u1 u2 k1 k2=>by rw [hq];exact jt u1 u2 _ _ W k1 k2 (by omega) (by omega)
 have bA:Hid (∀ W u1 u2,WdsAt W u1 (gP r).2.2->WdsAt W u2 (gP s).2.2->Calls Tryz.prog 164 #[u1,u2] W fun e w'=>(∃ v',e=.returned v'/\WdsAt w' v' (nw d))/\gO W w'):=af fun W u1 u2 k1 k2=>by rw [hd];exact jt u1 u2 _ _ W k1 k2 (by omega) (by omega)
 rw [<-hR];obtain ⟨u1,u2,rfl,h1,h2⟩:=ha;obtain ⟨u3,u4,rfl,h3,h4⟩:=hb;obtain ⟨a1,c1,rfl⟩:=h1.shape;obtain ⟨a2,c2,rfl⟩:=h2.shape;obtain ⟨a3,c3,rfl⟩:=h3.shape;obtain ⟨a4,c4,rfl⟩:=h4.shape;obtain ⟨w2,aA⟩:∃ w2,w2=((w.alloc (.cells #[.bool r.neg,.slice a1 r.num.length c1,.slice a2 r.den.length c2] 29)).alloc (.cells #[.bool s.neg,.slice a3 s.num.length c3,.slice a4 s.den.length c4] 29)).alloc (.cells #[.bool false,.slice none 0 0,.slice none 0 0] 29):=⟨_,rfl⟩;have HM:=af (jq w (.cells #[.bool r.neg,.slice a1 r.num.length c1,.slice a2 r.den.length c2] 29) (.cells #[.bool s.neg,.slice a3 s.num.length c3,.slice a4 s.den.length c4] 29));rw [<-aA] at HM;have aH:=gS.made (w.alloc (.cells #[.bool r.neg,.slice a1 r.num.length c1,.slice a2 r.den.length c2] 29)) #[.bool s.neg,.slice a3 s.num.length c3,.slice a4 s.den.length c4] 29;simp only [World.size_alloc] at aH;have bB:Hid (gS w2 (w.heap.size+1) 29 [.bool s.neg,.slice a3 s.num.length c3,.slice a4 s.den.length c4]):=af (by rw [aA];exact aH.kept ((gO.refl _).alloc _));have bC:=af aA;generalize nw d=DE at *;generalize (gP r).1=s1 at *;generalize (gP s).1=s2 at *;generalize (gP r).2.1=N at *;generalize (gP r).2.2=D at *;generalize (gP s).2.1=M at *;generalize (gP s).2.2=E at *;generalize r.num.length=n1 at *;generalize r.den.length=n2 at *;generalize s.num.length=n3 at *;generalize s.den.length=n4 at *
 generalize r.neg=neg1 at *;generalize s.neg=neg2 at *;clear ah ai aC aD hR h1 h2 h3 h4 hr hs aA aH hp hq hd bo bp aQ aF;have hb:(s1 == s2)=false:=by simpa using hss
 clear hss aG aw;go_enter Tryz.func113,Tryz.ntmps113;go_wp2_with fail;rw [<-bC.out];refine (bk.out _ HM.out.2.2).mono ?_;rintro e w3 ⟨⟨u3,u4,rfl,aS,aT⟩,ay⟩;have HN:=af aS;have HD:=af aT;have bD:=af (HM.out.1.kept ay);have bE:=af (HM.out.2.1.kept ay);have aB:=bB.out.kept ay;have g0:=aB.cell (i:=0) (by simp);have g1:=aB.cell (i:=1) (by simp);have g2:=aB.cell (i:=2) (by simp);simp only [List.getElem_cons_succ,List.getElem_cons_zero] at g0 g1 g2;have aU:=af (HM.out.2.2.trans ay);clear aS aT ay aB;go_wp2_with fail;refine (bl.out _ aU.out).mono ?_;rintro e w4 ⟨⟨u5,u6,rfl,aV,aW⟩,aq⟩;have HN':=af (HN.out.kept aq);have HD':=af (HD.out.kept aq);have bF:=af aV;have aX:=af aW;have bG:=af (bD.out.kept aq);have bH:=af (bE.out.kept aq);have bI:=af (aU.out.trans aq);clear aV aW aq g0 g1 g2;go_wp2_with fail;refine (bw.out _ _ _ HN'.out aX.out).mono ?_;rintro e w5 ⟨⟨v5,rfl,aY⟩,al⟩;have bJ:=af aY;have bK:=af (bG.out.kept al);have bL:=af (bH.out.kept al);have aZ:=af (HD'.out.kept al);have bM:=af (aX.out.kept al);have bN:=af (bF.out.kept al);have bO:=af (bI.out.trans al);clear aY al;go_wp2_with fail;refine (bz.out _ _ _ bN.out aZ.out).mono ?_;rintro e w6 ⟨⟨v6,rfl,a_⟩,am⟩;have bP:=af a_;have aI:=af (bJ.out.kept am)
 have bQ:=af (bK.out.kept am);have bR:=af (bL.out.kept am);have bS:=af (aZ.out.kept am);have bT:=af (bM.out.kept am);have bU:=af (bO.out.trans am);clear a_ am;go_wp2_with fail;refine (bA.out _ _ _ bS.out bT.out).mono ?_;rintro e w7 ⟨⟨v7,rfl,bd⟩,ar⟩;have bV:=af bd;have bf:=af (aI.out.kept ar);have bh:=af (bP.out.kept ar);have bW:=af (bQ.out.kept ar);have bX:=af (bR.out.kept ar);have bY:=af (bU.out.trans ar);clear bd ar;go_wp2_with fail;refine (aR.out _ _ _ bf.out bh.out).mono ?_;rintro e w8 ⟨rfl,ap⟩;have aJ:=af (bV.out.kept ap);have aK:=af (bf.out.kept ap);have aL:=af (bh.out.kept ap);have bZ:=af (bW.out.kept ap);have b_:=af (bX.out.kept ap);have cd:=af (bY.out.trans ap);clear ap;go_wp2_with fail;refine (bq.out _ _ _ aK.out aL.out).mono ?_;rintro e w9 ⟨⟨v9,rfl,bi⟩,az⟩;have ci:=af bi;have aM:=af (aJ.out.kept az);have cj:=af (bZ.out.kept az);have ck:=af (b_.out.kept az);have cn:=af (cd.out.trans az);clear bi az;go_wp2_with fail;refine (bt.out _ _ _ ci.out aM.out).mono ?_;rintro e w10 ⟨⟨v10,rfl,aN⟩,aj⟩;have ag:=cj.out.kept aj;have aO:=af (ck.out.kept aj);have aP:=af (cn.out.trans aj);obtain ⟨u7,u8,rfl,k7,k8⟩:=aN;obtain ⟨a7,c7,rfl⟩:=k7.shape
 obtain ⟨a8,c8,rfl⟩:=k8.shape;obtain ⟨y0,y1,y2,bj⟩:=k_ (.cells #[.bool R.neg,.slice a7 R.num.length c7,.slice a8 R.den.length c8] 29) ag aO.out k7 k8;have cr:=ag.lt;have g0:=ag.cell (i:=0) (by simp);have g1:=ag.cell (i:=1) (by simp);have g2:=ag.cell (i:=2) (by simp);have f0:=ag.free 0;have f1:=ag.free 1;have f2:=ag.free 2;have cq:=af bj;have Y0:=af y0;have Y1:=af y1;have Y2:=af y2;clear bj y0 y1 y2 k7 k8 ag aj;generalize R.num.length=n7 at *;generalize R.den.length=n8 at *;go_wp2;refine bodyPost_ret (v:=.agg #[.bool R.neg,.slice a7 n7 c7,.slice a8 n8 c8]) ?_ rfl ⟨⟨_,rfl,cq.out⟩,?_⟩
 ·simp [results,Tryz.results113,go_sem,Y0.out,Y1.out,Y2.out]
 ·exact (((aP.out.store (by omega) _ _).store (by omega) _ _).store (by omega) _ _).alloc _
theorem zl (va vb:Value) (r s:Rw) (w:World) (ha:RatAt w va r) (hb:RatAt w vb s) (hr:r.Short 34359738368) (hs:s.Short 34359738368) (hss:(gP r).1≠(gP s).1) (aq:nv (gP r).2.1*nv (gP s).2.2<nv (gP s).2.1*nv (gP r).2.2):Calls Tryz.prog 113 #[va,vb] w fun e w'=>(∃ v',e=.returned v'/\RatAt w' v' (gR (gT r+gT s)))/\gO w w':=by
 have bk:=af (fun W (hk:gO w W)=>ji va r W (ha.kept hk) ⟨Nat.le_trans hr.1 (by omega),Nat.le_trans hr.2 (by omega)⟩);have bl:=af (fun W (hk:gO w W)=>ji vb s W (hb.kept hk) ⟨Nat.le_trans hs.1 (by omega),Nat.le_trans hs.2 (by omega)⟩);have ah:=ij ha.ok;have ai:=ij hb.ok;have aC:=il hr (by omega);have aD:=il hs (by omega);obtain ⟨R,hR⟩:∃ R,R=gR (gT r+gT s):=⟨_,rfl⟩;obtain ⟨p,hp⟩:∃ p,p=nv (gP r).2.1*nv (gP s).2.2:=⟨_,rfl⟩;obtain ⟨q,hq⟩:∃ q,q=nv (gP s).2.1*nv (gP r).2.2:=⟨_,rfl⟩;obtain ⟨d,hd⟩:∃ d,d=nv (gP r).2.2*nv (gP s).2.2:=⟨_,rfl⟩;have bo:(nw p).length<=68719476736:=by rw [hp];exact Nat.le_trans (ip ah.1 ai.2.1) (by omega)
 have bp:(nw q).length<=68719476736:=by rw [hq];exact Nat.le_trans (ip ai.1 ah.2.1) (by omega)
 have aQ:(nw d).length<=68719476736:=by rw [hd];exact Nat.le_trans (ip ah.2.1 ai.2.1) (by omega)
 have aF:d≠0:=by rw [hd];exact Nat.mul_ne_zero ah.2.2.1 ai.2.2.1
 rw [<-hp,<-hq] at aq
 have aR:Hid (∀ W u1 u2,WdsAt W u1 (nw p)->WdsAt W u2 (nw q)->Calls Tryz.prog 175 #[u1,u2] W fun e w'=>e=.returned (.int .i64 (kv p q))/\gO W w'):=af fun W u1 u2 k1 k2=>by
  have h:=mA u1 u2 _ _ W k1 k2;rw [gW,gW] at h;exact h.mono fun _ _ ⟨h1,h2⟩=>⟨h1,by rw [h2];exact gO.refl _⟩
 have bq:Hid (∀ W u1 u2,WdsAt W u1 (nw q)->WdsAt W u2 (nw p)->Calls Tryz.prog 176 #[u1,u2] W fun e w'=>(∃ v',e=.returned (.tuple #[v',.int .i64 0])/\WdsAt w' v' (nw (q - p)))/\gO W w'):=af fun W u1 u2 k1 k2=>by
  have h:=qj u1 u2 _ _ W k1 k2 (by rw [gW,gW];exact Nat.le_of_lt aq);rw [gW,gW] at h;exact h
 obtain ⟨cm,aG⟩:∃ cm,cm=kv p q:=⟨_,rfl⟩;rw [<-aG] at aR
 have br:cm<0:=by
  rw [aG];rw [mL aq];omega
 have bt:Hid (∀ W u1 u2,WdsAt W u1 (nw (q - p))->WdsAt W u2 (nw d)->Calls Tryz.prog 163 #[.bool (gP s).1,u1,u2] W fun e w'=>(∃ v,e=.returned (.tuple #[v,.int .i64 0])/\RatAt w' v R)/\gO W w'):=af fun W u1 u2 k1 k2=>by
  have h:=k' (gP s).1 u1 u2 _ _ W k1 k2 (Nat.le_trans (jk (Nat.sub_le q p)) (by omega)) (Nat.le_trans aQ (by omega)) (by rw [gW];exact aF);rw [gW,gW,jA _ _ _ aF,hp,hq,hd,qh ha.ok hb.ok hss (by rw [hp,hq] at aq;exact Nat.le_of_lt aq),<-hR] at h;exact h
 have bw:Hid (∀ W u1 u2,WdsAt W u1 (gP r).2.1->WdsAt W u2 (gP s).2.2->Calls Tryz.prog 164 #[u1,u2] W fun e w'=>(∃ v',e=.returned v'/\WdsAt w' v' (nw p))/\gO W w'):=af fun W u1 u2 k1 k2=>by rw [hp];exact jt u1 u2 _ _ W k1 k2 (by omega) (by omega)
 have bz:Hid (∀ W u1 u2,WdsAt W u1 (gP s).2.1->WdsAt W u2 (gP r).2.2->Calls Tryz.prog 164 #[u1,u2] W fun e w'=>(∃ v',e=.returned v'/\WdsAt w' v' (nw q))/\gO W w'):=af fun W u1 u2 k1 k2=>by rw [hq];exact jt u1 u2 _ _ W k1 k2 (by omega) (by omega)
 have bA:Hid (∀ W u1 u2,WdsAt W u1 (gP r).2.2->WdsAt W u2 (gP s).2.2->Calls Tryz.prog 164 #[u1,u2] W fun e w'=>(∃ v',e=.returned v'/\WdsAt w' v' (nw d))/\gO W w'):=af fun W u1 u2 k1 k2=>by rw [hd];exact jt u1 u2 _ _ W k1 k2 (by omega) (by omega)
 rw [<-hR];obtain ⟨u1,u2,rfl,h1,h2⟩:=ha;obtain ⟨u3,u4,rfl,h3,h4⟩:=hb;obtain ⟨a1,c1,rfl⟩:=h1.shape;obtain ⟨a2,c2,rfl⟩:=h2.shape;obtain ⟨a3,c3,rfl⟩:=h3.shape;obtain ⟨a4,c4,rfl⟩:=h4.shape;obtain ⟨w2,aA⟩:∃ w2,w2=((w.alloc (.cells #[.bool r.neg,.slice a1 r.num.length c1,.slice a2 r.den.length c2] 29)).alloc (.cells #[.bool s.neg,.slice a3 s.num.length c3,.slice a4 s.den.length c4] 29)).alloc (.cells #[.bool false,.slice none 0 0,.slice none 0 0] 29):=⟨_,rfl⟩;have HM:=af (jq w (.cells #[.bool r.neg,.slice a1 r.num.length c1,.slice a2 r.den.length c2] 29) (.cells #[.bool s.neg,.slice a3 s.num.length c3,.slice a4 s.den.length c4] 29));rw [<-aA] at HM;have aH:=gS.made (w.alloc (.cells #[.bool r.neg,.slice a1 r.num.length c1,.slice a2 r.den.length c2] 29)) #[.bool s.neg,.slice a3 s.num.length c3,.slice a4 s.den.length c4] 29;simp only [World.size_alloc] at aH;have bB:Hid (gS w2 (w.heap.size+1) 29 [.bool s.neg,.slice a3 s.num.length c3,.slice a4 s.den.length c4]):=af (by rw [aA];exact aH.kept ((gO.refl _).alloc _));have bC:=af aA;generalize nw d=DE at *;generalize (gP r).1=s1 at *;generalize (gP s).1=s2 at *;generalize (gP r).2.1=N at *;generalize (gP r).2.2=D at *;generalize (gP s).2.1=M at *;generalize (gP s).2.2=E at *;generalize r.num.length=n1 at *;generalize r.den.length=n2 at *;generalize s.num.length=n3 at *;generalize s.den.length=n4 at *
 generalize r.neg=neg1 at *;generalize s.neg=neg2 at *;clear ah ai aC aD hR h1 h2 h3 h4 hr hs aA aH hp hq hd bo bp aQ aF;have hb:(s1 == s2)=false:=by simpa using hss
 clear hss aG aq;go_enter Tryz.func113,Tryz.ntmps113;go_wp2_with fail;rw [<-bC.out];refine (bk.out _ HM.out.2.2).mono ?_;rintro e w3 ⟨⟨u3,u4,rfl,aS,aT⟩,ay⟩;have HN:=af aS;have HD:=af aT;have bD:=af (HM.out.1.kept ay);have bE:=af (HM.out.2.1.kept ay);have aB:=bB.out.kept ay;have g0:=aB.cell (i:=0) (by simp);have g1:=aB.cell (i:=1) (by simp);have g2:=aB.cell (i:=2) (by simp);simp only [List.getElem_cons_succ,List.getElem_cons_zero] at g0 g1 g2;have aU:=af (HM.out.2.2.trans ay);clear aS aT ay aB;go_wp2_with fail;refine (bl.out _ aU.out).mono ?_;rintro e w4 ⟨⟨u5,u6,rfl,aV,aW⟩,ar⟩;have HN':=af (HN.out.kept ar);have HD':=af (HD.out.kept ar);have bF:=af aV;have aX:=af aW;have bG:=af (bD.out.kept ar);have bH:=af (bE.out.kept ar);have bI:=af (aU.out.trans ar);clear aV aW ar g0 g1 g2;go_wp2_with fail;refine (bw.out _ _ _ HN'.out aX.out).mono ?_;rintro e w5 ⟨⟨v5,rfl,aY⟩,al⟩;have bJ:=af aY;have bK:=af (bG.out.kept al);have bL:=af (bH.out.kept al);have aZ:=af (HD'.out.kept al);have bM:=af (aX.out.kept al);have bN:=af (bF.out.kept al);have bO:=af (bI.out.trans al);clear aY al;go_wp2_with fail;refine (bz.out _ _ _ bN.out aZ.out).mono ?_;rintro e w6 ⟨⟨v6,rfl,a_⟩,am⟩;have bP:=af a_;have aI:=af (bJ.out.kept am)
 have bQ:=af (bK.out.kept am);have bR:=af (bL.out.kept am);have bS:=af (aZ.out.kept am);have bT:=af (bM.out.kept am);have bU:=af (bO.out.trans am);clear a_ am;go_wp2_with fail;refine (bA.out _ _ _ bS.out bT.out).mono ?_;rintro e w7 ⟨⟨v7,rfl,bd⟩,aw⟩;have bV:=af bd;have bf:=af (aI.out.kept aw);have bh:=af (bP.out.kept aw);have bW:=af (bQ.out.kept aw);have bX:=af (bR.out.kept aw);have bY:=af (bU.out.trans aw);clear bd aw;go_wp2_with fail;refine (aR.out _ _ _ bf.out bh.out).mono ?_;rintro e w8 ⟨rfl,ap⟩;have aJ:=af (bV.out.kept ap);have aK:=af (bf.out.kept ap);have aL:=af (bh.out.kept ap);have bZ:=af (bW.out.kept ap);have b_:=af (bX.out.kept ap);have cd:=af (bY.out.trans ap);clear ap;go_wp2_with fail;refine (bq.out _ _ _ aL.out aK.out).mono ?_;rintro e w9 ⟨⟨v9,rfl,bi⟩,az⟩;have ci:=af bi;have aM:=af (aJ.out.kept az);have cj:=af (bZ.out.kept az);have ck:=af (b_.out.kept az);have cn:=af (cd.out.trans az);clear bi az;go_wp2_with fail;refine (bt.out _ _ _ ci.out aM.out).mono ?_;rintro e w10 ⟨⟨v10,rfl,aN⟩,aj⟩;have ag:=cj.out.kept aj;have aO:=af (ck.out.kept aj);have aP:=af (cn.out.trans aj);obtain ⟨u7,u8,rfl,k7,k8⟩:=aN;obtain ⟨a7,c7,rfl⟩:=k7.shape
 obtain ⟨a8,c8,rfl⟩:=k8.shape;obtain ⟨y0,y1,y2,bj⟩:=k_ (.cells #[.bool R.neg,.slice a7 R.num.length c7,.slice a8 R.den.length c8] 29) ag aO.out k7 k8;have cr:=ag.lt;have g0:=ag.cell (i:=0) (by simp);have g1:=ag.cell (i:=1) (by simp);have g2:=ag.cell (i:=2) (by simp);have f0:=ag.free 0;have f1:=ag.free 1;have f2:=ag.free 2;have cq:=af bj;have Y0:=af y0;have Y1:=af y1;have Y2:=af y2;clear bj y0 y1 y2 k7 k8 ag aj;generalize R.num.length=n7 at *;generalize R.den.length=n8 at *;go_wp2;refine bodyPost_ret (v:=.agg #[.bool R.neg,.slice a7 n7 c7,.slice a8 n8 c8]) ?_ rfl ⟨⟨_,rfl,cq.out⟩,?_⟩
 ·simp [results,Tryz.results113,go_sem,Y0.out,Y1.out,Y2.out]
 ·exact (((aP.out.store (by omega) _ _).store (by omega) _ _).store (by omega) _ _).alloc _
theorem nZ (va vb:Value) (r s:Rw) (w:World) (ha:RatAt w va r) (hb:RatAt w vb s) (hr:r.Short 34359738368) (hs:s.Short 34359738368):Calls Tryz.prog 113 #[va,vb] w fun e w'=>(∃ v',e=.returned v'/\RatAt w' v' (gR (gT r+gT s)))/\gO w w':=by
 by_cases h:(gP r).1=(gP s).1
 ·exact ve va vb r s w ha hb hr hs h
 ·rcases Nat.lt_or_ge (nv (gP r).2.1*nv (gP s).2.2) (nv (gP s).2.1*nv (gP r).2.2) with h2 | h2
  ·exact zl va vb r s w ha hb hr hs h h2
  ·exact zk va vb r s w ha hb hr hs h h2
theorem qY (va vb:Value) (r s:Rw) (w:World) (ha:RatAt w va r) (hb:RatAt w vb s) (hr:r.Short 34359738368) (hs:s.Short 34359738368):Calls Tryz.prog 101 #[va,vb] w fun e w'=>(∃ v',e=.returned v'/\RatAt w' v' (gR (gT r - gT s)))/\gO w w':=by
 have aw:=af (fun W (hk:gO w W)=>n_ vb s W (hb.kept hk) ⟨Nat.le_trans hs.1 (by omega),Nat.le_trans hs.2 (by omega)⟩);obtain ⟨R,hR⟩:∃ R,R=gR (gT r - gT s):=⟨_,rfl⟩
 have ay:Hid (∀ W v,gO w W->RatAt W v (gR (- gT s))->Calls Tryz.prog 113 #[va,v] W fun e w'=>(∃ v',e=.returned v'/\RatAt w' v' R)/\gO W w'):=af fun W v hk hv=>by
  have h:=nZ va v r _ W (ha.kept hk) hv hr (lM hb.ok hs (by omega));rw [gV,<-Rat.sub_eq_add_neg,<-hR] at h;exact h
 rw [<-hR];obtain ⟨u1,u2,rfl,h1,h2⟩:=ha;obtain ⟨u3,u4,rfl,h3,h4⟩:=hb;obtain ⟨a1,c1,rfl⟩:=h1.shape;obtain ⟨a2,c2,rfl⟩:=h2.shape;obtain ⟨a3,c3,rfl⟩:=h3.shape;obtain ⟨a4,c4,rfl⟩:=h4.shape;generalize r.num.length=n1 at *;generalize r.den.length=n2 at *;generalize s.num.length=n3 at *;generalize s.den.length=n4 at *;generalize r.neg=neg1 at *;generalize s.neg=neg2 at *;obtain ⟨w2,ah⟩:∃ w2,w2=((w.alloc (.cells #[.bool neg1,.slice a1 n1 c1,.slice a2 n2 c2] 29)).alloc (.cells #[.bool neg2,.slice a3 n3 c3,.slice a4 n4 c4] 29)).alloc (.cells #[.bool false,.slice none 0 0,.slice none 0 0] 29):=⟨_,rfl⟩;have HM:=af (jq w (.cells #[.bool neg1,.slice a1 n1 c1,.slice a2 n2 c2] 29) (.cells #[.bool neg2,.slice a3 n3 c3,.slice a4 n4 c4] 29));rw [<-ah] at HM;have ha2:=gS.made w #[.bool neg1,.slice a1 n1 c1,.slice a2 n2 c2] 29;have aj:Hid (gS w2 w.heap.size 29 [.bool neg1,.slice a1 n1 c1,.slice a2 n2 c2]):=af (by rw [ah];exact ha2.kept (((gO.refl _).alloc _).alloc _));have al:=gS.made (w.alloc (.cells #[.bool neg1,.slice a1 n1 c1,.slice a2 n2 c2] 29)) #[.bool neg2,.slice a3 n3 c3,.slice a4 n4 c4] 29;simp only [World.size_alloc] at al;have am:Hid (gS w2 (w.heap.size+1) 29 [.bool neg2,.slice a3 n3 c3,.slice a4 n4 c4]):=af (by rw [ah];exact al.kept ((gO.refl _).alloc _));have az:=af ah;clear hR h1 h2 h3 h4 hr hs ah ha2 al;have p0:=aj.out.cell (i:=0) (by simp)
 have p1:=aj.out.cell (i:=1) (by simp);have p2:=aj.out.cell (i:=2) (by simp);have g0:=am.out.cell (i:=0) (by simp);have g1:=am.out.cell (i:=1) (by simp);have g2:=am.out.cell (i:=2) (by simp);simp only [List.getElem_cons_succ,List.getElem_cons_zero] at p0 p1 p2 g0 g1 g2;go_enter Tryz.func101,Tryz.ntmps101;go_wp2_with fail;rw [<-az.out]
 go_region_with (first
  | (go_at_call 111;(with_reducible refine (aw.out _ HM.out.2.2.drew).mono ?_);rintro e w3 ⟨⟨v3,rfl,ap⟩,aq⟩;have hkd:=(gO.refl w2).drew.trans aq;have x0:=hkd.cell p0;have x1:=hkd.cell p1;have x2:=hkd.cell p2;have aA:=af ap;have ar:=af hkd;have aB:=af (HM.out.1.kept hkd);have aC:=af (HM.out.2.1.kept hkd);clear ap aq hkd)
  | (go_at_call 113;(with_reducible refine (ay.out _ _ (HM.out.2.2.trans ar.out) aA.out).mono ?_);rintro e w4 ⟨⟨v4,rfl,aD⟩,ai⟩;have ag:=aB.out.kept ai;have aF:=af ag;have aG:=af (aC.out.kept ai);have aH:=af ((HM.out.2.2.trans ar.out).trans ai);obtain ⟨u5,u6,rfl,k5,k6⟩:=aD;obtain ⟨a5,c5,rfl⟩:=k5.shape;obtain ⟨a6,c6,rfl⟩:=k6.shape;have K5:=af k5;have K6:=af k6;have z0:=ag.cell (i:=0) (by simp);have z1:=ag.cell (i:=1) (by simp);have z2:=ag.cell (i:=2) (by simp);have f0:=ag.free 0;have f1:=ag.free 1;have f2:=ag.free 2;clear k5 k6 ag ai))
 all_goals
  obtain ⟨y0,y1,y2,aI⟩:=iC aF.out aG.out K5.out K6.out;generalize R.num.length=n7 at *;generalize R.den.length=n8 at *;go_wp2;refine bodyPost_ret (v:=.agg #[.bool R.neg,.slice a5 n7 c5,.slice a6 n8 c6]) ?_ rfl ⟨⟨_,rfl,aI⟩,?_⟩
  ·simp [results,Tryz.results101,go_sem,y0,y1,y2]
  ·exact ((aH.out.store (by omega) _ _).store (by omega) _ _).store (by omega) _ _
theorem qU (va vb:Value) (r s:Rw) (w:World) (ha:RatAt w va r) (hb:RatAt w vb s) (hr:r.Short 34359738368) (hs:s.Short 34359738368):Calls Tryz.prog 112 #[va,vb] w fun e w'=>e=.returned (.int .i64 (kr (gT r - gT s)))/\gO w w':=by
 have am:=af (fun W (hk:gO w W)=>qY va vb r s W (ha.kept hk) (hb.kept hk) hr hs)
 have ag:(gR (gT r - gT s)).Short 137438953472:=by
  have h:=rN ha.ok (ls _) hr (lM hb.ok hs (by omega)) (by omega) (by omega);rw [gV,<-Rat.sub_eq_add_neg] at h;exact ⟨Nat.le_trans h.1 (by omega),Nat.le_trans h.2 (by omega)⟩
 have ap:Hid (∀ W v,RatAt W v (gR (gT r - gT s))->Calls Tryz.prog 121 #[v] W fun e w'=>e=.returned (.int .i64 (kr (gT r - gT s)))/\gO W w'):=af fun W v hv=>by
  have h:=sB v _ W hv ag;rw [gV] at h;exact h
 obtain ⟨u1,u2,rfl,h1,h2⟩:=ha;obtain ⟨u3,u4,rfl,h3,h4⟩:=hb;obtain ⟨a1,c1,rfl⟩:=h1.shape;obtain ⟨a2,c2,rfl⟩:=h2.shape;obtain ⟨a3,c3,rfl⟩:=h3.shape;obtain ⟨a4,c4,rfl⟩:=h4.shape;generalize gR (gT r - gT s)=R at *;generalize kr (gT r - gT s)=S at *;generalize r.num.length=n1 at *;generalize r.den.length=n2 at *;generalize s.num.length=n3 at *;generalize s.den.length=n4 at *;generalize r.neg=neg1 at *;generalize s.neg=neg2 at *;have ah:Hid (gO w ((w.alloc (.cells #[.bool neg1,.slice a1 n1 c1,.slice a2 n2 c2] 29)).alloc (.cells #[.bool neg2,.slice a3 n3 c3,.slice a4 n4 c4] 29))):=af (((gO.refl w).alloc _).alloc _);clear h1 h2 h3 h4 hr hs ag;go_enter Tryz.func112,Tryz.ntmps112;go_wp2_with fail;refine (am.out _ ah.out).mono ?_;rintro e w3 ⟨⟨v3,rfl,ai⟩,aj⟩;have aq:=af ai;have ar:=af (ah.out.trans aj);clear ai aj;go_wp2_with fail;refine (ap.out _ _ aq.out).mono ?_;rintro e w4 ⟨rfl,al⟩;have aw:=af (ar.out.trans al);clear al;go_wp2;go_ret;exact ⟨rfl,aw.out⟩
theorem pb:(gR ((1:Int):Rat)).Short 1:=by
 have h1:(nw 1).length<=1:=iw.2 (by omega);have h:=kR false (n:=1) (d:=1) (k:=1) (l:=1) (by omega) h1 h1;rw [show sg false 1=(1:Int) from rfl,Rat.mkRat_one] at h;exact h
theorem zp (v:Value) (r:Rw) (w:World) (hv:RatAt w v r) (hs:r.Short 34359738368):Calls Tryz.prog 73 #[v] w fun e w'=>e=.returned (.bool (lD r))/\gO w w':=by
 have am:=af (fun W (hk:gO w W)=>qZ v r W (hv.kept hk) ⟨Nat.le_trans hs.1 (by omega),Nat.le_trans hs.2 (by omega)⟩);have aq:=af (fun W (hk:gO w W)=>sB v r W (hv.kept hk) ⟨Nat.le_trans hs.1 (by omega),Nat.le_trans hs.2 (by omega)⟩);have aC:Hid (∀ W,Calls Tryz.prog 102 #[.int .i64 1] W fun e w'=>(∃ v',e=.returned v'/\RatAt w' v' (gR ((1:Int):Rat)))/\gO W w'):=af fun W=>pg 1 W (by omega)
 have ay:Hid (∀ W u,gO w W->RatAt W u (gR ((1:Int):Rat))->Calls Tryz.prog 112 #[v,u] W fun e w'=>e=.returned (.int .i64 (kr (gT r - ((1:Int):Rat))))/\gO W w'):=af fun W u hk hu=>by
  have h:=qU v u r _ W (hv.kept hk) hu hs ⟨Nat.le_trans pb.1 (by omega),Nat.le_trans pb.2 (by omega)⟩;rw [gV] at h;exact h
 rw [tU hv.ok];obtain ⟨neg,num,den⟩:=r;obtain ⟨u1,u2,rfl,h1,h2⟩:=hv;simp only at h1 h2;obtain ⟨a1,c1,rfl⟩:=h1.shape;obtain ⟨a2,c2,rfl⟩:=h2.shape;generalize kr (gT ⟨neg,num,den⟩ - ((1:Int):Rat))=T at *;generalize kr (gT ⟨neg,num,den⟩)=S at *;generalize gR ((1:Int):Rat)=ONE at *;generalize iW ⟨neg,num,den⟩=vb at *;simp only at am aq ay⊢;generalize num.length=n1 at *;generalize den.length=n2 at *;obtain ⟨w1,ap⟩:∃ w1,w1=w.alloc (.cells #[.bool neg,.slice a1 n1 c1,.slice a2 n2 c2] 29):=⟨_,rfl⟩;have HR:Hid (gS w1 w.heap.size 29 [.bool neg,.slice a1 n1 c1,.slice a2 n2 c2]):=af (by rw [ap];exact gS.made w #[.bool neg,.slice a1 n1 c1,.slice a2 n2 c2] 29);have aj:Hid (gO w w1):=af (by rw [ap];exact (gO.refl w).alloc _);have ar:=af ap;have q0:=HR.out.cell (i:=0) (by simp);have q1:=HR.out.cell (i:=1) (by simp);have q2:=HR.out.cell (i:=2) (by simp);simp only [List.getElem_cons_succ,List.getElem_cons_zero] at q0 q1 q2;clear h1 h2 hs ap;cases vb with
 | false =>
  go_enter Tryz.func73,Tryz.ntmps73;go_wp2_with fail;rw [<-ar.out];go_region_with (go_at_call 120;(with_reducible refine (am.out _ aj.out.drew).mono ?_);rintro e w3 ⟨rfl,ag⟩;have ai:=af (aj.out.drew.trans ag);clear ag)
  all_goals
   go_wp2;go_ret;exact ⟨by first | rfl | (simp [Act.put];done) | (simp [go_sem];done),ai.out⟩
 | true =>
  by_cases hS:0<=S
  ·have dS:decide (0<=S)=true:=by simp;exact hS
   have dS':decide (S ≥ 0)=true:=by simp;exact hS
   go_enter Tryz.func73,Tryz.ntmps73;go_wp2_with fail;rw [<-ar.out]
   go_region_with (first
    | (go_at_call 120;(with_reducible refine (am.out _ aj.out.drew).mono ?_);rintro e w3 ⟨rfl,ag⟩;have hkd:=(gO.refl w1).drew.trans ag;have x0:=hkd.cell q0;have x1:=hkd.cell q1;have x2:=hkd.cell q2;have ai:=af (aj.out.trans hkd);clear ag hkd)
    | (go_at_call 121;(with_reducible refine (aq.out _ ai.out).mono ?_);rintro e w4 ⟨rfl,ah⟩;have y0:=ah.cell x0;have y1:=ah.cell x1;have y2:=ah.cell x2;have aw:=af (ai.out.trans ah);clear ah)
    | (go_at_call 102;(with_reducible refine (aC.out _).mono ?_);rintro e w5 ⟨⟨v5,rfl,az⟩,al⟩;have z0:=al.cell y0;have z1:=al.cell y1;have z2:=al.cell y2;have aA:=af (aw.out.trans al);have aD:=af az;clear al az)
    | (go_at_call 112;(with_reducible refine (ay.out _ _ aA.out aD.out).mono ?_);rintro e w6 ⟨rfl,aB⟩;have aF:=af (aA.out.trans aB);clear aB))
   all_goals
    go_wp2;go_ret;exact ⟨by first | (simp [hS,Act.put];done) | (simp [hS,go_sem];done),aF.out⟩
  ·have dS:decide (0<=S)=false:=by simp;omega
   have dS':decide (S ≥ 0)=false:=by simp;omega
   go_enter Tryz.func73,Tryz.ntmps73;go_wp2_with fail;rw [<-ar.out]
   go_region_with (first
    | (go_at_call 120;(with_reducible refine (am.out _ aj.out.drew).mono ?_);rintro e w3 ⟨rfl,ag⟩;have hkd:=(gO.refl w1).drew.trans ag;have x0:=hkd.cell q0;have x1:=hkd.cell q1;have x2:=hkd.cell q2;have ai:=af (aj.out.trans hkd);clear ag hkd)
    | (go_at_call 121;(with_reducible refine (aq.out _ ai.out).mono ?_);rintro e w4 ⟨rfl,ah⟩;have aw:=af (ai.out.trans ah);clear ah))
   all_goals
    go_wp2;go_ret;exact ⟨by simp [Act.put];omega,aw.out⟩
section
open Go.RowKit Go.ChangeShapes Go.WideShapes Go.ChangeAt Go.Joins Go.Deep
def mn (w:World) (v:Value) (xs:List Nat):Prop :=
 ∃ (a:Option Addr) (c:Nat),v=.slice a xs.length c/\(xs.length<=c/\(a=none->c=0))/\xs.length<=140737488355328/\Wd xs /\
  ∀ i (_:i<xs.length),∃ b o,a=some ⟨b,o,none⟩/\w.cell? ⟨b,o+i,none⟩=some (.int .u32 ((xs.getD i 0:Nat):Int))
theorem mn.kept {w w':World} {v:Value} {xs:List Nat} (h:mn w v xs) (hk:gO w w'):mn w' v xs:=by
 obtain ⟨a,c,h1,h2,h3,h4,h5⟩:=h;exact ⟨a,c,h1,h2,h3,h4,fun i hi=>let ⟨b,o,h6,h7⟩:=h5 i hi;⟨b,o,h6,hk.cell h7⟩⟩
theorem mn.small {w:World} {v:Value} {xs:List Nat} (h:mn w v xs) (hl:xs.length<=1099511627776):WdsAt w v xs:=by
 obtain ⟨a,c,h1,h2,_,h4,h5⟩:=h;exact ⟨a,c,h1,h2,hl,h4,h5⟩
theorem mn.shape {w:World} {v:Value} {xs:List Nat} (h:mn w v xs):∃ a c,v=.slice a xs.length c/\xs.length<=140737488355328:=by
 obtain ⟨a,c,h1,_,h3,_⟩:=h;exact ⟨a,c,h1,h3⟩
theorem mn.nil (w:World):mn w (.slice none 0 0) []:=⟨none,0,rfl,⟨by simp,fun _=>rfl⟩,by simp,Wd.nil,fun i h=>by simp at h⟩
def lN (w:World) (v:Value) (ps:List Rw):Prop :=
 ∃ (a:Option Addr) (c:Nat),v=.slice a ps.length c/\(ps.length<=c/\(a=none->c=0))/\ps.length<=140737488355328 /\
  ∀ i (h:i<ps.length),∃ b o u1 u2,a=some ⟨b,o,none⟩/\w.rangeAt b (o+i*3) [.bool ps[i].neg,u1,u2]/\mn w u1 ps[i].num/\mn w u2 ps[i].den
def RatsAt (w:World) (v:Value) (ps:List Rw):Prop :=
 ∃ (a:Option Addr) (c:Nat),v=.slice a ps.length c/\(ps.length<=c/\(a=none->c=0))/\ps.length<=140737488355328 /\
  ∀ i (h:i<ps.length),∃ b o u1 u2,a=some ⟨b,o,none⟩/\w.rangeAt b (o+i*3) [.bool ps[i].neg,u1,u2]/\WdsAt w u1 ps[i].num/\WdsAt w u2 ps[i].den
theorem jN {w w':World} {b o:Nat} {cs:List Value} (h:w.rangeAt b o cs) (hk:gO w w'):w'.rangeAt b o cs:=fun j v hj=>hk.cell (h j v hj)
theorem lN.kept {w w':World} {v:Value} {ps:List Rw} (h:lN w v ps) (hk:gO w w'):lN w' v ps:=by
 obtain ⟨a,c,h1,h2,h3,h4⟩:=h;exact ⟨a,c,h1,h2,h3,fun i hi=>let ⟨b,o,u1,u2,h5,h6,h7,h8⟩:=h4 i hi;⟨b,o,u1,u2,h5,jN h6 hk,h7.kept hk,h8.kept hk⟩⟩
theorem RatsAt.kept {w w':World} {v:Value} {ps:List Rw} (h:RatsAt w v ps) (hk:gO w w'):RatsAt w' v ps:=by
 obtain ⟨a,c,h1,h2,h3,h4⟩:=h;exact ⟨a,c,h1,h2,h3,fun i hi=>let ⟨b,o,u1,u2,h5,h6,h7,h8⟩:=h4 i hi;⟨b,o,u1,u2,h5,jN h6 hk,h7.kept hk,h8.kept hk⟩⟩
theorem lN.small {w:World} {v:Value} {ps:List Rw} (h:lN w v ps) (hs:∀ r∈ps,r.Short 1099511627776):RatsAt w v ps:=by
 obtain ⟨a,c,h1,h2,h3,h4⟩:=h;exact ⟨a,c,h1,h2,h3,fun i hi=>let ⟨b,o,u1,u2,h5,h6,h7,h8⟩:=h4 i hi;⟨b,o,u1,u2,h5,h6,h7.small (hs _ (List.getElem_mem _)).1,h8.small (hs _ (List.getElem_mem _)).2⟩⟩
theorem RatsAt.shape {w:World} {v:Value} {ps:List Rw} (h:RatsAt w v ps):∃ a c,v=.slice a ps.length c:=by obtain ⟨a,c,h1,_⟩:=h;exact ⟨a,c,h1⟩
theorem RatsAt.len {w:World} {v:Value} {ps:List Rw} (h:RatsAt w v ps):ps.length<=140737488355328:=by obtain ⟨a,c,_,_,h1,_⟩:=h;exact h1
theorem RatsAt.get {w:World} {a:Option Addr} {n c:Nat} {ps:List Rw} (h:RatsAt w (.slice a n c) ps) (i:Nat) (hi:i<ps.length):∃ b o u1 u2,a=some ⟨b,o,none⟩/\w.rangeAt b (o+i*3) [.bool (ps.getD i default).neg,u1,u2]/\WdsAt w u1 (ps.getD i default).num/\WdsAt w u2 (ps.getD i default).den:=by
 obtain ⟨a',c',h1,_,_,h4⟩:=h;injection h1 with e1 e2 e3
 subst e1;have e:ps.getD i default=ps[i]:=by simp [List.getD_eq_getElem?_getD,hi]
 rw [e];exact h4 i hi
theorem vt:Tryz.prog.cellsOf 29=3:=by kernel_rfl
theorem ye:Tryz.prog.cellsOf 27=1:=by kernel_rfl
theorem CP:Tryz.prog.cellsOf 70=1:=by kernel_rfl
theorem Ad:Tryz.prog.cellsOf 4=1:=by kernel_rfl
theorem CM:Tryz.prog.bytesOf 29=56:=by kernel_rfl
theorem CN:Tryz.prog.bytesOf 70=4:=by kernel_rfl
theorem tj {n:Int} (h:(Lit.int .u32 n).wf=true):0<=n/\n<4294967296:=by
 simp [Lit.wf,IntKind.min,IntKind.max,IntKind.signed,IntKind.bits] at h;omega
section
variable {H:Type} {enc:TypeId × Value->H} {W:World} {base:Nat}
theorem uP {fuel:Nat} {cs:List Value} {x:DataW H × List MemPlace} (hb:∀ n∈x.1.weights Tryz.prog 27,n<=reachBytes)
  (h:DataW.trod enc Tryz.prog W base (fun _=>true) true fuel 27 cs=some x):∃ u xs,cs=[u]/\mn W u xs:=by
 rcases open_ints Tryz.underlying27 Tryz.underlying70 CP h with ⟨rfl,rfl⟩ | ⟨a,len,cap,zs,rfl,_,hl,hm,hz,rfl,ah,aj⟩
 ·exact ⟨_,[],rfl,mn.nil _⟩
 ·simp only [if_true] at hz
  have al:=hb ((zs.take len).length*4+(zs.drop len).length*4) (by
   simp only [DataW.weights,Tryz.underlying27,CN,List.mem_cons];exact .inl (by simp [lits];omega))
  simp [reachBytes] at al;have ag:((zs.take len).map Int.toNat).length=len:=by simp;omega
  refine ⟨_,(zs.take len).map Int.toNat,rfl,some a,cap,by rw [ag],⟨by rw [ag];exact hl,fun h=>by cases h⟩,by rw [ag];omega,fun z hz=>?_,fun i hi=>?_⟩
  ·obtain ⟨y,hy,rfl⟩:=List.mem_map.1 hz;have:=tj (aj y (List.mem_of_mem_take hy));omega
  ·rw [ag] at hi;have hc:=ah i (by omega);obtain ⟨b,o,spot⟩:=a;have ai:spot=none:=World.cell?_spot (ah 0 (by omega));subst ai;refine ⟨b,o,rfl,?_⟩
   have e:((((zs.take len).map Int.toNat).getD i 0:Nat):Int)=zs.getD i 0:=by
    have h1:i<zs.length:=by omega
    have h2:=tj (aj zs[i] (List.getElem_mem _));simp [List.getD_eq_getElem?_getD,h1,hi];omega
   rw [e,<-hc];congr 1;by_cases h0:i=0
   ·subst h0;rfl
   ·simp [Addr.add,h0]
theorem DS {fuel:Nat} {cs:List Value} {x:DataW H × List MemPlace} (hb:∀ n∈x.1.weights Tryz.prog 23,n<=reachBytes)
  (h:DataW.trod enc Tryz.prog W base (fun _=>true) true fuel 23 cs=some x):∃ u ps,cs=[u]/\lN W u ps:=by
 rcases open_slice Tryz.underlying23 h with ⟨rfl,rfl⟩ | ⟨a,len,cap,m,n,D,Pl,rfl,_,hl,hm,ai,rfl,hx⟩
 ·exact ⟨_,[],rfl,none,0,rfl,⟨by simp,fun _=>rfl⟩,by simp,fun i h=>by simp at h⟩
 ·simp only [if_true] at ai;have am:=ai.symm;subst am
  have ap:=hb (cap*56) (by
   simp only [DataW.weights,Tryz.underlying23,CM,List.mem_cons];refine .inl ?_;simp;omega)
  simp [reachBytes] at ap
  have each:∀ i,i<len->∃ y:Rw,∃ b o u1 u2,a=⟨b,o,none⟩/\W.rangeAt b (o+i*3) [.bool y.neg,u1,u2]/\mn W u1 y.num/\mn W u2 y.den:=by
   intro i hi;obtain ⟨cs',hc,ht⟩:=hx i (by omega);rw [vt] at hc;obtain ⟨_,aq,hat⟩:=World.cells?_some hc;obtain ⟨y0,y1,y2,n',hy,ar,g0,g1,g2⟩:=trod_struct3 Tryz.underlying29 ht
   match cs',aq with
   | [c0,c1,c2],_ =>
    have q0:=hat 0 (by omega);have q1:=hat 1 (by omega);have q2:=hat 2 (by omega);simp only [List.getElem?_cons_zero,List.getElem?_cons_succ] at q0 q1 q2;have k0:Tryz.prog.cellsOf 4=1:=Ad;have k2:Tryz.prog.cellsOf 27=1:=ye;simp only [k0,k2,List.drop_zero,List.drop_succ_cons,List.take_succ_cons,List.take_zero] at g0 g1 g2;obtain ⟨ng,e0,aA⟩:=DataW.trod_bool Tryz.underlying4 g0;simp at e0;subst e0;have aj:D i=.agg [y0.1,y1.1,y2.1]:=by simpa using congrArg Prod.fst hy
    obtain ⟨u1,xs1,e1,aw⟩:=uP (fun n hn=>hb n (by
     simp only [DataW.weights,Tryz.underlying23,List.mem_cons,List.mem_append];refine .inr (.inl (lH (d:=D i) (List.mem_map.2 ⟨i,by simpa using hi,rfl⟩) n ?_));rw [aj];simp only [DataW.weights,Tryz.underlying29];simp only [List.map_cons,DataW.weightsEach,List.mem_append];exact .inr (.inl hn))) g1
    obtain ⟨u2,xs2,e2,ay⟩:=uP (fun n hn=>hb n (by
     simp only [DataW.weights,Tryz.underlying23,List.mem_cons,List.mem_append];refine .inr (.inl (lH (d:=D i) (List.mem_map.2 ⟨i,by simpa using hi,rfl⟩) n ?_));rw [aj];simp only [DataW.weights,Tryz.underlying29];simp only [List.map_cons,DataW.weightsEach,List.mem_append];exact .inr (.inr (.inl hn)))) g2
    simp at e1 e2;subst e1 e2;obtain ⟨b,o,spot⟩:=a
    have ag:spot=none:=by
     obtain ⟨cs0,al,_⟩:=hx 0 (by omega);rw [vt] at al;obtain ⟨_,az,ah⟩:=World.cells?_some al;have h1:=ah 0 (by omega);rw [List.getElem?_eq_getElem (by omega)] at h1;exact World.cell?_spot (a:=⟨b,o,spot⟩) (by simpa [Addr.add] using h1)
    subst ag;refine ⟨⟨ng,xs1,xs2⟩,b,o,c1,c2,rfl,?_,aw,ay⟩;intro j v hj
    match j,hj with
    | 0,hj=>simp at hj;subst hj;rw [<-q0,sP,sP]
    | 1,hj=>simp at hj;subst hj;rw [<-q1,sP,sP]
    | 2,hj=>simp at hj;subst hj;rw [<-q2,sP,sP]
  obtain ⟨g,hg⟩:=choose_lt each;refine ⟨_,(List.range len).map g,rfl,some a,cap,by simp,⟨by simp;omega,fun h=>by cases h⟩,by simp;omega,fun i hi=>?_⟩;simp only [List.length_map,List.length_range] at hi;obtain ⟨b,o,u1,u2,rfl,h1,h2,h3⟩:=hg i hi;exact ⟨b,o,u1,u2,rfl,by simpa using h1,by simpa using h2,by simpa using h3⟩
end
end
def I' (u:Value) (ps:List Rw):Prop:=∃ b,u=.bool b/\(b=false->ps.length<=30/\∀ r∈ps,r.Short 3)
theorem Di (v:Value) (ps:List Rw) (w:World) (hv:lN w v ps) :
  Calls Tryz.prog 12 #[v] w fun e w'=>(∃ u,e=.returned u/\I' u ps)/\gO w w':=by
 obtain ⟨a,c,rfl,⟨hc,_⟩,hl,hx⟩:=hv;obtain ⟨n,hn⟩:∃ n,n=ps.length:=⟨_,rfl⟩;have aR:n<=140737488355328:=by omega
 rw [<-hn];have HX:=af hx;have HN:=af hn;clear hx hn hl hc;go_enter Tryz.func12,Tryz.ntmps12;go_wp2_with fail;go_loopg [3,8] n (fun kx s3 s8 wr=>∃ k t:Nat,k<=n/\s8=.int .i64 k/\n - k<=kx/\s3=.int .i64 t/\t<=3*k/\Hid (∀ r∈ps.take k,r.Short 3)/\Hid (gO w wr))
 case atStart=>exact ⟨0,0,Nat.zero_le _,rfl,by omega,rfl,by omega,af (by simp),af (gO.refl _)⟩
 case round =>
  obtain ⟨k,t,hk,rfl,aS,rfl,ht,HF,HK⟩:=hrel;by_cases aT:k<n
  ·have aC:k<ps.length:=by have:=HN.out;omega
   obtain ⟨b,o,u1,u2,rfl,aq,ar,ap⟩:=HX.out k aC;obtain ⟨r,hr⟩:∃ r,r=ps[k]:=⟨_,rfl⟩;rw [<-hr] at aq ar ap;have HR:=af hr;have ag:=jN aq HK.out;have ah:=ap.kept HK.out;obtain ⟨a1,c1,rfl,aG⟩:=ar.shape;obtain ⟨a2,c2,rfl,aH⟩:=ap.shape
   have aI:Hid (r.Short 3->∀ x∈ps.take (k+1),x.Short 3):=af fun h x hx=>by
    rw [List.take_succ_eq_append_getElem aC] at hx;rcases List.mem_append.1 hx with hx | hx
    ·exact HF.out x hx
    ·simp at hx;rw [hx,<-HR.out];exact h
   have aw:Hid (r.num.length<=3->r.den.length<=3->r.Short 3):=af fun h1 h2=>⟨h1,h2⟩
   obtain ⟨n1,aD⟩:∃ n1,n1=r.num.length:=⟨_,rfl⟩;obtain ⟨n2,ay⟩:∃ n2,n2=r.den.length:=⟨_,rfl⟩;rw [<-aD] at ag aG aw;rw [<-ay] at ag aH aw ah;have ai:Hid (wr.rangeAt b (o+k*3) [.bool r.neg,.slice a1 n1 c1,.slice a2 n2 c2]):=af ag;have aj:Hid (gO w (wr.alloc (.cells #[.bool r.neg,.slice a1 n1 c1,.slice a2 n2 c2] 29))):=af (HK.out.alloc _);have aJ:=af ah;have aK:=af ay;have aL:(k:Int)<(n:Int):=by omega
   clear hr aq ar ap ah ag aD ay;by_cases h1:3<n1
   ·have g1:(3:Int)<(n1:Int):=by omega
    have d1:decide ((3:Int)<(n1:Int))=true:=decide_eq_true g1;go_wp2_with (with_reducible refine wpList_load_mid rfl 29 _ rfl b (o+k*3) rfl _ _ ai.out Tryz.underlying29 rfl (by kernel_rfl) ?_);go_ret;exact ⟨⟨_,rfl,true,rfl,fun h=>by cases h⟩,aj.out⟩
   ·have g1:¬ (3:Int)<(n1:Int):=by omega
    have d1:decide ((3:Int)<(n1:Int))=false:=decide_eq_false g1;by_cases h2:3<n2
    ·have g2:(3:Int)<(n2:Int):=by omega
     have d2:decide ((3:Int)<(n2:Int))=true:=decide_eq_true g2;go_wp2_with (with_reducible refine wpList_load_mid rfl 29 _ rfl b (o+k*3) rfl _ _ ai.out Tryz.underlying29 rfl (by kernel_rfl) ?_);go_ret;exact ⟨⟨_,rfl,true,rfl,fun h=>by cases h⟩,aj.out⟩
    ·have g2:¬ (3:Int)<(n2:Int):=by omega
     have d2:decide ((3:Int)<(n2:Int))=false:=decide_eq_false g2;have am:=af (aI.out (aw.out (by omega) (by omega)));obtain ⟨mx,aM⟩:∃ mx,mx=max n1 n2:=⟨_,rfl⟩;have emx:max (n1:Int) (n2:Int)=(mx:Int):=by omega
     obtain ⟨t2,aN⟩:∃ t2,t2=t+mx:=⟨_,rfl⟩;have et2:(t:Int)+(mx:Int)=(t2:Int):=by omega
     have al:t2<=3*(k+1):=by omega
     have aO:t2<=422212465065987:=by omega
     clear aM aN;by_cases h3:1<n1
     ·have g3:(1:Int)<(n1:Int):=by omega
      have d3:decide ((1:Int)<(n1:Int))=true:=decide_eq_true g3;go_wp2_with (with_reducible refine wpList_load_mid rfl 29 _ rfl b (o+k*3) rfl _ _ ai.out Tryz.underlying29 rfl (by kernel_rfl) ?_);go_roundg (n - (k+1))
      case measure=>omega
      case rel=>exact ⟨k+1,t2,by omega,by go_num,Nat.le_refl _,rfl,al,am,aj⟩
     ·have g3:¬ (1:Int)<(n1:Int):=by omega
      have d3:decide ((1:Int)<(n1:Int))=false:=decide_eq_false g3;by_cases h4:1<n2
      ·have g4:(1:Int)<(n2:Int):=by omega
       have d4:decide ((1:Int)<(n2:Int))=true:=decide_eq_true g4;go_wp2_with (with_reducible refine wpList_load_mid rfl 29 _ rfl b (o+k*3) rfl _ _ ai.out Tryz.underlying29 rfl (by kernel_rfl) ?_);go_roundg (n - (k+1))
       case measure=>omega
       case rel=>exact ⟨k+1,t2,by omega,by go_num,Nat.le_refl _,rfl,al,am,aj⟩
      ·have g4:¬ (1:Int)<(n2:Int):=by omega
       have d4:decide ((1:Int)<(n2:Int))=false:=decide_eq_false g4;by_cases h5:n2=1
       ·have e5:((n2:Int) == 1)=true:=by simp;omega
        have az:0<r.den.length:=by have:=aK.out;omega
        obtain ⟨a2',c2',h6,h7,_,_,h8⟩:=aJ.out;injection h6 with h9 aP aQ
        obtain ⟨b2,o2,aF,aA⟩:=h8 0 az;rw [<-h9] at aF;subst aF;obtain ⟨y,hy⟩:∃ y,y=r.den.getD 0 0:=⟨_,rfl⟩;rw [<-hy,Nat.add_zero] at aA;have aU:=((gO.refl wr).alloc (.cells #[.bool r.neg,.slice a1 n1 c1,.slice (some ⟨b2,o2,none⟩) n2 c2] 29)).cell aA;have q0:(0:Int)<(n2:Int):=by omega
        have q0':0<n2:=by omega
        clear h7 h8 h9 aP aQ aA hy h5;by_cases aV:1024<=y
        ·have d5:decide ((1024:Int)<=(y:Int))=true:=decide_eq_true (by omega);have g5:(1024:Int)<=(y:Int):=by omega
         go_wp2_with (with_reducible refine wpList_load_mid rfl 29 _ rfl b (o+k*3) rfl _ _ ai.out Tryz.underlying29 rfl (by kernel_rfl) ?_);go_roundg (n - (k+1))
         case measure=>omega
         case rel=>exact ⟨k+1,t2,by omega,by go_num,Nat.le_refl _,rfl,al,am,aj⟩
        ·have d5:decide ((1024:Int)<=(y:Int))=false:=decide_eq_false (by omega);have g5:¬ (1024:Int)<=(y:Int):=by omega
         go_wp2_with (with_reducible refine wpList_load_mid rfl 29 _ rfl b (o+k*3) rfl _ _ ai.out Tryz.underlying29 rfl (by kernel_rfl) ?_);go_roundg (n - (k+1))
         case measure=>omega
         case rel=>exact ⟨k+1,t,by omega,by go_num,Nat.le_refl _,rfl,by omega,am,aj⟩
       ·have e5:((n2:Int) == 1)=false:=by simp;omega
        go_wp2_with (with_reducible refine wpList_load_mid rfl 29 _ rfl b (o+k*3) rfl _ _ ai.out Tryz.underlying29 rfl (by kernel_rfl) ?_);go_roundg (n - (k+1))
        case measure=>omega
        case rel=>exact ⟨k+1,t,by omega,by go_num,Nat.le_refl _,rfl,by omega,am,aj⟩
  ·have aW:k=n:=by omega
   have aB:Hid (∀ r∈ps,r.Short 3):=af (by have:=HF.out;rwa [List.take_of_length_le (by have:=HN.out;omega)] at this);have aL:¬ (k:Int)<(n:Int):=by omega
   by_cases aX:30<n
   ·have g30:(30:Int)<(n:Int):=by omega
    have d30:decide ((30:Int)<(n:Int))=true:=decide_eq_true g30;go_wp2;go_ret;exact ⟨⟨_,rfl,true,rfl,fun h=>by cases h⟩,HK.out⟩
   ·have g30:¬ (30:Int)<(n:Int):=by omega
    have d30:decide ((30:Int)<(n:Int))=false:=decide_eq_false g30;go_wp2;go_ret;exact ⟨⟨_,rfl,_,rfl,fun _=>⟨by have:=HN.out;omega,aB.out⟩⟩,HK.out⟩
def J_ (g:Nat) (lb:Array Value) (p:Rw->Bool) (w:World):Prop :=
 ∀ (W:World) (u:Value) (x:Rw),gO w W->RatAt W u x->x.Short 34359738368->Calls Tryz.prog g (#[u]++lb) W fun e W'=>e=.returned (.bool (p x))/\gO W W'
def kQ (ps:List Rw):Bool:=ps.any fun r=>!lD r
theorem ug (v:Value) (ps:List Rw) (w:World) (hv:RatsAt w v ps) (hs:∀ x∈ps,x.Short 34359738368):Calls Tryz.prog 31 #[v] w fun e w'=>e=.returned (.bool (kQ ps))/\gO w w':=by
 obtain ⟨a,c,rfl,⟨hc,_⟩,hl,hx⟩:=hv;obtain ⟨n,hn⟩:∃ n,n=ps.length:=⟨_,rfl⟩;have hbig:n<=140737488355328:=by omega
 rw [<-hn];have HX:=af hx;have HN:=af hn;have ay:=af hs;clear hx hn hl hc hs;go_enter Tryz.func31,Tryz.ntmps31;go_wp2_with fail;go_loopg [7] n (fun kx i wr=>∃ k:Nat,k<=n/\i=.int .i64 k/\n - k<=kx/\Hid (∀ x∈ps.take k,lD x=true)/\Hid (gO w wr))
 case atStart=>exact ⟨0,Nat.zero_le _,rfl,by omega,af (by simp),af (gO.refl _)⟩
 case round =>
  obtain ⟨k,hk,rfl,aA,HF,HK⟩:=hrel;by_cases aB:k<n
  ·have ap:k<ps.length:=by have:=HN.out;omega
   obtain ⟨b,o,u1,u2,rfl,aq,ah,ai⟩:=HX.out k ap;have ag:=jN aq HK.out;have aj:=ay.out ps[k] (List.getElem_mem _);obtain ⟨x,al⟩:∃ x,x=ps[k]:=⟨_,rfl⟩;rw [<-al] at ag aj ah ai;have ar:=af al;obtain ⟨a1,c1,rfl⟩:=ah.shape;obtain ⟨a2,c2,rfl⟩:=ai.shape;have HC:Hid (∀ W,gO w W->Calls Tryz.prog 73 #[.agg #[.bool x.neg,.slice a1 x.num.length c1,.slice a2 x.den.length c2]] W fun e W'=>e=.returned (.bool (lD x))/\gO W W'):=af fun W hk=>zp _ x W ⟨_,_,rfl,ah.kept hk,ai.kept hk⟩ aj
   generalize x.num.length=n1 at *;generalize x.den.length=n2 at *;have aw:Hid (wr.rangeAt b (o+k*3) [.bool x.neg,.slice a1 n1 c1,.slice a2 n2 c2]):=af ag;have az:(k:Int)<(n:Int):=by omega
   clear aq ag al aj ah ai;cases hq:lD x with
   | false =>
    rw [hq] at HC;have HQ:=af hq;clear hq;go_wp2_with (first | (with_reducible refine wpList_load_mid rfl 29 _ rfl b (o+k*3) rfl _ _ aw.out Tryz.underlying29 rfl (by kernel_rfl) ?_) | (go_at_call 73;refine (HC.out _ (HK.out.alloc _)).mono ?_;rintro e w' ⟨rfl,am⟩));go_ret;have hb:kQ ps=true:=List.any_eq_true.2 ⟨x,by rw [ar.out];exact List.getElem_mem _,by rw [HQ.out];rfl⟩;exact ⟨by rw [hb];rfl,(HK.out.alloc _).trans am⟩
   | true =>
    rw [hq] at HC;have HQ:=af hq;clear hq;go_wp2_with (first | (with_reducible refine wpList_load_mid rfl 29 _ rfl b (o+k*3) rfl _ _ aw.out Tryz.underlying29 rfl (by kernel_rfl) ?_) | (go_at_call 73;refine (HC.out _ (HK.out.alloc _)).mono ?_;rintro e w' ⟨rfl,am⟩));go_roundg (n - (k+1))
    case measure=>omega
    case rel =>
     refine ⟨k+1,by omega,by go_num,Nat.le_refl _,af ?_,af ((HK.out.alloc _).trans am)⟩;intro y hy;rw [List.take_succ_eq_append_getElem ap] at hy;rcases List.mem_append.1 hy with hy | hy
     ·exact HF.out y hy
     ·simp at hy;rw [hy,<-ar.out];exact HQ.out
  ·have hh:=HF.out;rw [List.take_of_length_le (by have:=HN.out;omega)] at hh;have HB:Hid (kQ ps=false):=af (by unfold kQ;rw [List.any_eq_false];intro y hy;simp [hh y hy]);have az:¬ (k:Int)<(n:Int):=by omega
   clear hh;go_wp2;go_ret;exact ⟨by rw [HB.out];rfl,HK.out⟩
def lz (s:Nat):List Nat:=(List.range 24).filter fun i=>s.testBit i
def oy (s:Nat):Int:=(Lib.bitLen s:Int) - 1
theorem E_ {s i:Nat} (h:i∈lz s):i<24/\s.testBit i=true:=by
 have:=List.mem_filter.1 h;exact ⟨by simpa using this.1,this.2⟩
theorem ya {x n:Nat} (h1:2^n<=x) (h2:x<2^(n+1)) (hn:n<60):Lib.bitLen x=n+1:=by
 have ag:x<2^64:=Nat.lt_of_lt_of_le h2 (Nat.pow_le_pow_right (by omega) (by omega));have h3:=Lib.bitLen_le x (n+1) (by omega) h2;have h4:=rg ag;have h5:n<Lib.bitLen x:=(Nat.pow_lt_pow_iff_right (by omega:1<2)).1 (Nat.lt_of_le_of_lt h1 h4);omega
theorem vL (l:List Nat) (x:Nat):∀ a:Int,(l++[x]).foldl (fun (_:Int) (i:Nat)=>(i:Int)) a=(x:Int):=by
 intro a;rw [List.foldl_append];rfl
theorem AD (s:Nat):∀ n,n<=24->((List.range n).filter fun i=>s.testBit i).foldl (fun (_:Int) (i:Nat)=>(i:Int)) (-1)=(Lib.bitLen (s % 2^n):Int) - 1:=by
 intro n;induction n with
 | zero=>intro _;simp [Nat.mod_one];rfl
 | succ n ih =>
  intro hn;have ih:=ih (by omega);rw [List.range_succ,List.filter_append,yb]
  have hb:s / 2^n % 2=if s.testBit n then 1 else 0:=by
   rw [Nat.testBit_eq_decide_div_mod_eq]
   have:s / 2^n % 2<2:=Nat.mod_lt _ (by omega)
   by_cases h:s / 2^n % 2=1
   ·simp [h]
   ·simp [h];omega
  cases ht:s.testBit n with
  | false =>
   rw [ht] at hb;simp only [List.filter_cons,ht,List.filter_nil,Bool.false_eq_true,if_false,List.append_nil] at hb⊢;rw [hb,Nat.zero_mul,Nat.add_zero];exact ih
  | true =>
   rw [ht] at hb;simp only [List.filter_cons,ht,List.filter_nil,if_true] at hb⊢;rw [vL,hb,Nat.one_mul];have h1:s % 2^n<2^n:=Nat.mod_lt _ (Nat.two_pow_pos n);rw [ya (n:=n) (by omega) (by rw [Nat.pow_succ];omega) (by omega)];omega
theorem Dj {s:Nat} (hs:s<16777216):(lz s).foldl (fun (_:Int) (i:Nat)=>(i:Int)) (-1)=oy s:=by
 have h:=AD s 24 (Nat.le_refl _);have e:(2:Nat)^24=16777216:=rfl;rw [e,Nat.mod_eq_of_lt hs] at h;exact h
theorem EK {s i:Nat} (hs:s<16777216) (h:s.testBit i=true):(i:Int)<=oy s:=by
 unfold oy;have h1:2^i<=s:=Nat.ge_two_pow_of_testBit h;have ag:s<2^64:=Nat.lt_of_lt_of_le hs (by decide);have h4:=rg ag;have h5:i<Lib.bitLen s:=(Nat.pow_lt_pow_iff_right (by omega:1<2)).1 (Nat.lt_of_le_of_lt h1 h4);omega
theorem th {s i:Nat} (hs:s<16777216) (hi:24<=i):s.testBit i=false:=by
 cases h:s.testBit i with
 | false=>rfl
 | true =>
  exfalso
  have h1:2^i<=s:=Nat.ge_two_pow_of_testBit h;have h2:2^24<=2^i:=Nat.pow_le_pow_right (by omega) hi;have e:(2:Nat)^24=16777216:=rfl;omega
theorem Fo (c i:Nat) (hc:c<16777216) (w:World):Calls Tryz.prog 98 #[.int .i64 c,.int .i64 i] w fun e w'=>e=.returned (.bool (c.testBit i))/\w'=w:=by
 by_cases hi:i<24
 ·have e:=Cf c i hc;have h1:(0:Int)<=(i:Int):=by omega
  have h2:(i:Int)<24:=by omega
  have E:=af e;clear e hc;go_enter Tryz.func98,Tryz.ntmps98;go_wp2;go_ret;exact ⟨by rw [<-E.out];rfl,rfl⟩
 ·rw [th hc (by omega)];have h1:(0:Int)<=(i:Int):=by omega
  have h2:¬ (i:Int)<24:=by omega
  have d2:decide ((i:Int)<24)=false:=decide_eq_false h2;clear hc hi;go_enter Tryz.func98,Tryz.ntmps98;go_wp2;go_ret;exact ⟨by first | rfl | simp,rfl⟩
theorem Ay (c i:Nat) (hc:c<16777216) (w:World):Calls Tryz.prog 211 #[.int .i64 c,.int .i64 i] w fun e w'=>e=.returned (.bool (c.testBit i))/\w'=w:=by
 by_cases hi:i<24
 ·have e:=Cf c i hc;have h1:(0:Int)<=(i:Int):=by omega
  have h2:(i:Int)<24:=by omega
  have E:=af e;clear e hc;go_enter Tryz.func211,Tryz.ntmps211;go_wp2;go_ret;exact ⟨by rw [<-E.out];rfl,rfl⟩
 ·rw [th hc (by omega)];have h1:(0:Int)<=(i:Int):=by omega
  have h2:¬ (i:Int)<24:=by omega
  have d2:decide ((i:Int)<24)=false:=decide_eq_false h2;clear hc hi;go_enter Tryz.func211,Tryz.ntmps211;go_wp2;go_ret;exact ⟨by first | rfl | simp,rfl⟩
theorem C' (s:Nat) (hs:s<16777216) (w:World):Calls Tryz.prog 95 #[.int .i64 s] w fun e w'=>e=.returned (.int .i64 (oy s))/\w'=w:=by
 have HC:Hid (∀ W,Calls Tryz.prog 135 #[.int .i64 s] W fun e w'=>e=.returned (.int .i64 s)/\W=w'):=af fun W=>ts (by unfold Mk;omega) W
 have ew:IntKind.u64.wrap (s:Int)=(s:Int):=by rw [IntKind.wrap_u64];omega
 obtain ⟨z,hz⟩:∃ z,z=Lib.bitLen s:=⟨_,rfl⟩;have ag:z<=24:=by rw [hz];exact Lib.bitLen_le s 24 (by omega) (by rw [show (2:Nat)^24=16777216 from rfl];exact hs)
 have HL:Hid (∀ W,Calls Tryz.prog 132 #[.int .u64 (s:Int)] W fun e w'=>e=.returned (.int .i64 z)/\w'=W):=af fun W=>by
  have h:=Tryz.bits_Len (s:Int) W (by omega) (by omega);rw [Int.toNat_natCast,<-hz] at h;exact h
 have hg:oy s=(z:Int) - 1:=by unfold oy;rw [hz]
 rw [hg];clear hz hg hs;go_enter Tryz.func95,Tryz.ntmps95;go_wp2_with (first | (go_at_call 135;refine (HC.out _).mono ?_;rintro e w2 ⟨rfl,rfl⟩) | (go_at_call 132;refine (HL.out _).mono ?_;rintro e w2 ⟨rfl,rfl⟩));go_ret;exact ⟨rfl,rfl⟩
theorem tt (s k:Nat):((List.range (k+1)).filter fun i=>s.testBit i)=((List.range k).filter fun i=>s.testBit i)++(if s.testBit k then [k] else []):=by
 rw [List.range_succ,List.filter_append];congr 1;cases h:s.testBit k <;> simp [h]
theorem vA (s n:Nat):((List.range n).filter fun i=>s.testBit i).length<=n:=by
 have:=List.length_filter_le (fun i=>s.testBit i) (List.range n);simpa using this
theorem CU (s:Nat) (hs:s<16777216) (w:World):Calls Tryz.prog 160 #[.int .i64 s] w fun e w'=>(∃ v,e=.returned v/\OwnInts w' w.heap.size v (ib (lz s)))/\gO w w':=by
 have HH:=af (fun (i:Nat) W=>Ay s i hs W);clear hs;go_enter Tryz.func160,Tryz.ntmps160;go_wp2_with fail;go_loopg [3,5] 24 (fun kx s3 s5 wr=>∃ k:Nat,k<=24/\s5=.int .i64 k/\24 - k<=kx/\Hid (OwnInts wr w.heap.size s3 (ib ((List.range k).filter fun i=>s.testBit i)))/\Hid (gO w wr))
 case atStart=>exact ⟨0,Nat.zero_le _,rfl,by omega,af (OwnInts.nil _ _),af (gO.refl _)⟩
 case round =>
  obtain ⟨k,hk,rfl,al,HO,HK⟩:=hrel;obtain ⟨a3,n3,c3,rfl⟩:=HO.out.ints.shape;by_cases am:k<24
  ·have aj:(k:Int)<24:=by omega
   have ag:=af (tt s k);have ah:=af (vA s k);cases hb:s.testBit k with
   | false =>
    have HC:Hid (∀ W,Calls Tryz.prog 211 #[.int .i64 s,.int .i64 k] W fun e w'=>e=.returned (.bool false)/\w'=W):=af fun W=>by have h:=HH.out k W;rw [hb] at h;exact h
    rw [hb] at ag;clear hb;go_wp2_with (go_at_call 211;refine (HC.out _).mono ?_;rintro e w2 ⟨rfl,rfl⟩);go_roundg (24 - (k+1))
    case measure=>omega
    case rel=>exact ⟨k+1,by omega,by go_num,Nat.le_refl _,af (by rw [ag.out];simpa using HO.out),HK⟩
   | true =>
    have HC:Hid (∀ W,Calls Tryz.prog 211 #[.int .i64 s,.int .i64 k] W fun e w'=>e=.returned (.bool true)/\w'=W):=af fun W=>by have h:=HH.out k W;rw [hb] at h;exact h
    rw [hb] at ag;obtain ⟨L,hL⟩:∃ L,L=((List.range k).filter fun i=>s.testBit i):=⟨_,rfl⟩;rw [<-hL] at HO ah ag;clear hb hL
    go_wp2_with (first
     | (go_at_call 211;refine (HC.out _).mono ?_;rintro e w2 ⟨rfl,rfl⟩)
     | (at_builtin;refine kp rfl _ _ rfl w.heap.size _ (ib L) rfl (HO.out.kept ((gO.refl _).alloc _)) _ (k:Int) rfl (by simp) (by have:=ah.out;unfold ib;rw [List.length_map];omega) (by have:=HK.out.size;simp;omega) ?_;intro v' w' h5 _ h6;have H5:=af h5;have H6:=af h6;clear h5 h6))
    obtain ⟨a5,n5,c5,rfl⟩:=H5.out.ints.shape;go_roundg (24 - (k+1))
    case measure=>omega
    case rel=>exact ⟨k+1,by omega,by go_num,Nat.le_refl _,af (by rw [ag.out];simpa [ib] using H5.out),af ((HK.out.alloc _).app H6.out)⟩
  ·have ai:k=24:=by omega
   have HE:Hid (OwnInts wr w.heap.size (.slice a3 n3 c3) (ib (lz s))):=af (by have h:=HO.out;rw [ai] at h;exact h);have aj:¬ (k:Int)<24:=by omega
   clear ai;go_wp2;go_ret;exact ⟨⟨_,rfl,HE.out⟩,HK.out⟩
theorem vz (s:Nat) (hs:s<16777216) (w:World):Calls Tryz.prog 160 #[.int .i64 s] w fun e w'=>(∃ v,e=.returned v/\gU w' v (ib (lz s)))/\gO w w' :=
 (CU s hs w).mono fun _ _ ⟨⟨v,h1,h2⟩,h3⟩=>⟨⟨v,h1,h2.ints⟩,h3⟩
theorem yw (s:Nat) (hs:s<16777216) (w:World):Calls Tryz.prog 100 #[.int .i64 s] w fun e w'=>e=.returned (.int .i64 (oy s))/\gO w w':=by
 have HE:=af (vz s hs w);have HG:=af (Dj hs);obtain ⟨L,hL⟩:∃ L,L=lz s:=⟨_,rfl⟩;rw [<-hL] at HE HG;obtain ⟨G,hG⟩:∃ G,G=oy s:=⟨_,rfl⟩;rw [<-hG] at HG⊢;clear hs hL hG;go_enter Tryz.func100,Tryz.ntmps100;go_wp2_with fail;refine HE.out.mono ?_;rintro e w2 ⟨⟨v2,rfl,am⟩,ah⟩;obtain ⟨a,c,rfl,⟨hc,_⟩,hl,hx⟩:=am;obtain ⟨n,hn⟩:∃ n,n=(ib L).length:=⟨_,rfl⟩;have ai:n=L.length:=by rw [hn];unfold ib;rw [List.length_map]
 rw [<-hn];have az:n<=140737488355328:=by omega
 have HX:=af hx;have HN:=af hn;have aj:=af ai;have ap:=af ah;clear hx hn hl hc ah ai;go_wp2_with fail;go_loopg [3,9] n (fun kx s3 s9 wr=>∃ k:Nat,k<=n/\s9=.int .i64 k/\n - k<=kx/\s3=.int .i64 ((L.take k).foldl (fun (_:Int) (i:Nat)=>(i:Int)) (-1))/\w2=wr)
 case atStart=>exact ⟨0,Nat.zero_le _,rfl,by omega,rfl,rfl⟩
 case round =>
  obtain ⟨k,hk,rfl,aA,rfl,rfl⟩:=hrel;by_cases al:k<n
  ·obtain ⟨b,o,rfl,ag⟩:=HX.out k (by rw [<-HN.out];exact al);have aq:k<L.length:=by have:=aj.out;omega
   obtain ⟨y,hy⟩:∃ y,y=L[k]:=⟨_,rfl⟩;have e1:(ib L)[k]'(by rw [<-HN.out];exact al)=(y:Int):=by rw [hy];simp [ib]
   rw [e1] at ag;have ar:Hid (((y:Nat):Int)=(L.take (k+1)).foldl (fun (_:Int) (i:Nat)=>(i:Int)) (-1)):=af (by rw [List.take_succ_eq_append_getElem aq,vL,hy]);have aw:(k:Int)<(n:Int):=by omega
   generalize (L.take k).foldl (fun (_:Int) (i:Nat)=>(i:Int)) (-1)=z at *;clear e1 hy;go_wp2_with fail;go_roundg (n - (k+1))
   case measure=>omega
   case rel=>exact ⟨k+1,by omega,by go_num,Nat.le_refl _,by rw [ar.out],rfl⟩
  ·have ay:Hid ((L.take k).foldl (fun (_:Int) (i:Nat)=>(i:Int)) (-1)=G):=af (by rw [List.take_of_length_le (by have:=aj.out;omega)];exact HG.out);have aw:¬ (k:Int)<(n:Int):=by omega
   rw [ay.out];go_wp2;go_ret;exact ⟨rfl,ap.out⟩
theorem iX.store {w:World} {g:Nat} {xs:List Value} (h:iX w g xs) (i:Nat) (u:Value):iX (w.setCell ⟨g,i,none⟩ u) g (xs.set i u):=by
 obtain ⟨cur,e,h1,h2⟩:=h;refine ⟨cur.setIfInBounds i u,e,by simp [World.setCell,Array.getElem?_modify,h1],?_⟩;rw [Array.toList_setIfInBounds,h2]
def RatCell (w:World) (g:Nat) (r:Rw):Prop:=∃ a1 c1 a2 c2,gS w g 29 [.bool r.neg,.slice a1 r.num.length c1,.slice a2 r.den.length c2]/\iX w g [.bool r.neg,.slice a1 r.num.length c1,.slice a2 r.den.length c2]/\WdsAt w (.slice a1 r.num.length c1) r.num/\WdsAt w (.slice a2 r.den.length c2) r.den
theorem RatCell.kept {w w':World} {g:Nat} {r:Rw} (h:RatCell w g r) (hk:gO w w'):RatCell w' g r:=by
 obtain ⟨a1,c1,a2,c2,h1,h2,h3,h4⟩:=h;exact ⟨a1,c1,a2,c2,h1.kept hk,h2.kept hk,h3.kept hk,h4.kept hk⟩
theorem RatCell.made {w:World} {r:Rw} {a1 a2:Option Addr} {c1 c2:Nat} (h1:WdsAt w (.slice a1 r.num.length c1) r.num) (h2:WdsAt w (.slice a2 r.den.length c2) r.den) :
  RatCell (w.alloc (.cells #[.bool r.neg,.slice a1 r.num.length c1,.slice a2 r.den.length c2] 29)) w.heap.size r :=
 ⟨a1,c1,a2,c2,gS.made w #[.bool r.neg,.slice a1 r.num.length c1,.slice a2 r.den.length c2] 29,iX.made w #[.bool r.neg,.slice a1 r.num.length c1,.slice a2 r.den.length c2] 29,h1.kept ((gO.refl _).alloc _),h2.kept ((gO.refl _).alloc _)⟩
theorem RatCell.store {w:World} {g:Nat} {r r':Rw} {a1 a2:Option Addr} {c1 c2:Nat} (h:RatCell w g r) (h1:WdsAt w (.slice a1 r'.num.length c1) r'.num) (h2:WdsAt w (.slice a2 r'.den.length c2) r'.den) :
  RatCell (((w.setCell ⟨g,0,none⟩ (.bool r'.neg)).setCell ⟨g,1,none⟩ (.slice a1 r'.num.length c1)).setCell ⟨g,2,none⟩ (.slice a2 r'.den.length c2)) g r':=by
 obtain ⟨a3,c3,a4,c4,h3,h4,_,_⟩:=h;have hr:=((h3.store 0 (.bool r'.neg)).store 1 (.slice a1 r'.num.length c1)).store 2 (.slice a2 r'.den.length c2);have hf:=((h4.store 0 (.bool r'.neg)).store 1 (.slice a1 r'.num.length c1)).store 2 (.slice a2 r'.den.length c2);simp only [List.set_cons_zero,List.set_cons_succ] at hr hf;have hO:=(((iq.refl g w).store 0 (.bool r'.neg)).store 1 (.slice a1 r'.num.length c1)).store 2 (.slice a2 r'.den.length c2);exact ⟨a1,c1,a2,c2,hr,hf,h1.apart h4 (by simp) hO,h2.apart h4 (by simp) hO⟩
theorem RatCell.at {w:World} {g:Nat} {r:Rw} (h:RatCell w g r):∃ a1 c1 a2 c2,(w.cell? ⟨g,0,none⟩=some (.bool r.neg)/\w.cell? ⟨g,1,none⟩=some (.slice a1 r.num.length c1)/\w.cell? ⟨g,2,none⟩=some (.slice a2 r.den.length c2))/\(w.frozen? ⟨g,0,none⟩=false/\w.frozen? ⟨g,1,none⟩=false/\w.frozen? ⟨g,2,none⟩=false)/\g<w.heap.size/\RatAt w (.agg #[.bool r.neg,.slice a1 r.num.length c1,.slice a2 r.den.length c2]) r:=by
 obtain ⟨a1,c1,a2,c2,h1,h2,h3,h4⟩:=h;refine ⟨a1,c1,a2,c2,⟨?_,?_,?_⟩,⟨h1.free 0,h1.free 1,h1.free 2⟩,h1.lt,_,_,rfl,h3,h4⟩
 ·have:=h1.cell (i:=0) (by simp);simpa using this
 ·have:=h1.cell (i:=1) (by simp);simpa using this
 ·have:=h1.cell (i:=2) (by simp);simpa using this
def kE (s:Nat) (ps:List Rw):Nat->Rat
 | 0=>1
 | k+1=>if s.testBit k=true then kE s ps k*gT (ps.getD k default) else kE s ps k
theorem mv (s:Nat) (ps:List Rw) (k:Nat):kE s ps (k+1)=if s.testBit k=true then kE s ps k*gT (ps.getD k default) else kE s ps k:=rfl
theorem tW {s:Nat} {ps:List Rw} {n m:Nat} (h:∀ i,n<=i->s.testBit i=false) (hm:n<=m):kE s ps m=kE s ps n:=by
 induction m with
 | zero=>rw [show n=0 by omega]
 | succ m ih =>
  by_cases he:n=m+1
  ·rw [he]
  ·rw [mv,if_neg (by rw [h m (by omega)];simp)];exact ih (by omega)
theorem zf (s:Nat) (ps:List Rw):∀ n,((List.range n).filter fun i=>s.testBit i).foldl (fun (q:Rat) (i:Nat)=>q*gT (ps.getD i default)) 1=kE s ps n:=by
 intro n;induction n with
 | zero=>rfl
 | succ n ih =>
  rw [tt,List.foldl_append,ih,mv];cases h:s.testBit n <;> rfl
theorem tX {s:Nat} {ps:List Rw} (hs:∀ r∈ps,r.Short 3) (ag:∀ r∈ps,r.Ok):∀ n,n<=ps.length->(gR (kE s ps n)).Short (3*n+1):=by
 intro n;induction n with
 | zero=>intro _;exact pb
 | succ n ih =>
  intro hn;have ih:=ih (by omega);have hx:ps.getD n default=ps[n]:=by simp [List.getD_eq_getElem?_getD,show n<ps.length by omega]
  rw [mv];split
  ·have h:=rO (ls (kE s ps n)) (ag _ (List.getElem_mem (show n<ps.length by omega))) ih (hs _ (List.getElem_mem (show n<ps.length by omega))) (by omega) (by omega);rw [gV,<-hx] at h;exact ⟨Nat.le_trans h.1 (by omega),Nat.le_trans h.2 (by omega)⟩
  ·exact ⟨Nat.le_trans ih.1 (by omega),Nat.le_trans ih.2 (by omega)⟩
theorem RatsAt.ok {w:World} {v:Value} {ps:List Rw} (h:RatsAt w v ps):∀ r∈ps,r.Ok:=by
 obtain ⟨a,c,_,_,_,h4⟩:=h;intro r hr;obtain ⟨i,hi,rfl⟩:=List.getElem_of_mem hr;obtain ⟨_,_,_,_,_,_,h7,h8⟩:=h4 i hi;exact ⟨h7.wd,h8.wd⟩
theorem gU.apart {w w':World} {g:Nat} {v:Value} {xs:List Int} {row:List Value} (h:gU w v xs) (hr:iX w g row) (hn:∀ k x,Value.int k x ∉ row) (ho:iq g w w'):gU w' v xs:=by
 obtain ⟨a,c,h1,h2,h3,h5⟩:=h;refine ⟨a,c,h1,h2,h3,fun i hi=>?_⟩;obtain ⟨b,o,h6,h7⟩:=h5 i hi;refine ⟨b,o,h6,?_⟩
 have ag:b≠g:=fun e=>by
  subst e;exact hn _ _ (hr.only h7)
 have ah:b<w.heap.size:=World.block_lt_of_cell? w _ h7;have:=ho.block b ah ag;simp only [World.cell?,this] at h7⊢;exact h7
theorem RatCell.ints {w:World} {g:Nat} {r:Rw} (h:RatCell w g r) {v:Value} {xs:List Int} (hv:gU w v xs) (u0 u1 u2:Value):gU (((w.setCell ⟨g,0,none⟩ u0).setCell ⟨g,1,none⟩ u1).setCell ⟨g,2,none⟩ u2) v xs:=by
 obtain ⟨a3,c3,a4,c4,h3,h4,_,_⟩:=h;exact hv.apart h4 (by simp) ((((iq.refl g w).store 0 u0).store 1 u1).store 2 u2)
def jS (L:List Nat) (ps:List Rw) (j:Nat):Rat:=(L.take j).foldl (fun (q:Rat) (i:Nat)=>q*gT (ps.getD i default)) 1
theorem tV {L:List Nat} (ps:List Rw) {j:Nat} (h:j<L.length):jS L ps (j+1)=jS L ps j*gT (ps.getD L[j] default):=by
 unfold jS;rw [List.take_succ_eq_append_getElem h,List.foldl_append];rfl
theorem DK {s:Nat} {ps:List Rw} (hs:s<16777216) (hg:oy s<(ps.length:Int)):jS (lz s) ps (lz s).length=kE s ps ps.length:=by
 have h0:∀ i,Lib.bitLen s<=i->s.testBit i=false:=fun i hi=>by
  cases h:s.testBit i with
  | false=>rfl
  | true =>
   exfalso
   have:=EK hs h;unfold oy at this;omega
 have ag:Lib.bitLen s<=24:=Lib.bitLen_le s 24 (by omega) (by rw [show (2:Nat)^24=16777216 from rfl];exact hs);have hl:Lib.bitLen s<=ps.length:=by unfold oy at hg;omega
 unfold jS;rw [List.take_length];unfold lz;rw [zf,tW h0 ag,tW h0 hl]
theorem ze {L:List Nat} {ps:List Rw} (hL:∀ i∈L,i<ps.length) (hs:∀ r∈ps,r.Short 3) (ag:∀ r∈ps,r.Ok):∀ j,j<=L.length->(gR (jS L ps j)).Short (3*j+1):=by
 intro n;induction n with
 | zero=>intro _;exact pb
 | succ n ih =>
  intro hn;have ih:=ih (by omega);have hi:=hL _ (List.getElem_mem (show n<L.length by omega));have hx:ps.getD L[n] default=ps[L[n]]:=by simp [List.getD_eq_getElem?_getD,hi]
  rw [tV ps (show n<L.length by omega)];have h:=rO (ls (jS L ps n)) (ag _ (List.getElem_mem hi)) ih (hs _ (List.getElem_mem hi)) (by omega) (by omega);rw [gV,<-hx] at h;exact ⟨Nat.le_trans h.1 (by omega),Nat.le_trans h.2 (by omega)⟩
theorem oQ (s:Nat) (v:Value) (ps:List Rw) (w:World) (hs:s<16777216) (hv:RatsAt w v ps) (aw:∀ r∈ps,r.Short 3) (hg:oy s<(ps.length:Int)) :
  Calls Tryz.prog 104 #[v,.int .i64 s] w fun e w'=>(∃ v',e=.returned v'/\RatAt w' v' (gR (kE s ps ps.length)))/\gO w w':=by
 have aH:Hid (∀ W,Calls Tryz.prog 102 #[.int .i64 1] W fun e w'=>(∃ v',e=.returned v'/\RatAt w' v' (gR (jS (lz s) ps 0)))/\gO W w'):=af fun W=>pg 1 W (by omega)
 have aI:=af (fun W=>vz s hs W);have aJ:=af (DK hs hg);have aK:(lz s).length<=24:=vA s 24
 have am:∀ i∈lz s,i<ps.length:=fun i hi=>by
  have h1:=EK hs (E_ hi).2;omega
 obtain ⟨L,hL⟩:∃ L,L=lz s:=⟨_,rfl⟩;rw [<-hL] at aH aI aJ aK am;have aX:=af (fun j hj=>ze am aw hv.ok j hj);have aY:=af am;have HV:=af hv;have aZ:=af aw;obtain ⟨a,c,rfl⟩:=hv.shape;obtain ⟨m,hm⟩:∃ m,m=ps.length:=⟨_,rfl⟩;rw [<-hm] at HV⊢;have HM:=af hm;obtain ⟨R,hR⟩:∃ R,R=gR (kE s ps m):=⟨_,rfl⟩;rw [<-hR];have aL:Hid (R=gR (jS L ps L.length)):=af (by rw [hR,hm,aJ.out]);obtain ⟨n,hn⟩:∃ n,n=L.length:=⟨_,rfl⟩;rw [<-hn] at aL aK;have HN:=af hn;clear hR hm hn hL am;obtain ⟨w2,ag⟩:∃ w2,w2=w.alloc (.cells #[.bool false,.slice none 0 0,.slice none 0 0] 29):=⟨_,rfl⟩;have HR:Hid (gS w2 w.heap.size 29 [.bool false,.slice none 0 0,.slice none 0 0]):=af (by rw [ag];exact gS.made w #[.bool false,.slice none 0 0,.slice none 0 0] 29);have a_:Hid (iX w2 w.heap.size [.bool false,.slice none 0 0,.slice none 0 0]):=af (by rw [ag];exact iX.made w #[.bool false,.slice none 0 0,.slice none 0 0] 29);have bd:Hid (gO w w2):=af (by rw [ag];exact (gO.refl w).alloc _);have bf:=af ag;clear hv aw hs ag hg;go_enter Tryz.func104,Tryz.ntmps104;go_wp2_with fail;rw [<-bf.out];refine (aH.out _).mono ?_;rintro e w3 ⟨⟨v3,rfl,bh⟩,ap⟩;have bi:=af (HR.out.kept ap);have bj:=af (a_.out.kept ap);have aM:=af (bd.out.trans ap);obtain ⟨u1,u2,rfl,h1,h2⟩:=bh
 obtain ⟨a1,c1,rfl⟩:=h1.shape;obtain ⟨a2,c2,rfl⟩:=h2.shape;have HC:=af (RatCell.made h1 h2);obtain ⟨w4,aq⟩:∃ w4,w4=w3.alloc (.cells #[.bool (gR (jS L ps 0)).neg,.slice a1 (gR (jS L ps 0)).num.length c1,.slice a2 (gR (jS L ps 0)).den.length c2] 29):=⟨_,rfl⟩;have bk:=af aq;rw [<-aq] at HC;have bl:Hid (gO w3 w4):=af (by rw [aq];exact (gO.refl _).alloc _);generalize (gR (jS L ps 0)).neg=b0 at *;generalize (gR (jS L ps 0)).num.length=l1 at *;generalize (gR (jS L ps 0)).den.length=l2 at *;clear h1 h2 ap aq;go_wp2_with fail;rw [<-bk.out];refine (aI.out _).mono ?_;rintro e w5 ⟨⟨v5,rfl,ar⟩,ay⟩;have bo:=af (HC.out.kept ay);have bp:=af (bl.out.trans ay);have az:n=(ib L).length:=by rw [HN.out];unfold ib;rw [List.length_map]
 obtain ⟨ae,ce,rfl,_⟩:=id ar;rw [<-az] at ar⊢;have bq:=af ar;have aN:=af az;clear ay ar az;go_wp2_with fail;go_loopg [12] n (fun kx s10 wr=>∃ k:Nat,k<=n/\s10=.int .i64 k/\n - k<=kx/\Hid (RatCell wr w3.heap.size (gR (jS L ps k)))/\Hid (gO w3 wr)/\Hid (gU wr (.slice ae n ce) (ib L)))
 case atStart=>exact ⟨0,Nat.zero_le _,rfl,by omega,bo,bp,bq⟩
 case round =>
  obtain ⟨k,hk,rfl,bN,HX,aj,aO⟩:=hrel;by_cases aP:k<n
  ·have br:(k:Int)<(n:Int):=by omega
   have aQ:k<L.length:=by have:=HN.out;omega
   obtain ⟨i,hi⟩:∃ i,i=L[k]:=⟨_,rfl⟩;have bO:i<m:=by rw [hi,HM.out];exact aY.out _ (List.getElem_mem _)
   obtain ⟨ae',ce',bt,_,_,aR⟩:=aO.out;injection bt with bw bz bA
   subst bw;obtain ⟨be,oe,rfl,bB⟩:=aR k (by rw [<-aN.out];exact aP);have e1:(ib L)[k]'(by rw [<-aN.out];exact aP)=(i:Int):=by rw [hi];simp [ib]
   rw [e1] at bB;have bC:Hid (gR (jS L ps (k+1))=gR (gT (gR (jS L ps k))*gT (ps.getD i default))):=af (by rw [tV ps aQ,gV,hi]);have bD:(i:Int)<(m:Int):=by omega
   have bP:(0:Int)<=(i:Int):=by omega
   clear e1 hi aQ aR bz bA;have aA:i<ps.length:=by have:=HM.out;omega
   have aB:=aX.out k (by have:=HN.out;omega)
   have aC:(ps.getD i default).Short 3:=by
    have e:ps.getD i default=ps[i]:=by simp [List.getD_eq_getElem?_getD,aA]
    rw [e];exact aZ.out _ (List.getElem_mem _)
   obtain ⟨b,o,u1,u2,rfl,aS,aD,ag⟩:=HV.out.get i aA;obtain ⟨a3,c3,rfl⟩:=aD.shape;obtain ⟨a4,c4,rfl⟩:=ag.shape;have al:=af (aM.out.trans aj.out);have ah:=jN aS al.out;have y0:=ah 0 _ rfl;have y1:=ah 1 _ rfl;have y2:=ah 2 _ rfl;rw [Nat.add_zero] at y0;obtain ⟨a5,c5,a6,c6,⟨x0,x1,x2⟩,⟨f0,f1,f2⟩,bE,aT⟩:=HX.out.at
   have bF:Hid (∀ W,gO wr W->Calls Tryz.prog 103 #[.agg #[.bool (gR (jS L ps k)).neg,.slice a5 (gR (jS L ps k)).num.length c5,.slice a6 (gR (jS L ps k)).den.length c6],.agg #[.bool (ps.getD i default).neg,.slice a3 (ps.getD i default).num.length c3,.slice a4 (ps.getD i default).den.length c4]] W fun e w'=>(∃ v',e=.returned v'/\RatAt w' v' (gR (jS L ps (k+1))))/\gO W w'):=af fun W hk=>by
    rw [bC.out];exact qX _ _ _ _ W (aT.kept hk) ⟨_,_,rfl,aD.kept (al.out.trans hk),ag.kept (al.out.trans hk)⟩ ⟨Nat.le_trans aB.1 (by omega),Nat.le_trans aB.2 (by omega)⟩ ⟨Nat.le_trans aC.1 (by omega),Nat.le_trans aC.2 (by omega)⟩
   generalize (ps.getD i default).neg=z0 at *;generalize (ps.getD i default).num.length=z1 at *;generalize (ps.getD i default).den.length=z2 at *;generalize (gR (jS L ps k)).neg=z3 at *;generalize (gR (jS L ps k)).num.length=z4 at *;generalize (gR (jS L ps k)).den.length=z5 at *;clear aB aC aS ah aD ag aT aA;go_wp2_with fail;go_region_with (go_at_call 103;(with_reducible refine (bF.out _ (gO.refl _).drew).mono ?_);rintro e w6 ⟨⟨v6,rfl,bG⟩,aU⟩;have hkd:=(gO.refl _).drew.trans aU;have aF:=af (HX.out.kept hkd);have aG:=af (aO.out.kept hkd);have bH:=af (aj.out.trans hkd);obtain ⟨u7,u8,rfl,k7,k8⟩:=bG;obtain ⟨a7,c7,rfl⟩:=k7.shape;obtain ⟨a8,c8,rfl⟩:=k8.shape;have K7:=af k7;have K8:=af k8;obtain ⟨_,_,_,_,⟨i0,i1,i2⟩,⟨j0,j1,j2⟩,bI,_⟩:=aF.out.at;clear k7 k8 aU hkd)
   all_goals
    have HS:=af (aF.out.store K7.out K8.out);have bJ:=af (aF.out.ints aG.out);generalize (gR (jS L ps (k+1))).num.length=n7 at *;generalize (gR (jS L ps (k+1))).den.length=n8 at *;go_wp2_with fail;go_roundg (n - (k+1))
    case measure=>omega
    case rel=>exact ⟨k+1,by omega,by go_num,Nat.le_refl _,HS,af (((bH.out.store (Nat.le_refl _) _ _).store (Nat.le_refl _) _ _).store (Nat.le_refl _) _ _),af (bJ.out _ _ _)⟩
  ·have aV:k=n:=by omega
   have br:¬ (k:Int)<(n:Int):=by omega
   have bK:Hid (RatCell wr w3.heap.size R):=af (by rw [aL.out,<-aV];exact HX.out);have ai:=bi.out.kept aj.out;have bL:=af (bj.out.kept aj.out);obtain ⟨a5,c5,a6,c6,⟨x0,x1,x2⟩,_,bE,u7,u8,e9,k7,k8⟩:=bK.out.at;simp only [Value.agg.injEq] at e9;have e9':=congrArg Array.toList e9;simp at e9';obtain ⟨rfl,rfl⟩:=e9';obtain ⟨y0,y1,y2,aW⟩:=iC ai bL.out k7 k8;have g0:=ai.cell (i:=0) (by simp);have g1:=ai.cell (i:=1) (by simp);have g2:=ai.cell (i:=2) (by simp);have f0:=ai.free 0;have f1:=ai.free 1;have f2:=ai.free 2;have bM:=af aW;have Y0:=af y0;have Y1:=af y1;have Y2:=af y2;have al:=af (aM.out.trans aj.out);clear aW y0 y1 y2 k7 k8 ai e9 aV;generalize R.num.length=n7 at *;generalize R.den.length=n8 at *;go_wp2;refine bodyPost_ret (v:=.agg #[.bool R.neg,.slice a5 n7 c5,.slice a6 n8 c6]) ?_ rfl ⟨⟨_,rfl,bM.out⟩,?_⟩
   ·simp [results,Tryz.results104,go_sem,Y0.out,Y1.out,Y2.out]
   ·exact ((al.out.store (Nat.le_refl _) _ _).store (Nat.le_refl _) _ _).store (Nat.le_refl _) _ _
theorem gZ.cell {w:World} {a:Option Addr} {c m:Nat} {ns:List Nat} (h:gZ w (.slice a m c) ns) (i:Nat) (hi:i<ns.length):∃ b o,a=some ⟨b,o,none⟩/\w.cell? ⟨b,o+i,none⟩=some (.int .i64 (ns[i]:Nat)):=by
 obtain ⟨⟨a',c',h1,_,_,h3⟩,_⟩:=h;cases h1;obtain ⟨b,o,h4,h5⟩:=h3 i (by simpa using hi);exact ⟨b,o,h4,by simpa using h5⟩
theorem xD (ns:List Nat) (v:Value) (w:World) (hv:gZ w v ns) (hl:ns.length<=1024):Calls Tryz.prog 157 #[v] w fun e w'=>e=.returned (.int .i64 0)/\w=w':=by
 have HV:=af hv;obtain ⟨a,c,rfl,hc,_⟩:=hv.shape;obtain ⟨n,hn⟩:∃ n,n=ns.length:=⟨_,rfl⟩;rw [<-hn] at hl hc⊢;have HN:=af hn;clear hv hn;go_enter Tryz.func157,Tryz.ntmps157;go_wp2;go_loop [4,10] (fun _ i=>∃ k:Nat,k<=n/\i=.int .i64 k) (fun _ i=>n - (intOf i).toNat)
 case atStart=>exact ⟨0,Nat.zero_le _,rfl⟩
 case round =>
  obtain ⟨k,hk,rfl⟩:=hrel;by_cases aj:k<n
  ·obtain ⟨b,o,rfl,ag⟩:=HV.out.cell k (by have:=HN.out;omega);have ah:=HV.out.2 (ns[k]'(by have:=HN.out;omega)) (List.getElem_mem _);generalize ns[k]'(by have:=HN.out;omega)=z at ag ah
   have ai:Hid (∀ W,Calls Tryz.prog 222 #[.int .i64 z] W fun e w'=>e=.returned (.bool true)/\W=w'):=af fun W=>by
    have:=qk (z:Int) W;rw [decide_eq_true (by unfold Mk at ah;omega)] at this;exact this
   clear ah;go_wp2_with (go_at_call 222;refine (ai.out _).mono ?_;rintro e w' ⟨rfl,rfl⟩);go_round
   case rel=>exact ⟨k+1,by omega,by go_num⟩
   case measure=>simp [intOf];omega
  ·go_wp2;go_ret;exact ⟨rfl,rfl⟩
theorem uw (ns:List Nat) (v:Value) (w:World) (hv:gZ w v ns) (hl:¬ ns.length<=1024):Calls Tryz.prog 157 #[v] w fun e w'=>e=.returned (.int .i64 4)/\w=w':=by
 obtain ⟨a,c,rfl,hc,_⟩:=hv.shape;have h1:¬ (ns.length:Int)<=1024:=by omega
 clear hv;go_enter Tryz.func157,Tryz.ntmps157;go_wp2;go_ret;exact ⟨rfl,rfl⟩
theorem Cg (a b:List Nat) (va vb:Value) (w:World) (ha:gZ w va a) (hb:gZ w vb b) (la:a.length<=1024) (lb:b.length<=1024):Calls Tryz.prog 232 #[va,vb] w fun e w'=>e=.returned (.int .i64 0)/\w=w':=by
 have HA:=af (xD a va w ha la);have HB:=af (xD b vb w hb lb);obtain ⟨aa,ca,rfl,_,_⟩:=ha.shape;obtain ⟨ab,cb,rfl,_,_⟩:=hb.shape;clear ha hb la lb;go_enter Tryz.func232,Tryz.ntmps232;go_wp2_with fail;refine HA.out.mono ?_;rintro e w' ⟨rfl,rfl⟩;go_wp2_with fail;refine HB.out.mono ?_;rintro e w' ⟨rfl,rfl⟩;go_wp2;go_ret;exact ⟨rfl,rfl⟩
theorem ti (a b:List Nat) (va vb:Value) (w:World) (ha:gZ w va a) (hb:gZ w vb b) (hl:¬ (a.length<=1024/\b.length<=1024)):Calls Tryz.prog 232 #[va,vb] w fun e w'=>e=.returned (.int .i64 4)/\w=w':=by
 by_cases la:a.length<=1024
 ·have HA:=af (xD a va w ha la);have HB:=af (uw b vb w hb (fun h=>hl ⟨la,h⟩));obtain ⟨aa,ca,rfl,_,_⟩:=ha.shape;obtain ⟨ab,cb,rfl,_,_⟩:=hb.shape;clear ha hb la hl;go_enter Tryz.func232,Tryz.ntmps232;go_wp2_with fail;refine HA.out.mono ?_;rintro e w' ⟨rfl,rfl⟩;go_wp2_with fail;refine HB.out.mono ?_;rintro e w' ⟨rfl,rfl⟩;go_wp2;go_ret;exact ⟨rfl,rfl⟩
 ·have HA:=af (uw a va w ha la);obtain ⟨aa,ca,rfl,_,_⟩:=ha.shape;obtain ⟨ab,cb,rfl,_,_⟩:=hb.shape;clear ha hb la hl;go_enter Tryz.func232,Tryz.ntmps232;go_wp2_with fail;refine HA.out.mono ?_;rintro e w' ⟨rfl,rfl⟩;go_wp2;go_ret;exact ⟨rfl,rfl⟩
theorem Ca (a b:Nat):(a &&& b=a) ↔ iE a b=true:=by
 rw [iI];constructor
 ·intro h i hi;have h1:(a &&& b).testBit i=true:=by rw [h];exact hi
  simp at h1;exact h1.2
 ·intro h;apply Nat.eq_of_testBit_eq;intro i;simp only [Nat.testBit_and];cases ha:a.testBit i with
  | false=>simp
  | true=>simp [h i ha]
def partN (a b:Nat):Bool:=decide (a≠b)&&iE a b
theorem FT {a b:Nat} (ha:Mk a) (hb:Mk b) (w:World):Calls Tryz.prog 223 #[.int .i64 a,.int .i64 b] w fun e w'=>e=.returned (.bool (partN a b))/\w=w':=by
 have ag:bits .and .i64 (a:Int) (b:Int)=((a &&& b:Nat):Int):=oV a b (by unfold Mk at ha;omega) (by unfold Mk at hb;omega);clear ha hb;by_cases e:a=b
 ·have h1:partN a b=false:=by unfold partN;simp [e]
  rw [h1];have ee:((a:Int) == (b:Int))=true:=by simp;omega
  have ee2:((a:Int) != (b:Int))=false:=by simp;omega
  clear e h1;go_enter Tryz.func223,Tryz.ntmps223;go_wp2;go_ret;exact ⟨rfl,rfl⟩
 ·have h1:partN a b=iE a b:=by unfold partN;simp [e]
  rw [h1];have ee:((a:Int) == (b:Int))=false:=by simp;omega
  have ee2:((a:Int) != (b:Int))=true:=by simp;omega
  clear e h1;cases hs:iE a b with
  | true =>
   have h2:(((a &&& b:Nat):Int) == (a:Int))=true:=by have:=(Ca a b).2 hs;simp;omega
   clear hs;generalize (a &&& b:Nat)=z at ag h2;go_enter Tryz.func223,Tryz.ntmps223;go_wp2;go_ret;exact ⟨rfl,rfl⟩
  | false =>
   have h2:(((a &&& b:Nat):Int) == (a:Int))=false:=by
    have:¬ (a &&& b=a):=fun h=>by rw [(Ca a b).1 h] at hs;cases hs
    simp;omega
   clear hs;generalize (a &&& b:Nat)=z at ag h2;go_enter Tryz.func223,Tryz.ntmps223;go_wp2;go_ret;exact ⟨rfl,rfl⟩
theorem tG (v:Value) (ns:List Nat) (w:World) (hv:gZ w v ns) (h:ns.length<=1024):Calls Tryz.prog 233 #[v] w fun e w'=>e=.returned (.tuple #[v,.int .i64 0])/\w=w':=by
 obtain ⟨a,c,rfl,hc,_⟩:=hv.shape;have h1:(ns.length:Int)<=1024:=by omega
 clear hv;go_enter Tryz.func233,Tryz.ntmps233;go_wp2;go_ret2;exact ⟨rfl,rfl⟩
theorem pp (v:Value) (ns:List Nat) (w:World) (hv:gZ w v ns) (h:¬ ns.length<=1024):Calls Tryz.prog 233 #[v] w fun e w'=>e=.returned (.tuple #[.slice none 0 0,.int .i64 4])/\w=w':=by
 obtain ⟨a,c,rfl,hc,_⟩:=hv.shape;have h1:¬ (ns.length:Int)<=1024:=by omega
 clear hv;go_enter Tryz.func233,Tryz.ntmps233;go_wp2;go_ret2;exact ⟨rfl,rfl⟩
theorem Dh (ns:List Nat) (hs:ns.Pairwise lI) (k:Nat) (hk:k<ns.length):((ns.take k).foldl iu []).any (fun x=>partN x ns[k])=((ns.take k).foldl iu []).any (fun x=>iE x ns[k]):=by
 rw [Bool.eq_iff_iff,List.any_eq_true,List.any_eq_true]
 have ag:∀ x∈(ns.take k).foldl iu [],x≠ns[k]:=by
  intro x hx e;rcases qN _ _ _ hx with h | h
  ·cases h
  ·obtain ⟨i,hi,rfl⟩:=List.getElem_of_mem h;simp only [List.length_take] at hi;rw [List.getElem_take] at e;have:=List.pairwise_iff_getElem.1 hs i k (by omega) hk (by omega);rw [e] at this;exact kO _ this
 constructor
 ·rintro ⟨x,hx,h⟩;refine ⟨x,hx,?_⟩;unfold partN at h;simp at h;exact h.2
 ·rintro ⟨x,hx,h⟩;refine ⟨x,hx,?_⟩;unfold partN;simp [ag x hx,h]
theorem Dl (ns:List Nat) (v:Value) (w:World) (hv:gZ w v ns) (hl:ns.length<=8796093022208) :
  Calls Tryz.prog 159 #[v] w fun e w'=>(∃ v',e=.returned v'/\hC w' w.heap.size v' (iy ns))/\gO w w':=by
 have HS:=af (rM ns.length ns v w (Nat.le_refl _) hv hl);obtain ⟨a,c,rfl,hc,_⟩:=hv.shape;obtain ⟨ss,hss⟩:∃ ss,ss=iA ns:=⟨_,rfl⟩;have aN:ss.Pairwise lI:=by rw [hss];exact jZ ns
 have aY:ss.length<=ns.length:=by rw [hss];exact nu ns
 have am:iy ns=ss.foldl iu []:=by rw [hss];rfl
 have aO:∀ n∈ss,Mk n:=by rw [hss];exact fun n hn=>hv.2 n ((jG ns n).1 hn)
 rw [<-hss] at HS;rw [am];have HM:=af aO;have HP:=af aN;clear hss am aO aN hv;go_enter Tryz.func159,Tryz.ntmps159;go_wp2_with fail;refine HS.out.mono ?_;rintro e w1 ⟨⟨v1,rfl,aB⟩,aP⟩;have HV:=af aB.sets;have aQ:=af aP;obtain ⟨b1,c1,rfl,hc1,_⟩:=aB.sets.shape;obtain ⟨n,hn⟩:∃ n,n=ss.length:=⟨_,rfl⟩;rw [<-hn] at HV hc1 aY⊢;have HN:=af hn;clear aB aP hn HS;go_wp2_with fail;go_loopw [3,5,6,8,12,16,17,18] (fun vo _ _ _ i _ _ _ wr=>∃ (k:Nat),k<=n/\i=.int .i64 k/\OwnInts wr w1.heap.size vo (ib ((ss.take k).foldl iu []))/\gO w1 wr) (fun _ _ _ _ i _ _ _ _=>n - (intOf i).toNat)
 case atStart=>exact ⟨0,Nat.zero_le _,rfl,OwnInts.nil _ _,gO.refl _⟩
 case round =>
  obtain ⟨k,hk,rfl,hO,aC⟩:=hrel;have HO:=af hO;have ar:=af aC;have hsz:=aC.size;clear hO aC;by_cases bh:k<n
  ·have aw:k<ss.length:=by have:=HN.out;omega
   obtain ⟨b,o,rfl,ag⟩:=HV.out.cell k aw;have ap:=ar.out.cell ag;have ay:=Dh ss HP.out k aw;have aD:=HM.out _ (List.getElem_mem aw);have az:(ss.take (k+1)).foldl iu []=iu ((ss.take k).foldl iu []) ss[k]:=by rw [List.take_succ_eq_append_getElem aw,List.foldl_append];rfl
   have aF:∀ x∈(ss.take k).foldl iu [],Mk x:=fun x hx=>by
    rcases qN _ _ _ hx with h | h
    ·cases h
    ·exact HM.out x (List.mem_of_mem_take h)
   have aR:((ss.take k).foldl iu []).length<=k:=by
    have:=tE (ss.take k) [];simp at this;omega
   obtain ⟨s,hs⟩:∃ s,s=ss[k]:=⟨_,rfl⟩;rw [<-hs] at ap ay aD az;obtain ⟨acc,aq⟩:∃ x,x=(ss.take k).foldl iu []:=⟨_,rfl⟩;rw [<-aq] at HO ay az aF aR;have aZ:=af ay;have aS:=af az;have aT:=af aF;have a_:=af aD;have aA:=OwnInts.ints HO.out;obtain ⟨ao,no,co,rfl⟩:=aA.shape;have bd:no=acc.length:=by obtain ⟨_,_,h,_⟩:=aA;cases h;simp
   subst bd;have aU:Hid (gZ wr (.slice ao acc.length co) acc):=af ⟨aA,aT.out⟩;obtain ⟨m,hm⟩:∃ m,m=acc.length:=⟨_,rfl⟩;rw [<-hm] at aU HO aR⊢;have aG:=af hm;clear ag ay az aF aD hs aq aA hm;go_wp2_with fail;obtain ⟨wo,rfl⟩:∃ wo:World,wo=wr:=⟨_,rfl⟩;go_loop [6,8,18] (fun sm _ j=>∃ q:Nat,q<=m/\j=.int .i64 q/\sm=.bool (!((acc.take q).any fun x=>partN x s))) (fun _ _ j=>m - (intOf j).toNat)
   case atStart=>exact ⟨0,Nat.zero_le _,rfl,rfl⟩
   case round =>
    obtain ⟨q,hq,rfl,rfl⟩:=hrel;by_cases bi:q<m
    ·have aH:q<acc.length:=by have:=aG.out;omega
     obtain ⟨b2,o2,rfl,al⟩:=aU.out.cell q aH;have aI:=aT.out _ (List.getElem_mem aH)
     have aJ:(acc.take (q+1)).any (fun x=>partN x s)=((acc.take q).any (fun x=>partN x s)||partN acc[q] s):=by
      rw [List.take_succ_eq_append_getElem aH,List.any_append];simp
     obtain ⟨x,hx⟩:∃ x,x=acc[q]:=⟨_,rfl⟩;rw [<-hx] at al aI aJ;have aV:Hid (∀ W,Calls Tryz.prog 223 #[.int .i64 x,.int .i64 s] W fun e w'=>e=.returned (.bool (partN x s))/\W=w'):=af fun W=>FT aI a_.out W
     have aW:=af aJ;clear hx aI aJ;cases ah:(acc.take q).any fun x=>partN x s with
     | true =>
      have aK:=af ah;clear ah;go_wp2_with (go_at_call 223;refine (aV.out _).mono ?_;rintro e w' ⟨rfl,rfl⟩);go_round
      case rel=>exact ⟨q+1,by omega,by go_num,by rw [aW.out,aK.out];rfl⟩
      case measure=>simp [intOf];omega
     | false =>
      have aK:=af ah;clear ah;go_wp2_with (go_at_call 223;refine (aV.out _).mono ?_;rintro e w' ⟨rfl,rfl⟩);go_round
      case rel=>exact ⟨q+1,by omega,by go_num,by rw [aW.out,aK.out];rfl⟩
      case measure=>simp [intOf];omega
    ·have aL:acc.take q=acc:=List.take_of_length_le (by have:=aG.out;omega);rw [aL,aZ.out];cases ah:acc.any fun x=>iE x s with
     | true =>
      have aM:Hid ((ss.take (k+1)).foldl iu []=acc):=af (by rw [aS.out,iu,if_pos ah]);clear ah aL;go_wp2;go_roundw
      case rel=>exact ⟨k+1,by omega,by go_num,by rw [aM.out];exact HO.out,ar.out⟩
      case measure=>simp [intOf];omega
     | false =>
      have aM:Hid ((ss.take (k+1)).foldl iu []=acc++[s]):=af (by rw [aS.out,iu,if_neg (by rw [ah];simp)]);clear ah aL;go_wp2_with (at_builtin;refine kp rfl _ _ rfl w1.heap.size _ (ib acc) rfl (HO.out.kept ((gO.refl _).alloc _)) _ (s:Int) rfl (by simp) (by simp;have:=aG.out;omega) (by simp;omega) ?_;intro v7 w7 ai _ aX;have O7:=af ai;have bf:=af aX;clear ai aX);go_roundw
      case rel=>exact ⟨k+1,by omega,by go_num,by rw [aM.out];simpa [ib] using O7.out,(ar.out.alloc _).app bf.out⟩
      case measure=>simp [intOf];omega
  ·have aj:ss.take k=ss:=List.take_of_length_le (by have:=HN.out;omega);rw [aj] at HO;clear aj;go_wp2;go_ret
   exact ⟨⟨_,rfl,⟨HO.out.mono aQ.out.size,fun x hx=>by
    rcases qN _ _ _ hx with h | h
    ·cases h
    ·exact HM.out x h⟩⟩,aQ.out.trans ar.out⟩
theorem ru (ns:List Nat) (v:Value) (w:World) (hv:gZ w v ns) (hl:ns.length<=8796093022208) :
  Calls Tryz.prog 159 #[v] w fun e w'=>(∃ v',e=.returned v'/\hC w' 0 v' (iy ns))/\gO w w' :=
 (Dl ns v w hv hl).mono fun _ _ ⟨⟨v',h1,h2⟩,h3⟩=>⟨⟨v',h1,⟨h2.1.mono (Nat.zero_le _),h2.2⟩⟩,h3⟩
def Jz (xs:List Int):Bool:=xs.all fun x=>decide (0<=x/\x<=16777215)
def kS (xs:List Int):Nat:=if 1024<xs.length then 4 else if Jz xs=true then 0 else 3
def iz (xs:List Int):List Nat:=xs.map Int.toNat
def ku (xs:List Int):Nat:=if kS xs≠0 then kS xs else if iz xs≠iA (iz xs) then 13 else if iz xs≠iy (iz xs) then 2 else 0
theorem o_ {xs:List Int}:Jz xs=true ↔ ∀ x∈xs,0<=x/\x<=16777215:=by
 unfold Jz;rw [List.all_eq_true];exact ⟨fun h x hx=>of_decide_eq_true (h x hx),fun h x hx=>decide_eq_true (h x hx)⟩
theorem qP {xs:List Int} (h:Jz xs=true):xs=ib (iz xs)/\∀ n∈iz xs,Mk n:=by
 have h:=o_.1 h;refine ⟨?_,fun n hn=>?_⟩
 ·unfold ib iz;rw [List.map_map]
  have:xs.map ((fun (n:Nat)=>(n:Int)) ∘ Int.toNat)=xs.map id:=List.map_congr_left fun x hx=>by
   have:=h x hx;simp only [Function.comp,id];omega
  first | (rw [this,List.map_id]) | (rw [List.map_id] at this;exact this.symm)
 ·obtain ⟨x,hx,rfl⟩:=List.mem_map.1 hn;have:=h x hx;unfold Mk;omega
theorem Al {xs:List Int} (h:kS xs=0):xs.length<=1024/\Jz xs=true:=by
 unfold kS at h;split at h
 ·omega
 ·split at h
  ·exact ⟨by omega,by assumption⟩
  ·omega
theorem Ct {a b:List Nat}:ib a=ib b ↔ a=b:=by
 unfold ib
 exact ⟨fun h=>by
  have:=congrArg (List.map Int.toNat) h;simpa [List.map_map,Function.comp_def] using this,fun h=>by rw [h]⟩
theorem vB (xs ys:List Int) (va vb:Value) (w:World) (ha:gU w va xs) (hb:gU w vb ys):Calls Tryz.prog 153 #[va,vb] w fun e w'=>e=.returned (.bool (decide (xs=ys)))/\gO w w':=by
 obtain ⟨aa,ca,rfl,_,ai,ag⟩:=ha;obtain ⟨ab,cb,rfl,_,aj,ah⟩:=hb;by_cases hl:xs.length=ys.length
 ·by_cases h0:xs=[]
  ·subst h0;have h1:ys=[]:=List.eq_nil_of_length_eq_zero hl.symm;subst h1;exact (Go.Proofs.Tryz.slices_Equal_int_empty aa ab ca 0 cb w (by omega)).mono fun e w' ⟨h1,h2⟩=>⟨by rw [h1];simp,by subst h2;exact gO.refl _⟩
  ·have hp:0<xs.length:=List.length_pos_iff.2 h0;obtain ⟨b1,o1,rfl,_⟩:=ag 0 hp;obtain ⟨b2,o2,rfl,_⟩:=ah 0 (by omega);refine (Go.Proofs.Tryz.slices_Equal_int b1 o1 xs.length ca b2 o2 ys.length cb xs ys w (Nat.le_refl _) (Nat.le_refl _) (by omega) (by omega) ?_ ?_).mono fun e w' ⟨h1,q,h2⟩=>⟨by rw [h1,List.take_length,List.take_length,show (xs == ys)=decide (xs=ys) by rw [Bool.eq_iff_iff];simp],by subst h2;exact (gO.refl _).drewN _⟩
   ·intro j hj;obtain ⟨b,o,h1,h2⟩:=ag j hj;cases h1;rw [h2];simp [hj]
   ·intro j hj;obtain ⟨b,o,h1,h2⟩:=ah j hj;cases h1;rw [h2];simp [hj]
 ·refine (Go.Proofs.Tryz.slices_Equal_int_lens aa ab xs.length ca ys.length cb w hl).mono fun e w' ⟨h1,h2⟩=>⟨?_,by subst h2;exact gO.refl _⟩
  rw [h1,decide_eq_false (fun h=>hl (by rw [h]))]
theorem Do (g:Nat) (va:Value) (xs:List Int) (w:World) (hc:w.cell? ⟨g,0,none⟩=some va) (hv:gU w va xs) :
  Calls Tryz.prog 152 #[.slice (some ⟨g,0,none⟩) 1 1] w fun e w'=>e=.returned (iV (kS xs))/\w=w':=by
 obtain ⟨a,c,rfl,_,hl,hx⟩:=hv;obtain ⟨m,hm⟩:∃ m,m=xs.length:=⟨_,rfl⟩;rw [<-hm] at hc;have az:m<=140737488355328:=by omega
 have HX:=af hx;have HM:=af hm;have HC:=af hc;clear hx hm hl hc;go_enter Tryz.func152,Tryz.ntmps152;go_wp2;go_loopg [9] 1 (fun kx s9 wr=>∃ k:Nat,k<=1/\s9=.int .i64 k/\1 - k<=kx/\Hid (k=1->kS xs=0)/\w=wr)
 case atStart=>exact ⟨0,by omega,rfl,by omega,af (fun h=>by omega),rfl⟩
 case round =>
  obtain ⟨k,hk,rfl,aA,HE,rfl⟩:=hrel;by_cases ap:k=1
  ·subst ap;have ah:=af (HE.out rfl);go_wp2;go_ret;exact ⟨by rw [ah.out];rfl,rfl⟩
  ·have aq:k=0:=by omega
   subst aq;have am:=HC.out;by_cases ar:m<=1024
   ·have aw:¬ (1024:Int)<(m:Int):=by omega
    go_wp2;go_loopg [19] m (fun kx s19 wq=>∃ q:Nat,q<=m/\s19=.int .i64 q/\m - q<=kx/\Hid (∀ x∈xs.take q,0<=x/\x<=16777215)/\w=wq)
    case atStart=>exact ⟨0,Nat.zero_le _,rfl,by omega,af (by simp),rfl⟩
    case round =>
     obtain ⟨q,hq,rfl,ai,HF,rfl⟩:=hrel;by_cases aB:q<m
     ·have ai:q<xs.length:=by have:=HM.out;omega
      obtain ⟨b2,o2,rfl,ag⟩:=HX.out q ai;obtain ⟨s,hs⟩:∃ s,s=xs[q]:=⟨_,rfl⟩;rw [<-hs] at ag;have HS:=af hs;have ay:(q:Int)<(m:Int):=by omega
      cases hd:decide (0<=s/\s<=16777215) with
      | true =>
       have aj:Hid (∀ W,Calls Tryz.prog 217 #[.int .i64 s] W fun e w'=>e=.returned (.bool true)/\W=w'):=af fun W=>by have:=rT s W;rwa [hd] at this
       have HD:=af (of_decide_eq_true hd);clear hd hs;go_wp2_with (go_at_call 217;refine (aj.out _).mono ?_;rintro e w' ⟨rfl,rfl⟩);go_roundg (m - (q+1))
       case measure=>omega
       case rel=>exact ⟨q+1,by omega,by go_num,Nat.le_refl _,af (fun y hy=>by
        rw [List.take_succ_eq_append_getElem ai] at hy;rcases List.mem_append.1 hy with hy | hy
        ·exact HF.out y hy
        ·simp at hy;rw [hy,<-HS.out];exact HD.out),rfl⟩
      | false =>
       have aj:Hid (∀ W,Calls Tryz.prog 217 #[.int .i64 s] W fun e w'=>e=.returned (.bool false)/\W=w'):=af fun W=>by have:=rT s W;rwa [hd] at this
       have HD:=af (of_decide_eq_false hd)
       have al:Hid (kS xs=3):=af (by
        unfold kS;rw [if_neg (by have:=HM.out;omega),if_neg];intro h;exact HD.out (o_.1 h s (by rw [HS.out];exact List.getElem_mem _)))
       clear hd hs;go_wp2_with (go_at_call 217;refine (aj.out _).mono ?_;rintro e w' ⟨rfl,rfl⟩);go_ret;exact ⟨by rw [al.out];rfl,rfl⟩
     ·have ah:Hid (kS xs=0):=af (by
       have hf:=HF.out;rw [List.take_of_length_le (by have:=HM.out;omega)] at hf;unfold kS;rw [if_neg (by have:=HM.out;omega),if_pos (o_.2 hf)])
      have ay:¬ (q:Int)<(m:Int):=by omega
      go_wp2;go_roundg 0
      case measure=>omega
      case rel=>exact ⟨1,by omega,by go_num,by omega,af (fun _=>ah.out),rfl⟩
   ·have aw:(1024:Int)<(m:Int):=by omega
    have al:Hid (kS xs=4):=af (by unfold kS;rw [if_pos (by have:=HM.out;omega)]);go_wp2;go_ret;exact ⟨by rw [al.out];rfl,rfl⟩
theorem CZ (l:List Nat):∀ out,(l.foldl iu out).Sublist (out++l):=by
 induction l with
 | nil=>intro out;simp
 | cons s l ih =>
  intro out;have h:=ih (iu out s);show (l.foldl iu (iu out s)).Sublist _;unfold iu at h⊢;split at h
  ·rename_i hk;rw [if_pos hk];exact h.trans ((List.Sublist.refl out).append (List.sublist_cons_self s l))
  ·rename_i hk;rw [if_neg hk];simpa using h
theorem yM {ns:List Nat} (h:ns=iA ns):(iy ns).length=ns.length ↔ ns=iy ns:=by
 constructor
 ·intro hl
  have hs:(iy ns).Sublist ns:=by
   unfold iy;rw [<-h];exact CZ ns []
  exact (hs.eq_of_length hl).symm
 ·intro he;rw [<-he]
theorem Aq (va:Value) (xs:List Int) (w:World) (hv:gU w va xs) :
  Calls Tryz.prog 94 #[va] w fun e w'=>e=.returned (iV (ku xs))/\gO w w':=by
 have HL:Hid (Calls Tryz.prog 152 #[.slice (some ⟨w.heap.size,0,none⟩) 1 1] (w.alloc (.cells #[va] 22)) fun e w'=>e=.returned (iV (kS xs))/\gO w w'):=af
  ((Do w.heap.size va xs _ (by simp) (hv.kept ((gO.refl _).alloc _))).mono fun _ _ ⟨h1,h2⟩=>⟨h1,by rw [<-h2];exact (gO.refl _).alloc _⟩)
 have HV:=af hv;obtain ⟨a,c,aI,_⟩:=id hv;subst aI;obtain ⟨m,hm⟩:∃ m,m=xs.length:=⟨_,rfl⟩;rw [<-hm] at HL HV⊢;have HM:=af hm;clear hm hv;rcases Nat.eq_zero_or_pos (kS xs) with he | he
 ·obtain ⟨hl,aD⟩:=Al he;obtain ⟨aA,aw⟩:=qP aD;have ag:ku xs=if iz xs≠iA (iz xs) then 13 else if iz xs≠iy (iz xs) then 2 else 0:=by unfold ku;rw [if_neg (by omega)]
  rw [ag];obtain ⟨ns,aB⟩:∃ ns,ns=iz xs:=⟨_,rfl⟩;rw [<-aB] at aA aw⊢;have aC:m=ns.length:=by rw [HM.out,aB];unfold iz;rw [List.length_map]
  have ay:Hid (gZ w (.slice a m c) ns):=af ⟨by rw [<-aA];exact HV.out,aw⟩;have aJ:ns.length<=1024:=by rw [<-aC,HM.out];exact hl
  have HE:=af he;rw [he,kj] at HL
  have HS:Hid (∀ W,gO w W->Calls Tryz.prog 154 #[.slice a m c] W fun e w'=>(∃ v',e=.returned v'/\gU w' v' (ib (iA ns)))/\gO W w'):=af fun W hk=>by
   refine (uN _ ns W aw (ay.out.kept hk).1 (by omega)).mono ?_;rintro e w' ⟨v',h1,h2,h3⟩;exact ⟨⟨v',h1,h2.ints⟩,h3⟩
  have aF:Hid (∀ W,gO w W->Calls Tryz.prog 155 #[.slice a m c] W fun e w'=>(∃ v',e=.returned v'/\gZ w' v' (iy ns))/\gO W w'):=af fun W hk=>by
   refine (kI _ ns W (ay.out.kept hk) (by omega)).mono ?_;rintro e w' ⟨v',h1,h2,h3⟩;exact ⟨⟨v',h1,h2.sets⟩,h3⟩
  have aK:=af aC;clear aA aw aB hl aD he ag aC aJ;by_cases h1:ns=iA ns
  ·have az:Hid (∀ W vb,gO w W->gU W vb (ib (iA ns))->Calls Tryz.prog 153 #[.slice a m c,vb] W fun e w'=>e=.returned (.bool true)/\gO W w'):=af fun W vb hk hb=>by
    have h:=vB (ib ns) (ib (iA ns)) (.slice a m c) vb W (ay.out.kept hk).1 hb
    rwa [decide_eq_true (by rw [<-h1])] at h
   rw [if_neg (fun h=>h h1)];have ah:=yM h1;obtain ⟨z,hz⟩:∃ z,z=(iy ns).length:=⟨_,rfl⟩;have HZ:=af hz;rw [<-hz,<-aK.out] at ah;by_cases h2:ns=iy ns
   ·rw [if_neg (fun h=>h h2)];have aG:z=m:=ah.2 h2;have hb:((z:Int) != (m:Int))=false:=by rw [aG];simp
    clear ah h1 h2 hz;go_enter Tryz.func94,Tryz.ntmps94;go_wp2_with fail;refine HL.out.mono ?_;rintro e w1 ⟨rfl,ai⟩;have K1:=af ai;clear ai
    go_wp2_with (first
     | (go_at_call 154;refine (HS.out _ K1.out).mono ?_;rintro e w2 ⟨⟨v2,rfl,aj⟩,al⟩;have ap:=af aj;have K2:=af (K1.out.trans al);clear aj al)
     | (go_at_call 153;refine (az.out _ _ K2.out ap.out).mono ?_;rintro e w3 ⟨rfl,am⟩;have K3:=af (K2.out.trans am);clear am)
     | (go_at_call 155;refine (aF.out _ K3.out).mono ?_;rintro e w4 ⟨⟨v4,rfl,aq⟩,ar⟩;obtain ⟨a4,c4,rfl,_,_⟩:=aq.shape;rw [<-HZ.out];have K4:=af (K3.out.trans ar);clear ar aq))
    go_ret;exact ⟨rfl,K4.out⟩
   ·rw [if_pos h2];have aG:z≠m:=fun h=>h2 (ah.1 h)
    have hb:((z:Int) != (m:Int))=true:=by simp [bne];omega
    have aL:¬ (z:Int)=(m:Int):=by omega
    clear ah h1 h2 hz;go_enter Tryz.func94,Tryz.ntmps94;go_wp2_with fail;refine HL.out.mono ?_;rintro e w1 ⟨rfl,ai⟩;have K1:=af ai;clear ai
    go_wp2_with (first
     | (go_at_call 154;refine (HS.out _ K1.out).mono ?_;rintro e w2 ⟨⟨v2,rfl,aj⟩,al⟩;have ap:=af aj;have K2:=af (K1.out.trans al);clear aj al)
     | (go_at_call 153;refine (az.out _ _ K2.out ap.out).mono ?_;rintro e w3 ⟨rfl,am⟩;have K3:=af (K2.out.trans am);clear am)
     | (go_at_call 155;refine (aF.out _ K3.out).mono ?_;rintro e w4 ⟨⟨v4,rfl,aq⟩,ar⟩;obtain ⟨a4,c4,rfl,_,_⟩:=aq.shape;rw [<-HZ.out];have K4:=af (K3.out.trans ar);clear ar aq))
    go_ret;exact ⟨rfl,K4.out⟩
  ·have az:Hid (∀ W vb,gO w W->gU W vb (ib (iA ns))->Calls Tryz.prog 153 #[.slice a m c,vb] W fun e w'=>e=.returned (.bool false)/\gO W w'):=af fun W vb hk hb=>by
    have h:=vB (ib ns) (ib (iA ns)) (.slice a m c) vb W (ay.out.kept hk).1 hb
    rwa [decide_eq_false (fun h=>h1 (Ct.1 h))] at h
   rw [if_pos h1];clear h1;go_enter Tryz.func94,Tryz.ntmps94;go_wp2_with fail;refine HL.out.mono ?_;rintro e w1 ⟨rfl,ai⟩;have K1:=af ai;clear ai
   go_wp2_with (first
    | (go_at_call 154;refine (HS.out _ K1.out).mono ?_;rintro e w2 ⟨⟨v2,rfl,aj⟩,al⟩;have ap:=af aj;have K2:=af (K1.out.trans al);clear aj al)
    | (go_at_call 153;refine (az.out _ _ K2.out ap.out).mono ?_;rintro e w3 ⟨rfl,am⟩;have K3:=af (K2.out.trans am);clear am))
   go_ret;exact ⟨rfl,K3.out⟩
 ·have ag:ku xs=kS xs:=by unfold ku;rw [if_pos (by omega)]
  rw [ag];obtain ⟨q,hq⟩:∃ q,q=kS xs:=⟨_,rfl⟩;rw [<-hq] at HL he⊢;have aH:iV q=.iface 60 (.int .i64 q):=iF (by omega);rw [aH] at HL⊢;clear ag hq aH;go_enter Tryz.func94,Tryz.ntmps94;go_wp2_with fail;refine HL.out.mono ?_;rintro e w1 ⟨rfl,ai⟩;go_wp2;go_ret;exact ⟨rfl,ai⟩
end Go.Proofs.YtofibjflkebkpaaGreatDoor
