import Derived.WalkKit
import Derived.WalkSpells
import Derived.WalkLawsBesides
import Derived.Deep.QuietTactic
import Derived.BigQuiet
import Derived.Lib.Hide
import Derived.Shelf.Abstract
import Derived.Deep.RegionWith
import Derived.Laws.AppendOwnNone
import Derived.Lib.AppendZerosOnto
import Derived.Lib.SliceRun
import Derived.Lib.SlicesCompact
import Derived.Shelf.SlSortCmp.NoneTotal
import Derived.Maps.OwnOps
import Derived.Maps.OwnSet
import Derived.Maps.Views
import Derived.Deep.MidRow
import Derived.Deep.RegionHeld3
import Derived.Deep.AppendLies
import Derived.Deep.RegionLaw
import Derived.IntWalk
import Derived.StillTailTactics
import Derived.RegionTactic
import Derived.BigRegion
import Derived.ChangeAlike
import Derived.Sort.LotD2
import Derived.Sort.LotA
import Derived.Shelf.SlSortCmp.PdqK
import Derived.Deep.DeepCutAuto
import Derived.Lib.ItoaNum
import Derived.Deep.LoopGhost
import Derived.ProofKit
import Derived.OpenShut
import Derived.SizedLaws
import Derived.Lib.SmallJoins
import Derived.Deep.Slices
import Derived.Deep.Fields
import Derived.Deep.Strs
import Derived.Carry
import Derived.Lib.BitFns
import Derived.Deep.CutBlock
import Derived.Test.YtofibjflkebkpaaGreatDoorEX6
import Derived.Test.YtofibjflkebkpaaGreatDoorEX4
set_option maxRecDepth 100000
set_option maxHeartbeats 16000000
namespace Go.Proofs.YtofibjflkebkpaaGreatDoor
open Go.RowKit
theorem bv (v:Value) (r:Rw) (w:World) (hv:RatAt w v r) (hs:r.Short 137438953472):Calls Tryz.prog 162 #[v] w fun e w'=>(∃ u1 u2,e=.returned (.tuple #[.bool (ah r).1,u1,u2])/\WdsAt w' u1 (ah r).2.1/\WdsAt w' u2 (ah r).2.2)/\ag w w':=by
 have HVA:=af (fun W (hk:ag w W)=>lS v r W (hv.kept hk) hs);obtain ⟨neg,num,den⟩:=r;obtain ⟨u1,u2,rfl,h1,h2⟩:=hv;simp only at h1 h2;obtain ⟨a1,c1,rfl⟩:=h1.shape;obtain ⟨a2,c2,rfl⟩:=h2.shape;obtain ⟨n1,hn1⟩:∃ n1,n1=num.length:=⟨_,rfl⟩;obtain ⟨n2,hn2⟩:∃ n2,n2=den.length:=⟨_,rfl⟩;rw [<-hn1] at h1 HVA⊢;rw [<-hn2] at h2 HVA⊢;have H1:=af h1;have H2:=af h2;obtain ⟨w1,hw1⟩:∃ w1,w1=w.alloc (.cells #[.bool neg,.slice a1 n1 c1,.slice a2 n2 c2] 29):=⟨_,rfl⟩;have HR:Hid (aj w1 w.heap.size 29 [.bool neg,.slice a1 n1 c1,.slice a2 n2 c2]):=af (by rw [hw1];exact aj.made w #[.bool neg,.slice a1 n1 c1,.slice a2 n2 c2] 29);have HK0:Hid (ag w w1):=af (by rw [hw1];exact (ag.refl w).alloc _);have q0:=HR.out.cell (i:=0) (by simp);have q1:=HR.out.cell (i:=1) (by simp);have q2:=HR.out.cell (i:=2) (by simp);simp only [List.getElem_cons_succ,List.getElem_cons_zero] at q0 q1 q2;have HW1:=af hw1;clear hw1;by_cases hg:bl ⟨neg,num,den⟩=true/\num≠[]
 ·have hP:ah ⟨neg,num,den⟩=(neg,num,den):=by unfold ah;rw [if_pos hg]
  rw [hP];rw [hg.1] at HVA
  have hb1:((n1:Int) == 0)=false:=by
   have:n1≠0:=fun h=>hg.2 (List.eq_nil_of_length_eq_zero (hn1.symm.trans h))
   simp;exact this
  clear h1 h2 hP hg hn1 hn2 hs;go_enter Tryz.func162,Tryz.ntmps162;go_wp2_with fail;rw [<-HW1.out];refine (HVA.out _ HK0.out).mono ?_;rintro e w2 ⟨rfl,hk2⟩;have y0:=hk2.cell q0;have y1:=hk2.cell q1;have y2:=hk2.cell q2;have HK2:=af (HK0.out.trans hk2);clear hk2 q0 q1 q2;go_wp2_with fail;go_quiet (fail);go_wp2;go_ret3;exact ⟨⟨_,_,rfl,H1.out.kept (HK2.out.drewN _),H2.out.kept (HK2.out.drewN _)⟩,HK2.out.drewN _⟩
 ·have hP:ah ⟨neg,num,den⟩=(false,[],[1]):=by unfold ah;rw [if_neg hg]
  rw [hP];by_cases hvv:bl ⟨neg,num,den⟩=true
  ·have h0:n1=0:=by
    rw [hn1];by_cases h:num=[]
    ·rw [h];rfl
    ·exact absurd ⟨hvv,h⟩ hg
   rw [hvv] at HVA;subst h0;clear h1 h2 hP hg hn1 hn2 hs hvv;go_enter Tryz.func162,Tryz.ntmps162;go_wp2_with fail;rw [<-HW1.out];refine (HVA.out _ HK0.out).mono ?_;rintro e w2 ⟨rfl,hk2⟩;have y1:=hk2.cell q1;have HK2:=af (HK0.out.trans hk2);clear hk2 q0 q1 q2;go_wp2;go_ret3;exact ⟨⟨_,_,rfl,WdsAt.nil _,lX _ 1 (by omega)⟩,HK2.out.alloc _⟩
  ·have hvf:bl ⟨neg,num,den⟩=false:=by simpa using hvv
   rw [hvf] at HVA;clear h1 h2 hP hg hn1 hn2 hs hvv hvf;go_enter Tryz.func162,Tryz.ntmps162;go_wp2_with fail;rw [<-HW1.out];refine (HVA.out _ HK0.out).mono ?_;rintro e w2 ⟨rfl,hk2⟩;have HK2:=af (HK0.out.trans hk2);clear hk2 q0 q1 q2;go_wp2;go_ret3;exact ⟨⟨_,_,rfl,WdsAt.nil _,lX _ 1 (by omega)⟩,HK2.out.alloc _⟩
theorem dx (neg:Bool) (va vb:Value) (xs ys:List Nat) (w:World) (ha:WdsAt w va xs) (hb:WdsAt w vb ys) (hla:xs.length<=137438953472) (hlb:ys.length<=137438953472) (hd:nv ys≠0) :
  Calls Tryz.prog 163 #[.bool neg,va,vb] w fun e w'=>(∃ v,e=.returned (.tuple #[v,.int .i64 0])/\RatAt w' v (fZ neg (nv xs) (nv ys)))/\ag w w':=by
 have HGL:Hid ((nw (Nat.gcd (nv xs) (nv ys))).length<=137438953472):=af (Nat.le_trans (bA (Nat.le_of_dvd (by omega) (Nat.gcd_dvd_right _ _))) (Nat.le_trans (cu hb.wd) hlb));have HBD:=af (fun W (hk:ag w W)=>jr vb ys W (hb.kept hk));have HB:=af (fun W (hk:ag w W)=>jr va xs W (ha.kept hk));have HG:=af (fun W (hk:ag w W) (h0:nv xs≠0)=>pt va vb xs ys W (ha.kept hk) (hb.kept hk) hla hlb h0)
 have HD1:Hid (∀ W vg,ag w W->WdsAt W vg (nw (Nat.gcd (nv xs) (nv ys)))->nv xs≠0->Calls Tryz.prog 225 #[va,vg] W fun e w'=>(∃ v1 v2,e=.returned (.tuple #[v1,v2,.int .i64 0])/\WdsAt w' v1 (nw (nv xs / Nat.gcd (nv xs) (nv ys))))/\ag W w'):=af fun W vg hk hg h0 =>
  (kP va vg xs _ W (ha.kept hk) hg hla (HGL.out) h0 (by rw [aq];exact fun h=>hd (Nat.eq_zero_of_gcd_eq_zero_right h))).mono fun _ _ ⟨⟨v1,v2,h1,h2,_⟩,h3⟩=>⟨⟨v1,v2,h1,by rw [aq] at h2;exact h2⟩,h3⟩
 have HD2:Hid (∀ W vg,ag w W->WdsAt W vg (nw (Nat.gcd (nv xs) (nv ys)))->Calls Tryz.prog 225 #[vb,vg] W fun e w'=>(∃ v1 v2,e=.returned (.tuple #[v1,v2,.int .i64 0])/\WdsAt w' v1 (nw (nv ys / Nat.gcd (nv xs) (nv ys))))/\ag W w'):=af fun W vg hk hg =>
  (kP vb vg ys _ W (hb.kept hk) hg hlb (HGL.out) hd (by rw [aq];exact fun h=>hd (Nat.eq_zero_of_gcd_eq_zero_right h))).mono fun _ _ ⟨⟨v1,v2,h1,h2,_⟩,h3⟩=>⟨⟨v1,v2,h1,by rw [aq] at h2;exact h2⟩,h3⟩
 obtain ⟨a0,c0,rfl⟩:=ha.shape;obtain ⟨a1,c1,rfl⟩:=hb.shape;generalize xs.length=n0 at *;generalize ys.length=n1 at *;obtain ⟨w1,hw1⟩:∃ w1,w1=w.alloc (.cells #[.bool false,.slice none 0 0,.slice none 0 0] 29):=⟨_,rfl⟩;have HR:Hid (aj w1 w.heap.size 29 [.bool false,.slice none 0 0,.slice none 0 0]):=af (by rw [hw1];exact aj.made w #[.bool false,.slice none 0 0,.slice none 0 0] 29);have HK0:Hid (ag w w1):=af (by rw [hw1];exact (ag.refl w).alloc _);have HFX:Hid (bn w1 w.heap.size [.bool false,.slice none 0 0,.slice none 0 0]):=af (by rw [hw1];exact bn.made w #[.bool false,.slice none 0 0,.slice none 0 0] 29);have HW1:=af hw1;have HD0:=af hd;clear hw1 ha hb hla hlb hd;by_cases h0:nv xs=0
 ·have hF:fZ neg (nv xs) (nv ys)=⟨false,[],[]⟩:=by unfold fZ;rw [if_pos h0]
  rw [hF];have H0:=af h0;clear hF h0;go_enter Tryz.func163,Tryz.ntmps163;go_wp2_with fail;rw [<-HW1.out];refine (HBD.out _ HK0.out).mono ?_;rintro e w2 ⟨⟨kd,rfl,hkd⟩,rfl⟩
  have hkd0:((kd:Int) == 0)=false:=by
   have:kd≠0:=fun h=>HD0.out (hkd.iff0.1 h)
   simp;exact this
  clear hkd;go_wp2_with fail;refine (HB.out _ HK0.out).mono ?_;rintro e w2 ⟨⟨k,rfl,hk⟩,rfl⟩;have hk0:k=0:=hk.iff0.2 H0.out;subst hk0;clear hk;have g0:=HR.out.cell (i:=0) (by simp);have g1:=HR.out.cell (i:=1) (by simp);have g2:=HR.out.cell (i:=2) (by simp);have f0:=HR.out.free 0;have f1:=HR.out.free 1;have f2:=HR.out.free 2;go_wp2;have hF:=(((HR.out.store 0 (.bool false)).store 1 (.slice none 0 0)).store 2 (.slice none 0 0));have y0:=hF.cell (i:=0) (by simp);have y1:=hF.cell (i:=1) (by simp);have y2:=hF.cell (i:=2) (by simp);simp only [List.set_cons_zero,List.set_cons_succ,List.getElem_cons_succ,List.getElem_cons_zero] at y0 y1 y2;refine bodyPost_ret (v:=.tuple #[.agg #[.bool false,.slice none 0 0,.slice none 0 0],.int .i64 0]) ?_ rfl ⟨⟨_,rfl,RatAt.zero _⟩,?_⟩
  ·simp [results,Tryz.results163,go_sem,y0,y1,y2]
  ·exact ((HK0.out.store (Nat.le_refl _) _ _).store (Nat.le_refl _) _ _).store (Nat.le_refl _) _ _
 ·have hF:fZ neg (nv xs) (nv ys)=⟨neg,nw (nv xs / Nat.gcd (nv xs) (nv ys)),nw (nv ys / Nat.gcd (nv xs) (nv ys))⟩:=by unfold fZ;rw [if_neg h0]
  rw [hF];have H0:=af h0;clear hF h0;generalize nw (nv xs / Nat.gcd (nv xs) (nv ys))=P at *;generalize nw (nv ys / Nat.gcd (nv xs) (nv ys))=Q at *;generalize nw (Nat.gcd (nv xs) (nv ys))=G at *;go_enter Tryz.func163,Tryz.ntmps163;go_wp2_with fail;rw [<-HW1.out];refine (HBD.out _ HK0.out).mono ?_;rintro e w2 ⟨⟨kd,rfl,hkd⟩,rfl⟩
  have hkd0:((kd:Int) == 0)=false:=by
   have:kd≠0:=fun h=>HD0.out (hkd.iff0.1 h)
   simp;exact this
  clear hkd;go_wp2_with fail;refine (HB.out _ HK0.out).mono ?_;rintro e w2 ⟨⟨k,rfl,hk⟩,rfl⟩
  have hk0:((k:Int) == 0)=false:=by
   have:k≠0:=fun h=>H0.out (hk.iff0.1 h)
   simp;exact this
  clear hk;go_wp2_with fail;refine (HG.out _ HK0.out H0.out).mono ?_;rintro e w3 ⟨⟨v3,rfl,hv3⟩,hk3⟩;have HV3:=af hv3;have HK3:=af (HK0.out.trans hk3);have HR3:=af (HR.out.kept hk3);have HFX3:=af (HFX.out.kept hk3);clear hv3 hk3 hk0;go_wp2_with fail;refine (HD1.out _ _ HK3.out HV3.out H0.out).mono ?_;rintro e w4 ⟨⟨v4,v5,rfl,hv4⟩,hk4⟩;have HV4:=af hv4;have HV3':=af (HV3.out.kept hk4);have HK4:=af (HK3.out.trans hk4);have HR4:=af (HR3.out.kept hk4);have HFX4:=af (HFX3.out.kept hk4);clear hv4 hk4;go_wp2_with fail;refine (HD2.out _ _ HK4.out HV3'.out).mono ?_;rintro e w5 ⟨⟨v6,v7,rfl,hv6⟩,hk5⟩;have HV6:=af hv6;have HV4':=af (HV4.out.kept hk5);have HK5:=af (HK4.out.trans hk5);have HR5:=af (HR4.out.kept hk5);have HFX5:=af (HFX4.out.kept hk5);clear hv6 hk5;obtain ⟨a4,c4,rfl⟩:=HV4'.out.shape;obtain ⟨a6,c6,rfl⟩:=HV6.out.shape;have g0:=HR5.out.cell (i:=0) (by simp);have g1:=HR5.out.cell (i:=1) (by simp);have g2:=HR5.out.cell (i:=2) (by simp);have f0:=HR5.out.free 0;have f1:=HR5.out.free 1;have f2:=HR5.out.free 2;go_wp2;have hF:=(((HR5.out.store 0 (.bool neg)).store 1 (.slice a4 P.length c4)).store 2 (.slice a6 Q.length c6));have y0:=hF.cell (i:=0) (by simp);have y1:=hF.cell (i:=1) (by simp);have y2:=hF.cell (i:=2) (by simp);simp only [List.set_cons_zero,List.set_cons_succ,List.getElem_cons_succ,List.getElem_cons_zero] at y0 y1 y2
  have hO:=(((aw.refl w.heap.size w5).store 0 (.bool neg)).store 1 (.slice a4 P.length c4)).store 2 (.slice a6 Q.length c6);have z1:=HV4'.out.apart HFX5.out (by simp) hO;have z2:=HV6.out.apart HFX5.out (by simp) hO;refine bodyPost_ret (v:=.tuple #[.agg #[.bool neg,.slice a4 P.length c4,.slice a6 Q.length c6],.int .i64 0]) ?_ rfl ⟨⟨_,rfl,⟨_,_,rfl,z1,z2⟩⟩,?_⟩
  ·simp [results,Tryz.results163,go_sem,y0,y1,y2]
  ·exact ((HK5.out.store (Nat.le_refl _) _ _).store (Nat.le_refl _) _ _).store (Nat.le_refl _) _ _
theorem dw {w:World} {g:Nat} {T:TypeId} {v1 v2:Value} {r:Rw} (C:Obj) (hr:aj w g T [.bool false,.slice none 0 0,.slice none 0 0]) (hf:bn w g [.bool false,.slice none 0 0,.slice none 0 0]) (h1:WdsAt w v1 r.num) (h2:WdsAt w v2 r.den) :
  ((((w.setCell ⟨g,0,none⟩ (.bool r.neg)).setCell ⟨g,1,none⟩ v1).setCell ⟨g,2,none⟩ v2).alloc C).cell? ⟨g,0,none⟩=some (.bool r.neg) /\
  ((((w.setCell ⟨g,0,none⟩ (.bool r.neg)).setCell ⟨g,1,none⟩ v1).setCell ⟨g,2,none⟩ v2).alloc C).cell? ⟨g,1,none⟩=some v1 /\
  ((((w.setCell ⟨g,0,none⟩ (.bool r.neg)).setCell ⟨g,1,none⟩ v1).setCell ⟨g,2,none⟩ v2).alloc C).cell? ⟨g,2,none⟩=some v2 /\
  RatAt ((((w.setCell ⟨g,0,none⟩ (.bool r.neg)).setCell ⟨g,1,none⟩ v1).setCell ⟨g,2,none⟩ v2).alloc C) (.agg #[.bool r.neg,v1,v2]) r:=by
 obtain ⟨y0,y1,y2,hra⟩:=aS hr hf h1 h2;have hk:=(ag.refl (((w.setCell ⟨g,0,none⟩ (.bool r.neg)).setCell ⟨g,1,none⟩ v1).setCell ⟨g,2,none⟩ v2)).alloc C;exact ⟨hk.cell y0,hk.cell y1,hk.cell y2,hra.kept hk⟩
theorem qD (n:Nat) (w:World) (hn:n<9223372036854775808):Calls Tryz.prog 224 #[.int .i64 n] w fun e w'=>(∃ v' xs,e=.returned v'/\WdsAt w' v' xs/\nv xs=n/\xs.length=2)/\ag w w':=by
 obtain ⟨x,hx⟩:∃ x,x=n % 4294967296:=⟨_,rfl⟩;obtain ⟨y,hy⟩:∃ y,y=n / 4294967296:=⟨_,rfl⟩;have hx9:x<4294967296:=by omega
 have hy9:y<4294967296:=by omega
 have HV:Hid (nv [x,y]=n):=af (by simp [nv];omega);have e0:IntKind.u64.wrap (n:Int)=(n:Int):=by rw [IntKind.wrap_u64];omega
 have e1:IntKind.u32.wrap (n:Int)=(x:Int):=by rw [IntKind.wrap_u32];omega
 have e2:(n:Int) / 4294967296=(y:Int):=by omega
 have e3:IntKind.u32.wrap (y:Int)=(y:Int):=by rw [IntKind.wrap_u32];omega
 have hp:¬ (n:Int)<0:=by omega
 clear hx hy;go_enter Tryz.func224,Tryz.ntmps224;go_wp2;go_ret;exact ⟨⟨_,rfl,[x,y],tP w x y hx9 hy9,HV.out,rfl⟩,(ag.refl _).alloc _⟩
theorem tm (n:Nat) (w:World) (hn:n<9223372036854775808):Calls Tryz.prog 161 #[.int .i64 n,.int .i64 1] w fun e w'=>(∃ v',e=.returned (.tuple #[v',.int .i64 0])/\RatAt w' v' (ai ((n:Int):Rat)))/\ag w w':=by
 have HS1:=af (fun W=>qD n W hn);have HS2:Hid (∀ W,Calls Tryz.prog 224 #[.int .i64 1] W fun e w'=>(∃ v' xs,e=.returned v'/\WdsAt w' v' xs/\nv xs=1/\xs.length=2)/\ag W w'):=af fun W=>qD 1 W (by omega)
 obtain ⟨R,hR⟩:∃ R,R=ai ((n:Int):Rat):=⟨_,rfl⟩
 have HFO:Hid (∀ W u1 u2 xs ys,WdsAt W u1 xs->WdsAt W u2 ys->nv xs=n->nv ys=1->xs.length=2->ys.length=2->Calls Tryz.prog 163 #[.bool false,u1,u2] W fun e w'=>(∃ v,e=.returned (.tuple #[v,.int .i64 0])/\RatAt w' v R)/\ag W w'):=af fun W u1 u2 xs ys k1 k2 n1 n2 l1 l2=>by
  have h:=dx false u1 u2 xs ys W k1 k2 (by omega) (by omega) (by omega);rw [n1,n2,bJ _ _ _ (by omega),show sg false n=(n:Int) from rfl,Rat.mkRat_one,<-hR] at h;exact h
 rw [<-hR];obtain ⟨w2,hw2⟩:∃ w2,w2=w.alloc (.cells #[.bool false,.slice none 0 0,.slice none 0 0] 29):=⟨_,rfl⟩;have HR:Hid (aj w2 w.heap.size 29 [.bool false,.slice none 0 0,.slice none 0 0]):=af (by rw [hw2];exact aj.made w #[.bool false,.slice none 0 0,.slice none 0 0] 29);have HFX:Hid (bn w2 w.heap.size [.bool false,.slice none 0 0,.slice none 0 0]):=af (by rw [hw2];exact bn.made w #[.bool false,.slice none 0 0,.slice none 0 0] 29);have HK0:Hid (ag w w2):=af (by rw [hw2];exact (ag.refl w).alloc _);have HW2:=af hw2;have hn0:¬ (n:Int)<0:=by omega
 clear hw2 hR;go_enter Tryz.func161,Tryz.ntmps161;go_wp2_with fail;rw [<-HW2.out];refine (HS1.out _).mono ?_;rintro e w3 ⟨⟨v3,xs,rfl,hv3,hn3,hl3⟩,hk3⟩;have HV3:=af hv3;have HN3:=af (And.intro hn3 hl3);have HR3:=af (HR.out.kept hk3);have HF3:=af (HFX.out.kept hk3);have HK3:=af (HK0.out.trans hk3);clear hv3 hk3 hn3 hl3;go_wp2_with fail;refine (HS2.out _).mono ?_;rintro e w4 ⟨⟨v4,ys,rfl,hv4,hn4,hl4⟩,hk4⟩;have HV4:=af hv4;have HN4:=af (And.intro hn4 hl4);have HV3':=af (HV3.out.kept hk4);have HR4:=af (HR3.out.kept hk4);have HF4:=af (HF3.out.kept hk4);have HK4:=af (HK3.out.trans hk4);clear hv4 hk4 hn4 hl4;go_wp2_with fail;refine (HFO.out _ _ _ _ _ HV3'.out HV4.out HN3.out.1 HN4.out.1 HN3.out.2 HN4.out.2).mono ?_;rintro e w10 ⟨⟨v10,rfl,hv10⟩,hk10⟩;have hr10:=HR4.out.kept hk10;have HF10:=af (HF4.out.kept hk10);have HK10:=af (HK4.out.trans hk10);obtain ⟨u7,u8,rfl,k7,k8⟩:=hv10;obtain ⟨a7,c7,rfl⟩:=k7.shape;obtain ⟨a8,c8,rfl⟩:=k8.shape;obtain ⟨y0,y1,y2,hra⟩:=aS hr10 HF10.out k7 k8;have g0:=hr10.cell (i:=0) (by simp);have g1:=hr10.cell (i:=1) (by simp);have g2:=hr10.cell (i:=2) (by simp);have f0:=hr10.free 0;have f1:=hr10.free 1;have f2:=hr10.free 2;have HRA:=af hra;have Y0:=af y0;have Y1:=af y1;have Y2:=af y2;clear hra y0 y1 y2 k7 k8 hr10 hk10;generalize R.num.length=n7 at *
 generalize R.den.length=n8 at *;go_wp2;refine bodyPost_ret (v:=.tuple #[.agg #[.bool R.neg,.slice a7 n7 c7,.slice a8 n8 c8],.int .i64 0]) ?_ rfl ⟨⟨_,rfl,HRA.out⟩,?_⟩
 ·simp [results,Tryz.results161,go_sem,Y0.out,Y1.out,Y2.out]
 ·exact ((HK10.out.store (by omega) _ _).store (by omega) _ _).store (by omega) _ _
theorem jM (n:Nat) (w:World) (hn:n<9223372036854775808):Calls Tryz.prog 102 #[.int .i64 n] w fun e w'=>(∃ v',e=.returned v'/\RatAt w' v' (ai ((n:Int):Rat)))/\ag w w':=by
 have HMA:=af (fun W=>tm n W hn);generalize ai ((n:Int):Rat)=R at *;obtain ⟨w2,hw2⟩:∃ w2,w2=w.alloc (.cells #[.bool false,.slice none 0 0,.slice none 0 0] 29):=⟨_,rfl⟩;have HR:Hid (aj w2 w.heap.size 29 [.bool false,.slice none 0 0,.slice none 0 0]):=af (by rw [hw2];exact aj.made w #[.bool false,.slice none 0 0,.slice none 0 0] 29);have HFX:Hid (bn w2 w.heap.size [.bool false,.slice none 0 0,.slice none 0 0]):=af (by rw [hw2];exact bn.made w #[.bool false,.slice none 0 0,.slice none 0 0] 29);have HK0:Hid (ag w w2):=af (by rw [hw2];exact (ag.refl w).alloc _);have HW2:=af hw2;clear hw2;go_enter Tryz.func102,Tryz.ntmps102;go_wp2_with fail;rw [<-HW2.out];refine (HMA.out _).mono ?_;rintro e w10 ⟨⟨v10,rfl,hv10⟩,hk10⟩;have hr10:=HR.out.kept hk10;have HF10:=af (HFX.out.kept hk10);have HK10:=af (HK0.out.trans hk10);obtain ⟨u7,u8,rfl,k7,k8⟩:=hv10;obtain ⟨a7,c7,rfl⟩:=k7.shape;obtain ⟨a8,c8,rfl⟩:=k8.shape;obtain ⟨y0,y1,y2,hra⟩:=dw (.cells #[.bool R.neg,.slice a7 R.num.length c7,.slice a8 R.den.length c8] 29) hr10 HF10.out k7 k8;have hlt:=hr10.lt;have HRA:=af hra;have Y0:=af y0;have Y1:=af y1;have Y2:=af y2;have g0:=hr10.cell (i:=0) (by simp);have g1:=hr10.cell (i:=1) (by simp);have g2:=hr10.cell (i:=2) (by simp);have f0:=hr10.free 0;have f1:=hr10.free 1;have f2:=hr10.free 2
 clear hra y0 y1 y2 k7 k8 hr10 hk10;generalize R.num.length=n7 at *;generalize R.den.length=n8 at *;go_wp2;refine bodyPost_ret (v:=.agg #[.bool R.neg,.slice a7 n7 c7,.slice a8 n8 c8]) ?_ rfl ⟨⟨_,rfl,HRA.out⟩,?_⟩
 ·simp [results,Tryz.results102,go_sem,Y0.out,Y1.out,Y2.out]
 ·exact (((HK10.out.store (by omega) _ _).store (by omega) _ _).store (by omega) _ _).alloc _
theorem gS (v:Value) (r:Rw) (w:World) (hv:RatAt w v r) (hs:r.Short 137438953472):Calls Tryz.prog 111 #[v] w fun e w'=>(∃ v',e=.returned v'/\RatAt w' v' (ai (- al r)))/\ag w w':=by
 have HPA:=af (fun W (hk:ag w W)=>bv v r W (hv.kept hk) hs);have hok:=az hv.ok;have hsh:=aB hs (by omega);obtain ⟨R,hR⟩:∃ R,R=ai (- al r):=⟨_,rfl⟩
 have HFO:Hid (∀ W u1 u2,WdsAt W u1 (ah r).2.1->WdsAt W u2 (ah r).2.2->Calls Tryz.prog 163 #[.bool (!(ah r).1),u1,u2] W fun e w'=>(∃ v,e=.returned (.tuple #[v,.int .i64 0])/\RatAt w' v R)/\ag W w'):=af fun W u1 u2 k1 k2=>by
  have h:=dx (!(ah r).1) u1 u2 _ _ W k1 k2 hsh.1 hsh.2 hok.2.2.1;rw [bJ _ _ _ hok.2.2.1,mJ,<-hR] at h;exact h
 rw [<-hR];obtain ⟨u1,u2,rfl,h1,h2⟩:=hv;obtain ⟨a1,c1,rfl⟩:=h1.shape;obtain ⟨a2,c2,rfl⟩:=h2.shape;obtain ⟨w2,hw2⟩:∃ w2,w2=(w.alloc (.cells #[.bool r.neg,.slice a1 r.num.length c1,.slice a2 r.den.length c2] 29)).alloc (.cells #[.bool false,.slice none 0 0,.slice none 0 0] 29):=⟨_,rfl⟩;have HM:=af (pz w (.cells #[.bool r.neg,.slice a1 r.num.length c1,.slice a2 r.den.length c2] 29));rw [<-hw2] at HM;have HW2:=af hw2;generalize (ah r).1=s at *;generalize (ah r).2.1=N at *;generalize (ah r).2.2=D at *;generalize r.num.length=n1 at *;generalize r.den.length=n2 at *;generalize r.neg=neg at *;clear hok hsh hR h1 h2 hs hw2;go_enter Tryz.func111,Tryz.ntmps111;go_wp2_with fail;rw [<-HW2.out];refine (HPA.out _ HM.out.2.2).mono ?_;rintro e w3 ⟨⟨u3,u4,rfl,hu3,hu4⟩,hk3⟩;have H3:=af hu3;have H4:=af hu4;have HR3:=af (HM.out.1.kept hk3);have HF3:=af (HM.out.2.1.kept hk3);have HK3:=af (HM.out.2.2.trans hk3);clear hu3 hu4 hk3;go_wp2_with fail;refine (HFO.out _ _ _ H3.out H4.out).mono ?_;rintro e w4 ⟨⟨v4,rfl,hv4⟩,hk4⟩;have HV4:=af hv4;have hr4:=HR3.out.kept hk4;have HR4:=af hr4;have HF4:=af (HF3.out.kept hk4);have HK4:=af (HK3.out.trans hk4);obtain ⟨u5,u6,rfl,k5,k6⟩:=hv4;obtain ⟨a5,c5,rfl⟩:=k5.shape;obtain ⟨a6,c6,rfl⟩:=k6.shape;obtain ⟨y0,y1,y2,hra⟩:=dw (.cells #[.bool R.neg,.slice a5 R.num.length c5,.slice a6 R.den.length c6] 29) hr4 HF4.out k5 k6
 have hlt:=hr4.lt;have g0:=hr4.cell (i:=0) (by simp);have g1:=hr4.cell (i:=1) (by simp);have g2:=hr4.cell (i:=2) (by simp);have f0:=hr4.free 0;have f1:=hr4.free 1;have f2:=hr4.free 2;have HRA:=af hra;have Y0:=af y0;have Y1:=af y1;have Y2:=af y2;clear hra y0 y1 y2 k5 k6 hr4 hk4;generalize R.num.length=n5 at *;generalize R.den.length=n6 at *;go_wp2;refine bodyPost_ret (v:=.agg #[.bool R.neg,.slice a5 n5 c5,.slice a6 n6 c6]) ?_ rfl ⟨⟨_,rfl,HRA.out⟩,?_⟩
 ·simp [results,Tryz.results111,go_sem,Y0.out,Y1.out,Y2.out]
 ·exact (((HK4.out.store (by omega) _ _).store (by omega) _ _).store (by omega) _ _).alloc _
theorem nB (v:Value) (r:Rw) (w:World) (hv:RatAt w v r) (hs:r.Short 137438953472):Calls Tryz.prog 121 #[v] w fun e w'=>e=.returned (.int .i64 (bT (al r)))/\ag w w':=by
 have HPA:=af (fun W (hk:ag w W)=>bv v r W (hv.kept hk) hs);obtain ⟨k1,k2⟩:=pK hv.ok;obtain ⟨u1,u2,rfl,h1,h2⟩:=hv;obtain ⟨a1,c1,rfl⟩:=h1.shape;obtain ⟨a2,c2,rfl⟩:=h2.shape;have HK0:Hid (ag w (w.alloc (.cells #[.bool r.neg,.slice a1 r.num.length c1,.slice a2 r.den.length c2] 29))):=af ((ag.refl w).alloc _);obtain ⟨ln,hln⟩:∃ ln,ln=(ah r).2.1.length:=⟨_,rfl⟩;have HLN:=af hln;rw [<-hln] at k1 k2;obtain ⟨S,hS⟩:∃ S,S=bT (al r):=⟨_,rfl⟩;rw [<-hS]
 have hSS:S=if ln=0 then 0 else if (ah r).1=true then -1 else 1:=by
  rw [hS];unfold bT;by_cases h:ln=0
  ·rw [if_pos h,if_pos (k1.1 h)]
  ·rw [if_neg h,if_neg (fun e=>h (k1.2 e))];by_cases h3:(ah r).1=true
   ·rw [if_pos h3,if_pos ((k2 h).1 h3)]
   ·rw [if_neg h3,if_neg (fun e=>h3 ((k2 h).2 e))]
 generalize (ah r).1=s at *;generalize (ah r).2.1=N at *;generalize (ah r).2.2=D at *;generalize r.num.length=n1 at *;generalize r.den.length=n2 at *;generalize r.neg=neg at *;clear h1 h2 hs hS k1 k2 hln;by_cases h0:ln=0
 ·have hE:S=0:=by rw [hSS,if_pos h0]
  subst h0 hE;clear hSS;go_enter Tryz.func121,Tryz.ntmps121;go_wp2_with fail;refine (HPA.out _ HK0.out).mono ?_;rintro e w3 ⟨⟨u3,u4,rfl,hu3,hu4⟩,hk3⟩;obtain ⟨a3,c3,rfl⟩:=hu3.shape;rw [<-HLN.out];have HK3:=af (HK0.out.trans hk3);clear hu3 hu4 hk3;go_wp2;go_ret;exact ⟨rfl,HK3.out⟩
 ·have hb:((ln:Int) == 0)=false:=by simp;exact h0
  cases s with
  | true =>
   have hE:S=-1:=by rw [hSS,if_neg h0,if_pos rfl]
   subst hE;clear hSS h0;go_enter Tryz.func121,Tryz.ntmps121;go_wp2_with fail;refine (HPA.out _ HK0.out).mono ?_;rintro e w3 ⟨⟨u3,u4,rfl,hu3,hu4⟩,hk3⟩;obtain ⟨a3,c3,rfl⟩:=hu3.shape;rw [<-HLN.out];have HK3:=af (HK0.out.trans hk3);clear hu3 hu4 hk3;go_wp2;go_ret;exact ⟨rfl,HK3.out⟩
  | false =>
   have hE:S=1:=by rw [hSS,if_neg h0,if_neg (by simp)]
   subst hE;clear hSS h0;go_enter Tryz.func121,Tryz.ntmps121;go_wp2_with fail;refine (HPA.out _ HK0.out).mono ?_;rintro e w3 ⟨⟨u3,u4,rfl,hu3,hu4⟩,hk3⟩;obtain ⟨a3,c3,rfl⟩:=hu3.shape;rw [<-HLN.out];have HK3:=af (HK0.out.trans hk3);clear hu3 hu4 hk3;go_wp2;go_ret;exact ⟨rfl,HK3.out⟩
theorem lQ (va vb:Value) (r s:Rw) (w:World) (ha:RatAt w va r) (hb:RatAt w vb s) (hr:r.Short 68719476736) (hs:s.Short 68719476736):Calls Tryz.prog 103 #[va,vb] w fun e w'=>(∃ v',e=.returned v'/\RatAt w' v' (ai (al r*al s)))/\ag w w':=by
 have HP1:=af (fun W (hk:ag w W)=>bv va r W (ha.kept hk) ⟨Nat.le_trans hr.1 (by omega),Nat.le_trans hr.2 (by omega)⟩);have HP2:=af (fun W (hk:ag w W)=>bv vb s W (hb.kept hk) ⟨Nat.le_trans hs.1 (by omega),Nat.le_trans hs.2 (by omega)⟩);have hok1:=az ha.ok;have hok2:=az hb.ok;have hsh1:=aB hr (by omega);have hsh2:=aB hs (by omega);obtain ⟨R,hR⟩:∃ R,R=ai (al r*al s):=⟨_,rfl⟩;obtain ⟨x,hx⟩:∃ x,x=((ah r).1 != (ah s).1):=⟨_,rfl⟩
 have HFO:Hid (∀ W u1 u2,WdsAt W u1 (nw (nv (ah r).2.1*nv (ah s).2.1))->WdsAt W u2 (nw (nv (ah r).2.2*nv (ah s).2.2))->Calls Tryz.prog 163 #[.bool x,u1,u2] W fun e w'=>(∃ v,e=.returned (.tuple #[v,.int .i64 0])/\RatAt w' v R)/\ag W w'):=af fun W u1 u2 k1 k2=>by
  have hd:nv (ah r).2.2*nv (ah s).2.2≠0:=Nat.mul_ne_zero hok1.2.2.1 hok2.2.2.1;have h:=dx x u1 u2 _ _ W k1 k2 (Nat.le_trans (aD hok1.1 hok2.1) (by omega)) (Nat.le_trans (aD hok1.2.1 hok2.2.1) (by omega)) (by rw [aq];exact hd);rw [aq,aq,bJ _ _ _ hd,hx,mI,<-hR] at h;rw [hx];exact h
 have HM1:Hid (∀ W u1 u2,WdsAt W u1 (ah r).2.1->WdsAt W u2 (ah s).2.1->Calls Tryz.prog 164 #[u1,u2] W fun e w'=>(∃ v',e=.returned v'/\WdsAt w' v' (nw (nv (ah r).2.1*nv (ah s).2.1)))/\ag W w'):=af fun W u1 u2 k1 k2=>bF u1 u2 _ _ W k1 k2 (by omega) (by omega)
 have HM2:Hid (∀ W u1 u2,WdsAt W u1 (ah r).2.2->WdsAt W u2 (ah s).2.2->Calls Tryz.prog 164 #[u1,u2] W fun e w'=>(∃ v',e=.returned v'/\WdsAt w' v' (nw (nv (ah r).2.2*nv (ah s).2.2)))/\ag W w'):=af fun W u1 u2 k1 k2=>bF u1 u2 _ _ W k1 k2 (by omega) (by omega)
 rw [<-hR];obtain ⟨u1,u2,rfl,h1,h2⟩:=ha;obtain ⟨u3,u4,rfl,h3,h4⟩:=hb;obtain ⟨a1,c1,rfl⟩:=h1.shape;obtain ⟨a2,c2,rfl⟩:=h2.shape;obtain ⟨a3,c3,rfl⟩:=h3.shape;obtain ⟨a4,c4,rfl⟩:=h4.shape;obtain ⟨w2,hw2⟩:∃ w2,w2=((w.alloc (.cells #[.bool r.neg,.slice a1 r.num.length c1,.slice a2 r.den.length c2] 29)).alloc (.cells #[.bool s.neg,.slice a3 s.num.length c3,.slice a4 s.den.length c4] 29)).alloc (.cells #[.bool false,.slice none 0 0,.slice none 0 0] 29):=⟨_,rfl⟩;have HM:=af (bC w (.cells #[.bool r.neg,.slice a1 r.num.length c1,.slice a2 r.den.length c2] 29) (.cells #[.bool s.neg,.slice a3 s.num.length c3,.slice a4 s.den.length c4] 29));rw [<-hw2] at HM;have hb2:=aj.made (w.alloc (.cells #[.bool r.neg,.slice a1 r.num.length c1,.slice a2 r.den.length c2] 29)) #[.bool s.neg,.slice a3 s.num.length c3,.slice a4 s.den.length c4] 29;simp only [World.size_alloc] at hb2;have HB2:Hid (aj w2 (w.heap.size+1) 29 [.bool s.neg,.slice a3 s.num.length c3,.slice a4 s.den.length c4]):=af (by rw [hw2];exact hb2.kept ((ag.refl _).alloc _));have HW2:=af hw2;generalize nw (nv (ah r).2.1*nv (ah s).2.1)=NM at *;generalize nw (nv (ah r).2.2*nv (ah s).2.2)=DE at *;generalize (ah r).1=s1 at *;generalize (ah s).1=s2 at *;generalize (ah r).2.1=N at *;generalize (ah r).2.2=D at *;generalize (ah s).2.1=M at *;generalize (ah s).2.2=E at *;generalize r.num.length=n1 at *
 generalize r.den.length=n2 at *;generalize s.num.length=n3 at *;generalize s.den.length=n4 at *;generalize r.neg=neg1 at *;generalize s.neg=neg2 at *;have hx1:(s1 != s2)=x:=hx.symm;have hx2:(s1 == s2)=!x:=by rw [hx];simp [bne]
 clear hok1 hok2 hsh1 hsh2 hR h1 h2 h3 h4 hr hs hw2 hb2 hx;go_enter Tryz.func103,Tryz.ntmps103;go_wp2_with fail;rw [<-HW2.out];refine (HP1.out _ HM.out.2.2).mono ?_;rintro e w3 ⟨⟨u3,u4,rfl,hu3,hu4⟩,hk3⟩;have HN:=af hu3;have HD:=af hu4;have HR3:=af (HM.out.1.kept hk3);have HF3:=af (HM.out.2.1.kept hk3);have hb3:=HB2.out.kept hk3;have g0:=hb3.cell (i:=0) (by simp);have g1:=hb3.cell (i:=1) (by simp);have g2:=hb3.cell (i:=2) (by simp);simp only [List.getElem_cons_succ,List.getElem_cons_zero] at g0 g1 g2;have HK3:=af (HM.out.2.2.trans hk3);clear hu3 hu4 hk3 hb3;go_wp2_with fail;refine (HP2.out _ HK3.out).mono ?_;rintro e w4 ⟨⟨u5,u6,rfl,hu5,hu6⟩,hk4⟩;have HN':=af (HN.out.kept hk4);have HD':=af (HD.out.kept hk4);have HMM:=af hu5;have HEE:=af hu6;have HR4:=af (HR3.out.kept hk4);have HF4:=af (HF3.out.kept hk4);have HK4:=af (HK3.out.trans hk4);clear hu5 hu6 hk4 g0 g1 g2;go_wp2_with fail;refine (HM1.out _ _ _ HN'.out HMM.out).mono ?_;rintro e w5 ⟨⟨v5,rfl,hv5⟩,hk5⟩;have HV5:=af hv5;have HR5:=af (HR4.out.kept hk5);have HF5:=af (HF4.out.kept hk5);have HD5:=af (HD'.out.kept hk5);have HE5:=af (HEE.out.kept hk5);have HK5:=af (HK4.out.trans hk5);clear hv5 hk5;go_wp2_with fail;refine (HM2.out _ _ _ HD5.out HE5.out).mono ?_;rintro e w6 ⟨⟨v6,rfl,hv6⟩,hk6⟩;have HV6:=af hv6;have HV5':=af (HV5.out.kept hk6)
 have HR6:=af (HR5.out.kept hk6);have HF6:=af (HF5.out.kept hk6);have HK6:=af (HK5.out.trans hk6);clear hv6 hk6;go_wp2_with fail
 first
  | (refine (HFO.out _ _ _ HV5'.out HV6.out).mono ?_)
  | (rw [hx1];refine (HFO.out _ _ _ HV5'.out HV6.out).mono ?_)
 rintro e w7 ⟨⟨v7,rfl,hv7⟩,hk7⟩;have HV7:=af hv7;have hr7:=HR6.out.kept hk7;have HF7:=af (HF6.out.kept hk7);have HK7:=af (HK6.out.trans hk7);obtain ⟨u7,u8,rfl,k7,k8⟩:=hv7;obtain ⟨a7,c7,rfl⟩:=k7.shape;obtain ⟨a8,c8,rfl⟩:=k8.shape;obtain ⟨y0,y1,y2,hra⟩:=dw (.cells #[.bool R.neg,.slice a7 R.num.length c7,.slice a8 R.den.length c8] 29) hr7 HF7.out k7 k8;have hlt:=hr7.lt;have g0:=hr7.cell (i:=0) (by simp);have g1:=hr7.cell (i:=1) (by simp);have g2:=hr7.cell (i:=2) (by simp);have f0:=hr7.free 0;have f1:=hr7.free 1;have f2:=hr7.free 2;have HRA:=af hra;have Y0:=af y0;have Y1:=af y1;have Y2:=af y2;clear hra y0 y1 y2 k7 k8 hr7 hk7;generalize R.num.length=n7 at *;generalize R.den.length=n8 at *;go_wp2;refine bodyPost_ret (v:=.agg #[.bool R.neg,.slice a7 n7 c7,.slice a8 n8 c8]) ?_ rfl ⟨⟨_,rfl,HRA.out⟩,?_⟩
 ·simp [results,Tryz.results103,go_sem,Y0.out,Y1.out,Y2.out]
 ·exact (((HK7.out.store (by omega) _ _).store (by omega) _ _).store (by omega) _ _).alloc _
theorem pZ (va vb:Value) (r s:Rw) (w:World) (ha:RatAt w va r) (hb:RatAt w vb s) (hr:r.Short 34359738368) (hs:s.Short 34359738368) (hss:(ah r).1=(ah s).1):Calls Tryz.prog 113 #[va,vb] w fun e w'=>(∃ v',e=.returned v'/\RatAt w' v' (ai (al r+al s)))/\ag w w':=by
 have HP1:=af (fun W (hk:ag w W)=>bv va r W (ha.kept hk) ⟨Nat.le_trans hr.1 (by omega),Nat.le_trans hr.2 (by omega)⟩);have HP2:=af (fun W (hk:ag w W)=>bv vb s W (hb.kept hk) ⟨Nat.le_trans hs.1 (by omega),Nat.le_trans hs.2 (by omega)⟩);have hok1:=az ha.ok;have hok2:=az hb.ok;have hsh1:=aB hr (by omega);have hsh2:=aB hs (by omega);obtain ⟨R,hR⟩:∃ R,R=ai (al r+al s):=⟨_,rfl⟩;obtain ⟨p,hp⟩:∃ p,p=nv (ah r).2.1*nv (ah s).2.2:=⟨_,rfl⟩;obtain ⟨q,hq⟩:∃ q,q=nv (ah s).2.1*nv (ah r).2.2:=⟨_,rfl⟩;obtain ⟨d,hd⟩:∃ d,d=nv (ah r).2.2*nv (ah s).2.2:=⟨_,rfl⟩;have hlp:(nw p).length<=68719476736:=by rw [hp];exact Nat.le_trans (aD hok1.1 hok2.2.1) (by omega)
 have hlq:(nw q).length<=68719476736:=by rw [hq];exact Nat.le_trans (aD hok2.1 hok1.2.1) (by omega)
 have hld:(nw d).length<=68719476736:=by rw [hd];exact Nat.le_trans (aD hok1.2.1 hok2.2.1) (by omega)
 have hd0:d≠0:=by rw [hd];exact Nat.mul_ne_zero hok1.2.2.1 hok2.2.2.1
 have HAD:Hid (∀ W u1 u2,WdsAt W u1 (nw p)->WdsAt W u2 (nw q)->Calls Tryz.prog 174 #[u1,u2] W fun e w'=>(∃ v',e=.returned v'/\WdsAt w' v' (nw (p+q)))/\ag W w'):=af fun W u1 u2 k1 k2=>by
  have h:=vi u1 u2 _ _ W k1 k2 (by omega) (by omega);rw [aq,aq] at h;exact h
 have HFO:Hid (∀ W u1 u2,WdsAt W u1 (nw (p+q))->WdsAt W u2 (nw d)->Calls Tryz.prog 163 #[.bool (ah r).1,u1,u2] W fun e w'=>(∃ v,e=.returned (.tuple #[v,.int .i64 0])/\RatAt w' v R)/\ag W w'):=af fun W u1 u2 k1 k2=>by
  have h:=dx (ah r).1 u1 u2 _ _ W k1 k2 (Nat.le_trans (kI hlp hlq) (by omega)) (Nat.le_trans hld (by omega)) (by rw [aq];exact hd0);rw [aq,aq,bJ _ _ _ hd0,hp,hq,hd,mH ha.ok hb.ok hss,<-hR] at h;exact h
 have HM1:Hid (∀ W u1 u2,WdsAt W u1 (ah r).2.1->WdsAt W u2 (ah s).2.2->Calls Tryz.prog 164 #[u1,u2] W fun e w'=>(∃ v',e=.returned v'/\WdsAt w' v' (nw p))/\ag W w'):=af fun W u1 u2 k1 k2=>by rw [hp];exact bF u1 u2 _ _ W k1 k2 (by omega) (by omega)
 have HM2:Hid (∀ W u1 u2,WdsAt W u1 (ah s).2.1->WdsAt W u2 (ah r).2.2->Calls Tryz.prog 164 #[u1,u2] W fun e w'=>(∃ v',e=.returned v'/\WdsAt w' v' (nw q))/\ag W w'):=af fun W u1 u2 k1 k2=>by rw [hq];exact bF u1 u2 _ _ W k1 k2 (by omega) (by omega)
 have HM3:Hid (∀ W u1 u2,WdsAt W u1 (ah r).2.2->WdsAt W u2 (ah s).2.2->Calls Tryz.prog 164 #[u1,u2] W fun e w'=>(∃ v',e=.returned v'/\WdsAt w' v' (nw d))/\ag W w'):=af fun W u1 u2 k1 k2=>by rw [hd];exact bF u1 u2 _ _ W k1 k2 (by omega) (by omega)
 rw [<-hR];obtain ⟨u1,u2,rfl,h1,h2⟩:=ha;obtain ⟨u3,u4,rfl,h3,h4⟩:=hb;obtain ⟨a1,c1,rfl⟩:=h1.shape;obtain ⟨a2,c2,rfl⟩:=h2.shape;obtain ⟨a3,c3,rfl⟩:=h3.shape;obtain ⟨a4,c4,rfl⟩:=h4.shape;obtain ⟨w2,hw2⟩:∃ w2,w2=((w.alloc (.cells #[.bool r.neg,.slice a1 r.num.length c1,.slice a2 r.den.length c2] 29)).alloc (.cells #[.bool s.neg,.slice a3 s.num.length c3,.slice a4 s.den.length c4] 29)).alloc (.cells #[.bool false,.slice none 0 0,.slice none 0 0] 29):=⟨_,rfl⟩;have HM:=af (bC w (.cells #[.bool r.neg,.slice a1 r.num.length c1,.slice a2 r.den.length c2] 29) (.cells #[.bool s.neg,.slice a3 s.num.length c3,.slice a4 s.den.length c4] 29));rw [<-hw2] at HM;have hb2:=aj.made (w.alloc (.cells #[.bool r.neg,.slice a1 r.num.length c1,.slice a2 r.den.length c2] 29)) #[.bool s.neg,.slice a3 s.num.length c3,.slice a4 s.den.length c4] 29;simp only [World.size_alloc] at hb2;have HB2:Hid (aj w2 (w.heap.size+1) 29 [.bool s.neg,.slice a3 s.num.length c3,.slice a4 s.den.length c4]):=af (by rw [hw2];exact hb2.kept ((ag.refl _).alloc _));have HW2:=af hw2;generalize nw d=DE at *;generalize (ah r).1=s1 at *;generalize (ah s).1=s2 at *;generalize (ah r).2.1=N at *;generalize (ah r).2.2=D at *;generalize (ah s).2.1=M at *;generalize (ah s).2.2=E at *;generalize r.num.length=n1 at *;generalize r.den.length=n2 at *;generalize s.num.length=n3 at *;generalize s.den.length=n4 at *
 generalize r.neg=neg1 at *;generalize s.neg=neg2 at *;clear hok1 hok2 hsh1 hsh2 hR h1 h2 h3 h4 hr hs hw2 hb2 hp hq hd hlp hlq hld hd0;have hb:(s1 == s2)=true:=by simpa using hss
 clear hss;go_enter Tryz.func113,Tryz.ntmps113;go_wp2_with fail;rw [<-HW2.out];refine (HP1.out _ HM.out.2.2).mono ?_;rintro e w3 ⟨⟨u3,u4,rfl,hu3,hu4⟩,hk3⟩;have HN:=af hu3;have HD:=af hu4;have HR3:=af (HM.out.1.kept hk3);have HF3:=af (HM.out.2.1.kept hk3);have hb3:=HB2.out.kept hk3;have g0:=hb3.cell (i:=0) (by simp);have g1:=hb3.cell (i:=1) (by simp);have g2:=hb3.cell (i:=2) (by simp);simp only [List.getElem_cons_succ,List.getElem_cons_zero] at g0 g1 g2;have HK3:=af (HM.out.2.2.trans hk3);clear hu3 hu4 hk3 hb3;go_wp2_with fail;refine (HP2.out _ HK3.out).mono ?_;rintro e w4 ⟨⟨u5,u6,rfl,hu5,hu6⟩,hk4⟩;have HN':=af (HN.out.kept hk4);have HD':=af (HD.out.kept hk4);have HMM:=af hu5;have HEE:=af hu6;have HR4:=af (HR3.out.kept hk4);have HF4:=af (HF3.out.kept hk4);have HK4:=af (HK3.out.trans hk4);clear hu5 hu6 hk4 g0 g1 g2;go_wp2_with fail;refine (HM1.out _ _ _ HN'.out HEE.out).mono ?_;rintro e w5 ⟨⟨v5,rfl,hv5⟩,hk5⟩;have HV5:=af hv5;have HR5:=af (HR4.out.kept hk5);have HF5:=af (HF4.out.kept hk5);have HD5:=af (HD'.out.kept hk5);have HE5:=af (HEE.out.kept hk5);have HM5:=af (HMM.out.kept hk5);have HK5:=af (HK4.out.trans hk5);clear hv5 hk5;go_wp2_with fail;refine (HM2.out _ _ _ HM5.out HD5.out).mono ?_;rintro e w6 ⟨⟨v6,rfl,hv6⟩,hk6⟩;have HV6:=af hv6;have HV5':=af (HV5.out.kept hk6)
 have HR6:=af (HR5.out.kept hk6);have HF6:=af (HF5.out.kept hk6);have HD6:=af (HD5.out.kept hk6);have HE6:=af (HE5.out.kept hk6);have HK6:=af (HK5.out.trans hk6);clear hv6 hk6;go_wp2_with fail;refine (HM3.out _ _ _ HD6.out HE6.out).mono ?_;rintro e w7 ⟨⟨v7,rfl,hv7⟩,hk7⟩;have HVD:=af hv7;have HVP:=af (HV5'.out.kept hk7);have HVQ:=af (HV6.out.kept hk7);have HR7:=af (HR6.out.kept hk7);have HF7:=af (HF6.out.kept hk7);have HK7:=af (HK6.out.trans hk7);clear hv7 hk7;go_wp2_with fail;refine (HAD.out _ _ _ HVP.out HVQ.out).mono ?_;rintro e w9 ⟨⟨v9,rfl,hv9⟩,hk9⟩;have HVD8:=HVD;have HR8:=HR7;have HF8:=HF7;have HK8:=HK7;have HV9:=af hv9;have HVD9:=af (HVD8.out.kept hk9);have HR9:=af (HR8.out.kept hk9);have HF9:=af (HF8.out.kept hk9);have HK9:=af (HK8.out.trans hk9);clear hv9 hk9;go_wp2_with fail;refine (HFO.out _ _ _ HV9.out HVD9.out).mono ?_;rintro e w10 ⟨⟨v10,rfl,hv10⟩,hk10⟩;have hr10:=HR9.out.kept hk10;have HF10:=af (HF9.out.kept hk10);have HK10:=af (HK9.out.trans hk10);obtain ⟨u7,u8,rfl,k7,k8⟩:=hv10;obtain ⟨a7,c7,rfl⟩:=k7.shape;obtain ⟨a8,c8,rfl⟩:=k8.shape;obtain ⟨y0,y1,y2,hra⟩:=dw (.cells #[.bool R.neg,.slice a7 R.num.length c7,.slice a8 R.den.length c8] 29) hr10 HF10.out k7 k8;have hlt:=hr10.lt;have g0:=hr10.cell (i:=0) (by simp);have g1:=hr10.cell (i:=1) (by simp)
 have g2:=hr10.cell (i:=2) (by simp);have f0:=hr10.free 0;have f1:=hr10.free 1;have f2:=hr10.free 2;have HRA:=af hra;have Y0:=af y0;have Y1:=af y1;have Y2:=af y2;clear hra y0 y1 y2 k7 k8 hr10 hk10;generalize R.num.length=n7 at *;generalize R.den.length=n8 at *;go_wp2;refine bodyPost_ret (v:=.agg #[.bool R.neg,.slice a7 n7 c7,.slice a8 n8 c8]) ?_ rfl ⟨⟨_,rfl,HRA.out⟩,?_⟩
 ·simp [results,Tryz.results113,go_sem,Y0.out,Y1.out,Y2.out]
 ·exact (((HK10.out.store (by omega) _ _).store (by omega) _ _).store (by omega) _ _).alloc _
theorem ti (va vb:Value) (r s:Rw) (w:World) (ha:RatAt w va r) (hb:RatAt w vb s) (hr:r.Short 34359738368) (hs:s.Short 34359738368) (hss:(ah r).1≠(ah s).1) (hle:nv (ah s).2.1*nv (ah r).2.2<=nv (ah r).2.1*nv (ah s).2.2):Calls Tryz.prog 113 #[va,vb] w fun e w'=>(∃ v',e=.returned v'/\RatAt w' v' (ai (al r+al s)))/\ag w w':=by
 have HP1:=af (fun W (hk:ag w W)=>bv va r W (ha.kept hk) ⟨Nat.le_trans hr.1 (by omega),Nat.le_trans hr.2 (by omega)⟩);have HP2:=af (fun W (hk:ag w W)=>bv vb s W (hb.kept hk) ⟨Nat.le_trans hs.1 (by omega),Nat.le_trans hs.2 (by omega)⟩);have hok1:=az ha.ok;have hok2:=az hb.ok;have hsh1:=aB hr (by omega);have hsh2:=aB hs (by omega);obtain ⟨R,hR⟩:∃ R,R=ai (al r+al s):=⟨_,rfl⟩;obtain ⟨p,hp⟩:∃ p,p=nv (ah r).2.1*nv (ah s).2.2:=⟨_,rfl⟩;obtain ⟨q,hq⟩:∃ q,q=nv (ah s).2.1*nv (ah r).2.2:=⟨_,rfl⟩;obtain ⟨d,hd⟩:∃ d,d=nv (ah r).2.2*nv (ah s).2.2:=⟨_,rfl⟩;have hlp:(nw p).length<=68719476736:=by rw [hp];exact Nat.le_trans (aD hok1.1 hok2.2.1) (by omega)
 have hlq:(nw q).length<=68719476736:=by rw [hq];exact Nat.le_trans (aD hok2.1 hok1.2.1) (by omega)
 have hld:(nw d).length<=68719476736:=by rw [hd];exact Nat.le_trans (aD hok1.2.1 hok2.2.1) (by omega)
 have hd0:d≠0:=by rw [hd];exact Nat.mul_ne_zero hok1.2.2.1 hok2.2.2.1
 rw [<-hp,<-hq] at hle
 have HCM:Hid (∀ W u1 u2,WdsAt W u1 (nw p)->WdsAt W u2 (nw q)->Calls Tryz.prog 175 #[u1,u2] W fun e w'=>e=.returned (.int .i64 (cN p q))/\ag W w'):=af fun W u1 u2 k1 k2=>by
  have h:=fg u1 u2 _ _ W k1 k2;rw [aq,aq] at h;exact h.mono fun _ _ ⟨h1,h2⟩=>⟨h1,by rw [h2];exact ag.refl _⟩
 have HSU:Hid (∀ W u1 u2,WdsAt W u1 (nw p)->WdsAt W u2 (nw q)->Calls Tryz.prog 176 #[u1,u2] W fun e w'=>(∃ v',e=.returned (.tuple #[v',.int .i64 0])/\WdsAt w' v' (nw (p - q)))/\ag W w'):=af fun W u1 u2 k1 k2=>by
  have h:=kQ u1 u2 _ _ W k1 k2 (by rw [aq,aq];exact hle);rw [aq,aq] at h;exact h
 obtain ⟨cm,hcm⟩:∃ cm,cm=cN p q:=⟨_,rfl⟩;rw [<-hcm] at HCM
 have hcm0:¬ cm<0:=by
  rw [hcm];rcases Nat.lt_or_ge q p with h | h
  ·rw [eD h];omega
  ·rw [ft (by omega)];omega
 have HFO:Hid (∀ W u1 u2,WdsAt W u1 (nw (p - q))->WdsAt W u2 (nw d)->Calls Tryz.prog 163 #[.bool (ah r).1,u1,u2] W fun e w'=>(∃ v,e=.returned (.tuple #[v,.int .i64 0])/\RatAt w' v R)/\ag W w'):=af fun W u1 u2 k1 k2=>by
  have h:=dx (ah r).1 u1 u2 _ _ W k1 k2 (Nat.le_trans (bA (Nat.sub_le p q)) (by omega)) (Nat.le_trans hld (by omega)) (by rw [aq];exact hd0);rw [aq,aq,bJ _ _ _ hd0,hp,hq,hd,mK ha.ok hb.ok hss (by rw [hp,hq] at hle;exact hle),<-hR] at h;exact h
 have HM1:Hid (∀ W u1 u2,WdsAt W u1 (ah r).2.1->WdsAt W u2 (ah s).2.2->Calls Tryz.prog 164 #[u1,u2] W fun e w'=>(∃ v',e=.returned v'/\WdsAt w' v' (nw p))/\ag W w'):=af fun W u1 u2 k1 k2=>by rw [hp];exact bF u1 u2 _ _ W k1 k2 (by omega) (by omega)
 have HM2:Hid (∀ W u1 u2,WdsAt W u1 (ah s).2.1->WdsAt W u2 (ah r).2.2->Calls Tryz.prog 164 #[u1,u2] W fun e w'=>(∃ v',e=.returned v'/\WdsAt w' v' (nw q))/\ag W w'):=af fun W u1 u2 k1 k2=>by rw [hq];exact bF u1 u2 _ _ W k1 k2 (by omega) (by omega)
 have HM3:Hid (∀ W u1 u2,WdsAt W u1 (ah r).2.2->WdsAt W u2 (ah s).2.2->Calls Tryz.prog 164 #[u1,u2] W fun e w'=>(∃ v',e=.returned v'/\WdsAt w' v' (nw d))/\ag W w'):=af fun W u1 u2 k1 k2=>by rw [hd];exact bF u1 u2 _ _ W k1 k2 (by omega) (by omega)
 rw [<-hR];obtain ⟨u1,u2,rfl,h1,h2⟩:=ha;obtain ⟨u3,u4,rfl,h3,h4⟩:=hb;obtain ⟨a1,c1,rfl⟩:=h1.shape;obtain ⟨a2,c2,rfl⟩:=h2.shape;obtain ⟨a3,c3,rfl⟩:=h3.shape;obtain ⟨a4,c4,rfl⟩:=h4.shape;obtain ⟨w2,hw2⟩:∃ w2,w2=((w.alloc (.cells #[.bool r.neg,.slice a1 r.num.length c1,.slice a2 r.den.length c2] 29)).alloc (.cells #[.bool s.neg,.slice a3 s.num.length c3,.slice a4 s.den.length c4] 29)).alloc (.cells #[.bool false,.slice none 0 0,.slice none 0 0] 29):=⟨_,rfl⟩;have HM:=af (bC w (.cells #[.bool r.neg,.slice a1 r.num.length c1,.slice a2 r.den.length c2] 29) (.cells #[.bool s.neg,.slice a3 s.num.length c3,.slice a4 s.den.length c4] 29));rw [<-hw2] at HM;have hb2:=aj.made (w.alloc (.cells #[.bool r.neg,.slice a1 r.num.length c1,.slice a2 r.den.length c2] 29)) #[.bool s.neg,.slice a3 s.num.length c3,.slice a4 s.den.length c4] 29;simp only [World.size_alloc] at hb2;have HB2:Hid (aj w2 (w.heap.size+1) 29 [.bool s.neg,.slice a3 s.num.length c3,.slice a4 s.den.length c4]):=af (by rw [hw2];exact hb2.kept ((ag.refl _).alloc _));have HW2:=af hw2;generalize nw d=DE at *;generalize (ah r).1=s1 at *;generalize (ah s).1=s2 at *;generalize (ah r).2.1=N at *;generalize (ah r).2.2=D at *;generalize (ah s).2.1=M at *;generalize (ah s).2.2=E at *;generalize r.num.length=n1 at *;generalize r.den.length=n2 at *;generalize s.num.length=n3 at *;generalize s.den.length=n4 at *
 generalize r.neg=neg1 at *;generalize s.neg=neg2 at *;clear hok1 hok2 hsh1 hsh2 hR h1 h2 h3 h4 hr hs hw2 hb2 hp hq hd hlp hlq hld hd0;have hb:(s1 == s2)=false:=by simpa using hss
 clear hss hcm hle;go_enter Tryz.func113,Tryz.ntmps113;go_wp2_with fail;rw [<-HW2.out];refine (HP1.out _ HM.out.2.2).mono ?_;rintro e w3 ⟨⟨u3,u4,rfl,hu3,hu4⟩,hk3⟩;have HN:=af hu3;have HD:=af hu4;have HR3:=af (HM.out.1.kept hk3);have HF3:=af (HM.out.2.1.kept hk3);have hb3:=HB2.out.kept hk3;have g0:=hb3.cell (i:=0) (by simp);have g1:=hb3.cell (i:=1) (by simp);have g2:=hb3.cell (i:=2) (by simp);simp only [List.getElem_cons_succ,List.getElem_cons_zero] at g0 g1 g2;have HK3:=af (HM.out.2.2.trans hk3);clear hu3 hu4 hk3 hb3;go_wp2_with fail;refine (HP2.out _ HK3.out).mono ?_;rintro e w4 ⟨⟨u5,u6,rfl,hu5,hu6⟩,hk4⟩;have HN':=af (HN.out.kept hk4);have HD':=af (HD.out.kept hk4);have HMM:=af hu5;have HEE:=af hu6;have HR4:=af (HR3.out.kept hk4);have HF4:=af (HF3.out.kept hk4);have HK4:=af (HK3.out.trans hk4);clear hu5 hu6 hk4 g0 g1 g2;go_wp2_with fail;refine (HM1.out _ _ _ HN'.out HEE.out).mono ?_;rintro e w5 ⟨⟨v5,rfl,hv5⟩,hk5⟩;have HV5:=af hv5;have HR5:=af (HR4.out.kept hk5);have HF5:=af (HF4.out.kept hk5);have HD5:=af (HD'.out.kept hk5);have HE5:=af (HEE.out.kept hk5);have HM5:=af (HMM.out.kept hk5);have HK5:=af (HK4.out.trans hk5);clear hv5 hk5;go_wp2_with fail;refine (HM2.out _ _ _ HM5.out HD5.out).mono ?_;rintro e w6 ⟨⟨v6,rfl,hv6⟩,hk6⟩;have HV6:=af hv6;have HV5':=af (HV5.out.kept hk6)
 have HR6:=af (HR5.out.kept hk6);have HF6:=af (HF5.out.kept hk6);have HD6:=af (HD5.out.kept hk6);have HE6:=af (HE5.out.kept hk6);have HK6:=af (HK5.out.trans hk6);clear hv6 hk6;go_wp2_with fail;refine (HM3.out _ _ _ HD6.out HE6.out).mono ?_;rintro e w7 ⟨⟨v7,rfl,hv7⟩,hk7⟩;have HVD:=af hv7;have HVP:=af (HV5'.out.kept hk7);have HVQ:=af (HV6.out.kept hk7);have HR7:=af (HR6.out.kept hk7);have HF7:=af (HF6.out.kept hk7);have HK7:=af (HK6.out.trans hk7);clear hv7 hk7;go_wp2_with fail;refine (HCM.out _ _ _ HVP.out HVQ.out).mono ?_;rintro e w8 ⟨rfl,hk8⟩;have HVD8:=af (HVD.out.kept hk8);have HVP8:=af (HVP.out.kept hk8);have HVQ8:=af (HVQ.out.kept hk8);have HR8:=af (HR7.out.kept hk8);have HF8:=af (HF7.out.kept hk8);have HK8:=af (HK7.out.trans hk8);clear hk8;go_wp2_with fail;refine (HSU.out _ _ _ HVP8.out HVQ8.out).mono ?_;rintro e w9 ⟨⟨v9,rfl,hv9⟩,hk9⟩;have HV9:=af hv9;have HVD9:=af (HVD8.out.kept hk9);have HR9:=af (HR8.out.kept hk9);have HF9:=af (HF8.out.kept hk9);have HK9:=af (HK8.out.trans hk9);clear hv9 hk9;go_wp2_with fail;refine (HFO.out _ _ _ HV9.out HVD9.out).mono ?_;rintro e w10 ⟨⟨v10,rfl,hv10⟩,hk10⟩;have hr10:=HR9.out.kept hk10;have HF10:=af (HF9.out.kept hk10);have HK10:=af (HK9.out.trans hk10);obtain ⟨u7,u8,rfl,k7,k8⟩:=hv10;obtain ⟨a7,c7,rfl⟩:=k7.shape
 obtain ⟨a8,c8,rfl⟩:=k8.shape;obtain ⟨y0,y1,y2,hra⟩:=dw (.cells #[.bool R.neg,.slice a7 R.num.length c7,.slice a8 R.den.length c8] 29) hr10 HF10.out k7 k8;have hlt:=hr10.lt;have g0:=hr10.cell (i:=0) (by simp);have g1:=hr10.cell (i:=1) (by simp);have g2:=hr10.cell (i:=2) (by simp);have f0:=hr10.free 0;have f1:=hr10.free 1;have f2:=hr10.free 2;have HRA:=af hra;have Y0:=af y0;have Y1:=af y1;have Y2:=af y2;clear hra y0 y1 y2 k7 k8 hr10 hk10;generalize R.num.length=n7 at *;generalize R.den.length=n8 at *;go_wp2;refine bodyPost_ret (v:=.agg #[.bool R.neg,.slice a7 n7 c7,.slice a8 n8 c8]) ?_ rfl ⟨⟨_,rfl,HRA.out⟩,?_⟩
 ·simp [results,Tryz.results113,go_sem,Y0.out,Y1.out,Y2.out]
 ·exact (((HK10.out.store (by omega) _ _).store (by omega) _ _).store (by omega) _ _).alloc _
theorem tj (va vb:Value) (r s:Rw) (w:World) (ha:RatAt w va r) (hb:RatAt w vb s) (hr:r.Short 34359738368) (hs:s.Short 34359738368) (hss:(ah r).1≠(ah s).1) (hle:nv (ah r).2.1*nv (ah s).2.2<nv (ah s).2.1*nv (ah r).2.2):Calls Tryz.prog 113 #[va,vb] w fun e w'=>(∃ v',e=.returned v'/\RatAt w' v' (ai (al r+al s)))/\ag w w':=by
 have HP1:=af (fun W (hk:ag w W)=>bv va r W (ha.kept hk) ⟨Nat.le_trans hr.1 (by omega),Nat.le_trans hr.2 (by omega)⟩);have HP2:=af (fun W (hk:ag w W)=>bv vb s W (hb.kept hk) ⟨Nat.le_trans hs.1 (by omega),Nat.le_trans hs.2 (by omega)⟩);have hok1:=az ha.ok;have hok2:=az hb.ok;have hsh1:=aB hr (by omega);have hsh2:=aB hs (by omega);obtain ⟨R,hR⟩:∃ R,R=ai (al r+al s):=⟨_,rfl⟩;obtain ⟨p,hp⟩:∃ p,p=nv (ah r).2.1*nv (ah s).2.2:=⟨_,rfl⟩;obtain ⟨q,hq⟩:∃ q,q=nv (ah s).2.1*nv (ah r).2.2:=⟨_,rfl⟩;obtain ⟨d,hd⟩:∃ d,d=nv (ah r).2.2*nv (ah s).2.2:=⟨_,rfl⟩;have hlp:(nw p).length<=68719476736:=by rw [hp];exact Nat.le_trans (aD hok1.1 hok2.2.1) (by omega)
 have hlq:(nw q).length<=68719476736:=by rw [hq];exact Nat.le_trans (aD hok2.1 hok1.2.1) (by omega)
 have hld:(nw d).length<=68719476736:=by rw [hd];exact Nat.le_trans (aD hok1.2.1 hok2.2.1) (by omega)
 have hd0:d≠0:=by rw [hd];exact Nat.mul_ne_zero hok1.2.2.1 hok2.2.2.1
 rw [<-hp,<-hq] at hle
 have HCM:Hid (∀ W u1 u2,WdsAt W u1 (nw p)->WdsAt W u2 (nw q)->Calls Tryz.prog 175 #[u1,u2] W fun e w'=>e=.returned (.int .i64 (cN p q))/\ag W w'):=af fun W u1 u2 k1 k2=>by
  have h:=fg u1 u2 _ _ W k1 k2;rw [aq,aq] at h;exact h.mono fun _ _ ⟨h1,h2⟩=>⟨h1,by rw [h2];exact ag.refl _⟩
 have HSU:Hid (∀ W u1 u2,WdsAt W u1 (nw q)->WdsAt W u2 (nw p)->Calls Tryz.prog 176 #[u1,u2] W fun e w'=>(∃ v',e=.returned (.tuple #[v',.int .i64 0])/\WdsAt w' v' (nw (q - p)))/\ag W w'):=af fun W u1 u2 k1 k2=>by
  have h:=kQ u1 u2 _ _ W k1 k2 (by rw [aq,aq];exact Nat.le_of_lt hle);rw [aq,aq] at h;exact h
 obtain ⟨cm,hcm⟩:∃ cm,cm=cN p q:=⟨_,rfl⟩;rw [<-hcm] at HCM
 have hcm0:cm<0:=by
  rw [hcm];rw [fu hle];omega
 have HFO:Hid (∀ W u1 u2,WdsAt W u1 (nw (q - p))->WdsAt W u2 (nw d)->Calls Tryz.prog 163 #[.bool (ah s).1,u1,u2] W fun e w'=>(∃ v,e=.returned (.tuple #[v,.int .i64 0])/\RatAt w' v R)/\ag W w'):=af fun W u1 u2 k1 k2=>by
  have h:=dx (ah s).1 u1 u2 _ _ W k1 k2 (Nat.le_trans (bA (Nat.sub_le q p)) (by omega)) (Nat.le_trans hld (by omega)) (by rw [aq];exact hd0);rw [aq,aq,bJ _ _ _ hd0,hp,hq,hd,kO ha.ok hb.ok hss (by rw [hp,hq] at hle;exact Nat.le_of_lt hle),<-hR] at h;exact h
 have HM1:Hid (∀ W u1 u2,WdsAt W u1 (ah r).2.1->WdsAt W u2 (ah s).2.2->Calls Tryz.prog 164 #[u1,u2] W fun e w'=>(∃ v',e=.returned v'/\WdsAt w' v' (nw p))/\ag W w'):=af fun W u1 u2 k1 k2=>by rw [hp];exact bF u1 u2 _ _ W k1 k2 (by omega) (by omega)
 have HM2:Hid (∀ W u1 u2,WdsAt W u1 (ah s).2.1->WdsAt W u2 (ah r).2.2->Calls Tryz.prog 164 #[u1,u2] W fun e w'=>(∃ v',e=.returned v'/\WdsAt w' v' (nw q))/\ag W w'):=af fun W u1 u2 k1 k2=>by rw [hq];exact bF u1 u2 _ _ W k1 k2 (by omega) (by omega)
 have HM3:Hid (∀ W u1 u2,WdsAt W u1 (ah r).2.2->WdsAt W u2 (ah s).2.2->Calls Tryz.prog 164 #[u1,u2] W fun e w'=>(∃ v',e=.returned v'/\WdsAt w' v' (nw d))/\ag W w'):=af fun W u1 u2 k1 k2=>by rw [hd];exact bF u1 u2 _ _ W k1 k2 (by omega) (by omega)
 rw [<-hR];obtain ⟨u1,u2,rfl,h1,h2⟩:=ha;obtain ⟨u3,u4,rfl,h3,h4⟩:=hb;obtain ⟨a1,c1,rfl⟩:=h1.shape;obtain ⟨a2,c2,rfl⟩:=h2.shape;obtain ⟨a3,c3,rfl⟩:=h3.shape;obtain ⟨a4,c4,rfl⟩:=h4.shape;obtain ⟨w2,hw2⟩:∃ w2,w2=((w.alloc (.cells #[.bool r.neg,.slice a1 r.num.length c1,.slice a2 r.den.length c2] 29)).alloc (.cells #[.bool s.neg,.slice a3 s.num.length c3,.slice a4 s.den.length c4] 29)).alloc (.cells #[.bool false,.slice none 0 0,.slice none 0 0] 29):=⟨_,rfl⟩;have HM:=af (bC w (.cells #[.bool r.neg,.slice a1 r.num.length c1,.slice a2 r.den.length c2] 29) (.cells #[.bool s.neg,.slice a3 s.num.length c3,.slice a4 s.den.length c4] 29));rw [<-hw2] at HM;have hb2:=aj.made (w.alloc (.cells #[.bool r.neg,.slice a1 r.num.length c1,.slice a2 r.den.length c2] 29)) #[.bool s.neg,.slice a3 s.num.length c3,.slice a4 s.den.length c4] 29;simp only [World.size_alloc] at hb2;have HB2:Hid (aj w2 (w.heap.size+1) 29 [.bool s.neg,.slice a3 s.num.length c3,.slice a4 s.den.length c4]):=af (by rw [hw2];exact hb2.kept ((ag.refl _).alloc _));have HW2:=af hw2;generalize nw d=DE at *;generalize (ah r).1=s1 at *;generalize (ah s).1=s2 at *;generalize (ah r).2.1=N at *;generalize (ah r).2.2=D at *;generalize (ah s).2.1=M at *;generalize (ah s).2.2=E at *;generalize r.num.length=n1 at *;generalize r.den.length=n2 at *;generalize s.num.length=n3 at *;generalize s.den.length=n4 at *
 generalize r.neg=neg1 at *;generalize s.neg=neg2 at *;clear hok1 hok2 hsh1 hsh2 hR h1 h2 h3 h4 hr hs hw2 hb2 hp hq hd hlp hlq hld hd0;have hb:(s1 == s2)=false:=by simpa using hss
 clear hss hcm hle;go_enter Tryz.func113,Tryz.ntmps113;go_wp2_with fail;rw [<-HW2.out];refine (HP1.out _ HM.out.2.2).mono ?_;rintro e w3 ⟨⟨u3,u4,rfl,hu3,hu4⟩,hk3⟩;have HN:=af hu3;have HD:=af hu4;have HR3:=af (HM.out.1.kept hk3);have HF3:=af (HM.out.2.1.kept hk3);have hb3:=HB2.out.kept hk3;have g0:=hb3.cell (i:=0) (by simp);have g1:=hb3.cell (i:=1) (by simp);have g2:=hb3.cell (i:=2) (by simp);simp only [List.getElem_cons_succ,List.getElem_cons_zero] at g0 g1 g2;have HK3:=af (HM.out.2.2.trans hk3);clear hu3 hu4 hk3 hb3;go_wp2_with fail;refine (HP2.out _ HK3.out).mono ?_;rintro e w4 ⟨⟨u5,u6,rfl,hu5,hu6⟩,hk4⟩;have HN':=af (HN.out.kept hk4);have HD':=af (HD.out.kept hk4);have HMM:=af hu5;have HEE:=af hu6;have HR4:=af (HR3.out.kept hk4);have HF4:=af (HF3.out.kept hk4);have HK4:=af (HK3.out.trans hk4);clear hu5 hu6 hk4 g0 g1 g2;go_wp2_with fail;refine (HM1.out _ _ _ HN'.out HEE.out).mono ?_;rintro e w5 ⟨⟨v5,rfl,hv5⟩,hk5⟩;have HV5:=af hv5;have HR5:=af (HR4.out.kept hk5);have HF5:=af (HF4.out.kept hk5);have HD5:=af (HD'.out.kept hk5);have HE5:=af (HEE.out.kept hk5);have HM5:=af (HMM.out.kept hk5);have HK5:=af (HK4.out.trans hk5);clear hv5 hk5;go_wp2_with fail;refine (HM2.out _ _ _ HM5.out HD5.out).mono ?_;rintro e w6 ⟨⟨v6,rfl,hv6⟩,hk6⟩;have HV6:=af hv6;have HV5':=af (HV5.out.kept hk6)
 have HR6:=af (HR5.out.kept hk6);have HF6:=af (HF5.out.kept hk6);have HD6:=af (HD5.out.kept hk6);have HE6:=af (HE5.out.kept hk6);have HK6:=af (HK5.out.trans hk6);clear hv6 hk6;go_wp2_with fail;refine (HM3.out _ _ _ HD6.out HE6.out).mono ?_;rintro e w7 ⟨⟨v7,rfl,hv7⟩,hk7⟩;have HVD:=af hv7;have HVP:=af (HV5'.out.kept hk7);have HVQ:=af (HV6.out.kept hk7);have HR7:=af (HR6.out.kept hk7);have HF7:=af (HF6.out.kept hk7);have HK7:=af (HK6.out.trans hk7);clear hv7 hk7;go_wp2_with fail;refine (HCM.out _ _ _ HVP.out HVQ.out).mono ?_;rintro e w8 ⟨rfl,hk8⟩;have HVD8:=af (HVD.out.kept hk8);have HVP8:=af (HVP.out.kept hk8);have HVQ8:=af (HVQ.out.kept hk8);have HR8:=af (HR7.out.kept hk8);have HF8:=af (HF7.out.kept hk8);have HK8:=af (HK7.out.trans hk8);clear hk8;go_wp2_with fail;refine (HSU.out _ _ _ HVQ8.out HVP8.out).mono ?_;rintro e w9 ⟨⟨v9,rfl,hv9⟩,hk9⟩;have HV9:=af hv9;have HVD9:=af (HVD8.out.kept hk9);have HR9:=af (HR8.out.kept hk9);have HF9:=af (HF8.out.kept hk9);have HK9:=af (HK8.out.trans hk9);clear hv9 hk9;go_wp2_with fail;refine (HFO.out _ _ _ HV9.out HVD9.out).mono ?_;rintro e w10 ⟨⟨v10,rfl,hv10⟩,hk10⟩;have hr10:=HR9.out.kept hk10;have HF10:=af (HF9.out.kept hk10);have HK10:=af (HK9.out.trans hk10);obtain ⟨u7,u8,rfl,k7,k8⟩:=hv10;obtain ⟨a7,c7,rfl⟩:=k7.shape
 obtain ⟨a8,c8,rfl⟩:=k8.shape;obtain ⟨y0,y1,y2,hra⟩:=dw (.cells #[.bool R.neg,.slice a7 R.num.length c7,.slice a8 R.den.length c8] 29) hr10 HF10.out k7 k8;have hlt:=hr10.lt;have g0:=hr10.cell (i:=0) (by simp);have g1:=hr10.cell (i:=1) (by simp);have g2:=hr10.cell (i:=2) (by simp);have f0:=hr10.free 0;have f1:=hr10.free 1;have f2:=hr10.free 2;have HRA:=af hra;have Y0:=af y0;have Y1:=af y1;have Y2:=af y2;clear hra y0 y1 y2 k7 k8 hr10 hk10;generalize R.num.length=n7 at *;generalize R.den.length=n8 at *;go_wp2;refine bodyPost_ret (v:=.agg #[.bool R.neg,.slice a7 n7 c7,.slice a8 n8 c8]) ?_ rfl ⟨⟨_,rfl,HRA.out⟩,?_⟩
 ·simp [results,Tryz.results113,go_sem,Y0.out,Y1.out,Y2.out]
 ·exact (((HK10.out.store (by omega) _ _).store (by omega) _ _).store (by omega) _ _).alloc _
theorem gR (va vb:Value) (r s:Rw) (w:World) (ha:RatAt w va r) (hb:RatAt w vb s) (hr:r.Short 34359738368) (hs:s.Short 34359738368):Calls Tryz.prog 113 #[va,vb] w fun e w'=>(∃ v',e=.returned v'/\RatAt w' v' (ai (al r+al s)))/\ag w w':=by
 by_cases h:(ah r).1=(ah s).1
 ·exact pZ va vb r s w ha hb hr hs h
 ·rcases Nat.lt_or_ge (nv (ah r).2.1*nv (ah s).2.2) (nv (ah s).2.1*nv (ah r).2.2) with h2 | h2
  ·exact tj va vb r s w ha hb hr hs h h2
  ·exact ti va vb r s w ha hb hr hs h h2
theorem lR (va vb:Value) (r s:Rw) (w:World) (ha:RatAt w va r) (hb:RatAt w vb s) (hr:r.Short 34359738368) (hs:s.Short 34359738368):Calls Tryz.prog 101 #[va,vb] w fun e w'=>(∃ v',e=.returned v'/\RatAt w' v' (ai (al r - al s)))/\ag w w':=by
 have HNE:=af (fun W (hk:ag w W)=>gS vb s W (hb.kept hk) ⟨Nat.le_trans hs.1 (by omega),Nat.le_trans hs.2 (by omega)⟩);obtain ⟨R,hR⟩:∃ R,R=ai (al r - al s):=⟨_,rfl⟩
 have HAD:Hid (∀ W v,ag w W->RatAt W v (ai (- al s))->Calls Tryz.prog 113 #[va,v] W fun e w'=>(∃ v',e=.returned v'/\RatAt w' v' R)/\ag W w'):=af fun W v hk hv=>by
  have h:=gR va v r _ W (ha.kept hk) hv hr (dT hb.ok hs (by omega));rw [ap,<-Rat.sub_eq_add_neg,<-hR] at h;exact h
 rw [<-hR];obtain ⟨u1,u2,rfl,h1,h2⟩:=ha;obtain ⟨u3,u4,rfl,h3,h4⟩:=hb;obtain ⟨a1,c1,rfl⟩:=h1.shape;obtain ⟨a2,c2,rfl⟩:=h2.shape;obtain ⟨a3,c3,rfl⟩:=h3.shape;obtain ⟨a4,c4,rfl⟩:=h4.shape;generalize r.num.length=n1 at *;generalize r.den.length=n2 at *;generalize s.num.length=n3 at *;generalize s.den.length=n4 at *;generalize r.neg=neg1 at *;generalize s.neg=neg2 at *;obtain ⟨w2,hw2⟩:∃ w2,w2=((w.alloc (.cells #[.bool neg1,.slice a1 n1 c1,.slice a2 n2 c2] 29)).alloc (.cells #[.bool neg2,.slice a3 n3 c3,.slice a4 n4 c4] 29)).alloc (.cells #[.bool false,.slice none 0 0,.slice none 0 0] 29):=⟨_,rfl⟩;have HM:=af (bC w (.cells #[.bool neg1,.slice a1 n1 c1,.slice a2 n2 c2] 29) (.cells #[.bool neg2,.slice a3 n3 c3,.slice a4 n4 c4] 29));rw [<-hw2] at HM;have ha2:=aj.made w #[.bool neg1,.slice a1 n1 c1,.slice a2 n2 c2] 29;have HA2:Hid (aj w2 w.heap.size 29 [.bool neg1,.slice a1 n1 c1,.slice a2 n2 c2]):=af (by rw [hw2];exact ha2.kept (((ag.refl _).alloc _).alloc _));have hb2:=aj.made (w.alloc (.cells #[.bool neg1,.slice a1 n1 c1,.slice a2 n2 c2] 29)) #[.bool neg2,.slice a3 n3 c3,.slice a4 n4 c4] 29;simp only [World.size_alloc] at hb2;have HB2:Hid (aj w2 (w.heap.size+1) 29 [.bool neg2,.slice a3 n3 c3,.slice a4 n4 c4]):=af (by rw [hw2];exact hb2.kept ((ag.refl _).alloc _));have HW2:=af hw2;clear hR h1 h2 h3 h4 hr hs hw2 ha2 hb2;have p0:=HA2.out.cell (i:=0) (by simp)
 have p1:=HA2.out.cell (i:=1) (by simp);have p2:=HA2.out.cell (i:=2) (by simp);have g0:=HB2.out.cell (i:=0) (by simp);have g1:=HB2.out.cell (i:=1) (by simp);have g2:=HB2.out.cell (i:=2) (by simp);simp only [List.getElem_cons_succ,List.getElem_cons_zero] at p0 p1 p2 g0 g1 g2;go_enter Tryz.func101,Tryz.ntmps101;go_wp2_with fail;rw [<-HW2.out]
 go_region_with (first
  | (go_at_call 111;(with_reducible refine (HNE.out _ HM.out.2.2.drew).mono ?_);rintro e w3 ⟨⟨v3,rfl,hv3⟩,hk3⟩;have hkd:=(ag.refl w2).drew.trans hk3;have x0:=hkd.cell p0;have x1:=hkd.cell p1;have x2:=hkd.cell p2;have HV3:=af hv3;have HKD:=af hkd;have HR3:=af (HM.out.1.kept hkd);have HF3:=af (HM.out.2.1.kept hkd);clear hv3 hk3 hkd)
  | (go_at_call 113;(with_reducible refine (HAD.out _ _ (HM.out.2.2.trans HKD.out) HV3.out).mono ?_);rintro e w4 ⟨⟨v4,rfl,hv4⟩,hk4⟩;have hr4:=HR3.out.kept hk4;have HR4:=af hr4;have HF4:=af (HF3.out.kept hk4);have HK4:=af ((HM.out.2.2.trans HKD.out).trans hk4);obtain ⟨u5,u6,rfl,k5,k6⟩:=hv4;obtain ⟨a5,c5,rfl⟩:=k5.shape;obtain ⟨a6,c6,rfl⟩:=k6.shape;have K5:=af k5;have K6:=af k6;have z0:=hr4.cell (i:=0) (by simp);have z1:=hr4.cell (i:=1) (by simp);have z2:=hr4.cell (i:=2) (by simp);have f0:=hr4.free 0;have f1:=hr4.free 1;have f2:=hr4.free 2;clear k5 k6 hr4 hk4))
 all_goals
  obtain ⟨y0,y1,y2,hra⟩:=aS HR4.out HF4.out K5.out K6.out;generalize R.num.length=n7 at *;generalize R.den.length=n8 at *;go_wp2;refine bodyPost_ret (v:=.agg #[.bool R.neg,.slice a5 n7 c5,.slice a6 n8 c6]) ?_ rfl ⟨⟨_,rfl,hra⟩,?_⟩
  ·simp [results,Tryz.results101,go_sem,y0,y1,y2]
  ·exact ((HK4.out.store (by omega) _ _).store (by omega) _ _).store (by omega) _ _
theorem lN (va vb:Value) (r s:Rw) (w:World) (ha:RatAt w va r) (hb:RatAt w vb s) (hr:r.Short 34359738368) (hs:s.Short 34359738368):Calls Tryz.prog 112 #[va,vb] w fun e w'=>e=.returned (.int .i64 (bT (al r - al s)))/\ag w w':=by
 have HSU:=af (fun W (hk:ag w W)=>lR va vb r s W (ha.kept hk) (hb.kept hk) hr hs)
 have hsh:(ai (al r - al s)).Short 137438953472:=by
  have h:=mO ha.ok (dF _) hr (dT hb.ok hs (by omega)) (by omega) (by omega);rw [ap,<-Rat.sub_eq_add_neg] at h;exact ⟨Nat.le_trans h.1 (by omega),Nat.le_trans h.2 (by omega)⟩
 have HSG:Hid (∀ W v,RatAt W v (ai (al r - al s))->Calls Tryz.prog 121 #[v] W fun e w'=>e=.returned (.int .i64 (bT (al r - al s)))/\ag W w'):=af fun W v hv=>by
  have h:=nB v _ W hv hsh;rw [ap] at h;exact h
 obtain ⟨u1,u2,rfl,h1,h2⟩:=ha;obtain ⟨u3,u4,rfl,h3,h4⟩:=hb;obtain ⟨a1,c1,rfl⟩:=h1.shape;obtain ⟨a2,c2,rfl⟩:=h2.shape;obtain ⟨a3,c3,rfl⟩:=h3.shape;obtain ⟨a4,c4,rfl⟩:=h4.shape;generalize ai (al r - al s)=R at *;generalize bT (al r - al s)=S at *;generalize r.num.length=n1 at *;generalize r.den.length=n2 at *;generalize s.num.length=n3 at *;generalize s.den.length=n4 at *;generalize r.neg=neg1 at *;generalize s.neg=neg2 at *;have HK0:Hid (ag w ((w.alloc (.cells #[.bool neg1,.slice a1 n1 c1,.slice a2 n2 c2] 29)).alloc (.cells #[.bool neg2,.slice a3 n3 c3,.slice a4 n4 c4] 29))):=af (((ag.refl w).alloc _).alloc _);clear h1 h2 h3 h4 hr hs hsh;go_enter Tryz.func112,Tryz.ntmps112;go_wp2_with fail;refine (HSU.out _ HK0.out).mono ?_;rintro e w3 ⟨⟨v3,rfl,hv3⟩,hk3⟩;have HV3:=af hv3;have HK3:=af (HK0.out.trans hk3);clear hv3 hk3;go_wp2_with fail;refine (HSG.out _ _ HV3.out).mono ?_;rintro e w4 ⟨rfl,hk4⟩;have HK4:=af (HK3.out.trans hk4);clear hk4;go_wp2;go_ret;exact ⟨rfl,HK4.out⟩
theorem jJ:(ai ((1:Int):Rat)).Short 1:=by
 have h1:(nw 1).length<=1:=aJ.2 (by omega);have h:=dl false (n:=1) (d:=1) (k:=1) (l:=1) (by omega) h1 h1;rw [show sg false 1=(1:Int) from rfl,Rat.mkRat_one] at h;exact h
theorem tn (v:Value) (r:Rw) (w:World) (hv:RatAt w v r) (hs:r.Short 34359738368):Calls Tryz.prog 73 #[v] w fun e w'=>e=.returned (.bool (bB r))/\ag w w':=by
 have HVA:=af (fun W (hk:ag w W)=>lS v r W (hv.kept hk) ⟨Nat.le_trans hs.1 (by omega),Nat.le_trans hs.2 (by omega)⟩);have HSG:=af (fun W (hk:ag w W)=>nB v r W (hv.kept hk) ⟨Nat.le_trans hs.1 (by omega),Nat.le_trans hs.2 (by omega)⟩);have HOF:Hid (∀ W,Calls Tryz.prog 102 #[.int .i64 1] W fun e w'=>(∃ v',e=.returned v'/\RatAt w' v' (ai ((1:Int):Rat)))/\ag W w'):=af fun W=>jM 1 W (by omega)
 have HCM:Hid (∀ W u,ag w W->RatAt W u (ai ((1:Int):Rat))->Calls Tryz.prog 112 #[v,u] W fun e w'=>e=.returned (.int .i64 (bT (al r - ((1:Int):Rat))))/\ag W w'):=af fun W u hk hu=>by
  have h:=lN v u r _ W (hv.kept hk) hu hs ⟨Nat.le_trans jJ.1 (by omega),Nat.le_trans jJ.2 (by omega)⟩;rw [ap] at h;exact h
 rw [pg hv.ok];obtain ⟨neg,num,den⟩:=r;obtain ⟨u1,u2,rfl,h1,h2⟩:=hv;simp only at h1 h2;obtain ⟨a1,c1,rfl⟩:=h1.shape;obtain ⟨a2,c2,rfl⟩:=h2.shape;generalize bT (al ⟨neg,num,den⟩ - ((1:Int):Rat))=T at *;generalize bT (al ⟨neg,num,den⟩)=S at *;generalize ai ((1:Int):Rat)=ONE at *;generalize bl ⟨neg,num,den⟩=vb at *;simp only at HVA HSG HCM⊢;generalize num.length=n1 at *;generalize den.length=n2 at *;obtain ⟨w1,hw1⟩:∃ w1,w1=w.alloc (.cells #[.bool neg,.slice a1 n1 c1,.slice a2 n2 c2] 29):=⟨_,rfl⟩;have HR:Hid (aj w1 w.heap.size 29 [.bool neg,.slice a1 n1 c1,.slice a2 n2 c2]):=af (by rw [hw1];exact aj.made w #[.bool neg,.slice a1 n1 c1,.slice a2 n2 c2] 29);have HK0:Hid (ag w w1):=af (by rw [hw1];exact (ag.refl w).alloc _);have HW1:=af hw1;have q0:=HR.out.cell (i:=0) (by simp);have q1:=HR.out.cell (i:=1) (by simp);have q2:=HR.out.cell (i:=2) (by simp);simp only [List.getElem_cons_succ,List.getElem_cons_zero] at q0 q1 q2;clear h1 h2 hs hw1;cases vb with
 | false =>
  go_enter Tryz.func73,Tryz.ntmps73;go_wp2_with fail;rw [<-HW1.out];go_region_with (go_at_call 120;(with_reducible refine (HVA.out _ HK0.out.drew).mono ?_);rintro e w3 ⟨rfl,hk3⟩;have HKD:=af (HK0.out.drew.trans hk3);clear hk3)
  all_goals
   go_wp2;go_ret;exact ⟨by first | rfl | (simp [Act.put];done) | (simp [go_sem];done),HKD.out⟩
 | true =>
  by_cases hS:0<=S
  ·have dS:decide (0<=S)=true:=by simp;exact hS
   have dS':decide (S ≥ 0)=true:=by simp;exact hS
   go_enter Tryz.func73,Tryz.ntmps73;go_wp2_with fail;rw [<-HW1.out]
   go_region_with (first
    | (go_at_call 120;(with_reducible refine (HVA.out _ HK0.out.drew).mono ?_);rintro e w3 ⟨rfl,hk3⟩;have hkd:=(ag.refl w1).drew.trans hk3;have x0:=hkd.cell q0;have x1:=hkd.cell q1;have x2:=hkd.cell q2;have HKD:=af (HK0.out.trans hkd);clear hk3 hkd)
    | (go_at_call 121;(with_reducible refine (HSG.out _ HKD.out).mono ?_);rintro e w4 ⟨rfl,hk4⟩;have y0:=hk4.cell x0;have y1:=hk4.cell x1;have y2:=hk4.cell x2;have HK4:=af (HKD.out.trans hk4);clear hk4)
    | (go_at_call 102;(with_reducible refine (HOF.out _).mono ?_);rintro e w5 ⟨⟨v5,rfl,hv5⟩,hk5⟩;have z0:=hk5.cell y0;have z1:=hk5.cell y1;have z2:=hk5.cell y2;have HK5:=af (HK4.out.trans hk5);have HV5:=af hv5;clear hk5 hv5)
    | (go_at_call 112;(with_reducible refine (HCM.out _ _ HK5.out HV5.out).mono ?_);rintro e w6 ⟨rfl,hk6⟩;have HK6:=af (HK5.out.trans hk6);clear hk6))
   all_goals
    go_wp2;go_ret;exact ⟨by first | (simp [hS,Act.put];done) | (simp [hS,go_sem];done),HK6.out⟩
  ·have dS:decide (0<=S)=false:=by simp;omega
   have dS':decide (S ≥ 0)=false:=by simp;omega
   go_enter Tryz.func73,Tryz.ntmps73;go_wp2_with fail;rw [<-HW1.out]
   go_region_with (first
    | (go_at_call 120;(with_reducible refine (HVA.out _ HK0.out.drew).mono ?_);rintro e w3 ⟨rfl,hk3⟩;have hkd:=(ag.refl w1).drew.trans hk3;have x0:=hkd.cell q0;have x1:=hkd.cell q1;have x2:=hkd.cell q2;have HKD:=af (HK0.out.trans hkd);clear hk3 hkd)
    | (go_at_call 121;(with_reducible refine (HSG.out _ HKD.out).mono ?_);rintro e w4 ⟨rfl,hk4⟩;have HK4:=af (HKD.out.trans hk4);clear hk4))
   all_goals
    go_wp2;go_ret;exact ⟨by simp [Act.put];omega,HK4.out⟩
section
open Go.RowKit Go.ChangeShapes Go.WideShapes Go.ChangeAt Go.Joins Go.Deep
def cL (w:World) (v:Value) (xs:List Nat):Prop :=
 ∃ (a:Option Addr) (c:Nat),v=.slice a xs.length c/\(xs.length<=c/\(a=none->c=0))/\xs.length<=140737488355328/\Wd xs /\
  ∀ i (_:i<xs.length),∃ b o,a=some ⟨b,o,none⟩/\w.cell? ⟨b,o+i,none⟩=some (.int .u32 ((xs.getD i 0:Nat):Int))
theorem cL.kept {w w':World} {v:Value} {xs:List Nat} (h:cL w v xs) (hk:ag w w'):cL w' v xs:=by
 obtain ⟨a,c,h1,h2,h3,h4,h5⟩:=h;exact ⟨a,c,h1,h2,h3,h4,fun i hi=>let ⟨b,o,h6,h7⟩:=h5 i hi;⟨b,o,h6,hk.cell h7⟩⟩
theorem cL.small {w:World} {v:Value} {xs:List Nat} (h:cL w v xs) (hl:xs.length<=1099511627776):WdsAt w v xs:=by
 obtain ⟨a,c,h1,h2,_,h4,h5⟩:=h;exact ⟨a,c,h1,h2,hl,h4,h5⟩
theorem cL.shape {w:World} {v:Value} {xs:List Nat} (h:cL w v xs):∃ a c,v=.slice a xs.length c/\xs.length<=140737488355328:=by
 obtain ⟨a,c,h1,_,h3,_⟩:=h;exact ⟨a,c,h1,h3⟩
theorem cL.nil (w:World):cL w (.slice none 0 0) []:=⟨none,0,rfl,⟨by simp,fun _=>rfl⟩,by simp,Wd.nil,fun i h=>by simp at h⟩
def cI (w:World) (v:Value) (ps:List Rw):Prop :=
 ∃ (a:Option Addr) (c:Nat),v=.slice a ps.length c/\(ps.length<=c/\(a=none->c=0))/\ps.length<=140737488355328 /\
  ∀ i (h:i<ps.length),∃ b o u1 u2,a=some ⟨b,o,none⟩/\w.rangeAt b (o+i*3) [.bool ps[i].neg,u1,u2]/\cL w u1 ps[i].num/\cL w u2 ps[i].den
def RatsAt (w:World) (v:Value) (ps:List Rw):Prop :=
 ∃ (a:Option Addr) (c:Nat),v=.slice a ps.length c/\(ps.length<=c/\(a=none->c=0))/\ps.length<=140737488355328 /\
  ∀ i (h:i<ps.length),∃ b o u1 u2,a=some ⟨b,o,none⟩/\w.rangeAt b (o+i*3) [.bool ps[i].neg,u1,u2]/\WdsAt w u1 ps[i].num/\WdsAt w u2 ps[i].den
theorem bY {w w':World} {b o:Nat} {cs:List Value} (h:w.rangeAt b o cs) (hk:ag w w'):w'.rangeAt b o cs:=fun j v hj=>hk.cell (h j v hj)
theorem cI.kept {w w':World} {v:Value} {ps:List Rw} (h:cI w v ps) (hk:ag w w'):cI w' v ps:=by
 obtain ⟨a,c,h1,h2,h3,h4⟩:=h;exact ⟨a,c,h1,h2,h3,fun i hi=>let ⟨b,o,u1,u2,h5,h6,h7,h8⟩:=h4 i hi;⟨b,o,u1,u2,h5,bY h6 hk,h7.kept hk,h8.kept hk⟩⟩
theorem RatsAt.kept {w w':World} {v:Value} {ps:List Rw} (h:RatsAt w v ps) (hk:ag w w'):RatsAt w' v ps:=by
 obtain ⟨a,c,h1,h2,h3,h4⟩:=h;exact ⟨a,c,h1,h2,h3,fun i hi=>let ⟨b,o,u1,u2,h5,h6,h7,h8⟩:=h4 i hi;⟨b,o,u1,u2,h5,bY h6 hk,h7.kept hk,h8.kept hk⟩⟩
theorem cI.small {w:World} {v:Value} {ps:List Rw} (h:cI w v ps) (hs:∀ r∈ps,r.Short 1099511627776):RatsAt w v ps:=by
 obtain ⟨a,c,h1,h2,h3,h4⟩:=h;exact ⟨a,c,h1,h2,h3,fun i hi=>let ⟨b,o,u1,u2,h5,h6,h7,h8⟩:=h4 i hi;⟨b,o,u1,u2,h5,h6,h7.small (hs _ (List.getElem_mem _)).1,h8.small (hs _ (List.getElem_mem _)).2⟩⟩
theorem RatsAt.shape {w:World} {v:Value} {ps:List Rw} (h:RatsAt w v ps):∃ a c,v=.slice a ps.length c:=by obtain ⟨a,c,h1,_⟩:=h;exact ⟨a,c,h1⟩
theorem RatsAt.len {w:World} {v:Value} {ps:List Rw} (h:RatsAt w v ps):ps.length<=140737488355328:=by obtain ⟨a,c,_,_,h1,_⟩:=h;exact h1
theorem RatsAt.get {w:World} {a:Option Addr} {n c:Nat} {ps:List Rw} (h:RatsAt w (.slice a n c) ps) (i:Nat) (hi:i<ps.length):∃ b o u1 u2,a=some ⟨b,o,none⟩/\w.rangeAt b (o+i*3) [.bool (ps.getD i default).neg,u1,u2]/\WdsAt w u1 (ps.getD i default).num/\WdsAt w u2 (ps.getD i default).den:=by
 obtain ⟨a',c',h1,_,_,h4⟩:=h;injection h1 with e1 e2 e3
 subst e1;have e:ps.getD i default=ps[i]:=by simp [List.getD_eq_getElem?_getD,hi]
 rw [e];exact h4 i hi
theorem l':Tryz.prog.cellsOf 29=3:=by kernel_rfl
theorem nd:Tryz.prog.cellsOf 27=1:=by kernel_rfl
theorem xC:Tryz.prog.cellsOf 70=1:=by kernel_rfl
theorem oj:Tryz.prog.cellsOf 4=1:=by kernel_rfl
theorem xu:Tryz.prog.bytesOf 29=56:=by kernel_rfl
theorem xx:Tryz.prog.bytesOf 70=4:=by kernel_rfl
theorem oh {n:Int} (h:(Lit.int .u32 n).wf=true):0<=n/\n<4294967296:=by
 simp [Lit.wf,IntKind.min,IntKind.max,IntKind.signed,IntKind.bits] at h;omega
section
variable {H:Type} {enc:TypeId × Value->H} {W:World} {base:Nat}
theorem gY {fuel:Nat} {cs:List Value} {x:DataW H × List MemPlace} (hb:∀ n∈x.1.weights Tryz.prog 27,n<=reachBytes)
  (h:DataW.trod enc Tryz.prog W base (fun _=>true) true fuel 27 cs=some x):∃ u xs,cs=[u]/\cL W u xs:=by
 rcases open_ints Tryz.underlying27 Tryz.underlying70 xC h with ⟨rfl,rfl⟩ | ⟨a,len,cap,zs,rfl,_,hl,hm,hz,rfl,hcell,hwz⟩
 ·exact ⟨_,[],rfl,cL.nil _⟩
 ·simp only [if_true] at hz
  have hbb:=hb ((zs.take len).length*4+(zs.drop len).length*4) (by
   simp only [DataW.weights,Tryz.underlying27,xx,List.mem_cons];exact .inl (by simp [lits];omega))
  simp [reachBytes] at hbb;have hlen:((zs.take len).map Int.toNat).length=len:=by simp;omega
  refine ⟨_,(zs.take len).map Int.toNat,rfl,some a,cap,by rw [hlen],⟨by rw [hlen];exact hl,fun h=>by cases h⟩,by rw [hlen];omega,fun z hz=>?_,fun i hi=>?_⟩
  ·obtain ⟨y,hy,rfl⟩:=List.mem_map.1 hz;have:=oh (hwz y (List.mem_of_mem_take hy));omega
  ·rw [hlen] at hi;have hc:=hcell i (by omega);obtain ⟨b,o,spot⟩:=a;have hspot:spot=none:=World.cell?_spot (hcell 0 (by omega));subst hspot;refine ⟨b,o,rfl,?_⟩
   have e:((((zs.take len).map Int.toNat).getD i 0:Nat):Int)=zs.getD i 0:=by
    have h1:i<zs.length:=by omega
    have h2:=oh (hwz zs[i] (List.getElem_mem _));simp [List.getD_eq_getElem?_getD,h1,hi];omega
   rw [e,<-hc];congr 1;by_cases h0:i=0
   ·subst h0;rfl
   ·simp [Addr.add,h0]
theorem yJ {fuel:Nat} {cs:List Value} {x:DataW H × List MemPlace} (hb:∀ n∈x.1.weights Tryz.prog 23,n<=reachBytes)
  (h:DataW.trod enc Tryz.prog W base (fun _=>true) true fuel 23 cs=some x):∃ u ps,cs=[u]/\cI W u ps:=by
 rcases open_slice Tryz.underlying23 h with ⟨rfl,rfl⟩ | ⟨a,len,cap,m,n,D,Pl,rfl,_,hl,hm,hmm,rfl,hx⟩
 ·exact ⟨_,[],rfl,none,0,rfl,⟨by simp,fun _=>rfl⟩,by simp,fun i h=>by simp at h⟩
 ·simp only [if_true] at hmm;have hmc:=hmm.symm;subst hmc
  have hbb:=hb (cap*56) (by
   simp only [DataW.weights,Tryz.underlying23,xu,List.mem_cons];refine .inl ?_;simp;omega)
  simp [reachBytes] at hbb
  have each:∀ i,i<len->∃ y:Rw,∃ b o u1 u2,a=⟨b,o,none⟩/\W.rangeAt b (o+i*3) [.bool y.neg,u1,u2]/\cL W u1 y.num/\cL W u2 y.den:=by
   intro i hi;obtain ⟨cs',hc,ht⟩:=hx i (by omega);rw [l'] at hc;obtain ⟨_,hcl,hat⟩:=World.cells?_some hc;obtain ⟨y0,y1,y2,n',hy,hlen,g0,g1,g2⟩:=trod_struct3 Tryz.underlying29 ht
   match cs',hcl with
   | [c0,c1,c2],_ =>
    have q0:=hat 0 (by omega);have q1:=hat 1 (by omega);have q2:=hat 2 (by omega);simp only [List.getElem?_cons_zero,List.getElem?_cons_succ] at q0 q1 q2;have k0:Tryz.prog.cellsOf 4=1:=oj;have k2:Tryz.prog.cellsOf 27=1:=nd;simp only [k0,k2,List.drop_zero,List.drop_succ_cons,List.take_succ_cons,List.take_zero] at g0 g1 g2;obtain ⟨ng,e0,hy0⟩:=DataW.trod_bool Tryz.underlying4 g0;simp at e0;subst e0;have hdi:D i=.agg [y0.1,y1.1,y2.1]:=by simpa using congrArg Prod.fst hy
    obtain ⟨u1,xs1,e1,hu1⟩:=gY (fun n hn=>hb n (by
     simp only [DataW.weights,Tryz.underlying23,List.mem_cons,List.mem_append];refine .inr (.inl (fj (d:=D i) (List.mem_map.2 ⟨i,by simpa using hi,rfl⟩) n ?_));rw [hdi];simp only [DataW.weights,Tryz.underlying29];simp only [List.map_cons,DataW.weightsEach,List.mem_append];exact .inr (.inl hn))) g1
    obtain ⟨u2,xs2,e2,hu2⟩:=gY (fun n hn=>hb n (by
     simp only [DataW.weights,Tryz.underlying23,List.mem_cons,List.mem_append];refine .inr (.inl (fj (d:=D i) (List.mem_map.2 ⟨i,by simpa using hi,rfl⟩) n ?_));rw [hdi];simp only [DataW.weights,Tryz.underlying29];simp only [List.map_cons,DataW.weightsEach,List.mem_append];exact .inr (.inr (.inl hn)))) g2
    simp at e1 e2;subst e1 e2;obtain ⟨b,o,spot⟩:=a
    have hspot:spot=none:=by
     obtain ⟨cs0,hc0,_⟩:=hx 0 (by omega);rw [l'] at hc0;obtain ⟨_,hcl0,hat0⟩:=World.cells?_some hc0;have h1:=hat0 0 (by omega);rw [List.getElem?_eq_getElem (by omega)] at h1;exact World.cell?_spot (a:=⟨b,o,spot⟩) (by simpa [Addr.add] using h1)
    subst hspot;refine ⟨⟨ng,xs1,xs2⟩,b,o,c1,c2,rfl,?_,hu1,hu2⟩;intro j v hj
    match j,hj with
    | 0,hj=>simp at hj;subst hj;rw [<-q0,xo,xo]
    | 1,hj=>simp at hj;subst hj;rw [<-q1,xo,xo]
    | 2,hj=>simp at hj;subst hj;rw [<-q2,xo,xo]
  obtain ⟨g,hg⟩:=choose_lt each;refine ⟨_,(List.range len).map g,rfl,some a,cap,by simp,⟨by simp;omega,fun h=>by cases h⟩,by simp;omega,fun i hi=>?_⟩;simp only [List.length_map,List.length_range] at hi;obtain ⟨b,o,u1,u2,rfl,h1,h2,h3⟩:=hg i hi;exact ⟨b,o,u1,u2,rfl,by simpa using h1,by simpa using h2,by simpa using h3⟩
end
end
def zv (u:Value) (ps:List Rw):Prop:=∃ b,u=.bool b/\(b=false->ps.length<=30/\∀ r∈ps,r.Short 3)
theorem jG (v:Value) (ps:List Rw) (w:World) (hv:cI w v ps) :
  Calls Tryz.prog 12 #[v] w fun e w'=>(∃ u,e=.returned u/\zv u ps)/\ag w w':=by
 obtain ⟨a,c,rfl,⟨hc,_⟩,hl,hx⟩:=hv;obtain ⟨n,hn⟩:∃ n,n=ps.length:=⟨_,rfl⟩;have hn9:n<=140737488355328:=by omega
 rw [<-hn];have HX:=af hx;have HN:=af hn;clear hx hn hl hc;go_enter Tryz.func12,Tryz.ntmps12;go_wp2_with fail;go_loopg [3,8] n (fun kx s3 s8 wr=>∃ k t:Nat,k<=n/\s8=.int .i64 k/\n - k<=kx/\s3=.int .i64 t/\t<=3*k/\Hid (∀ r∈ps.take k,r.Short 3)/\Hid (ag w wr))
 case atStart=>exact ⟨0,0,Nat.zero_le _,rfl,by omega,rfl,by omega,af (by simp),af (ag.refl _)⟩
 case round =>
  obtain ⟨k,t,hk,rfl,hkx,rfl,ht,HF,HK⟩:=hrel;by_cases hlt:k<n
  ·have hkl:k<ps.length:=by have:=HN.out;omega
   obtain ⟨b,o,u1,u2,rfl,hrg,hw1,hw2⟩:=HX.out k hkl;obtain ⟨r,hr⟩:∃ r,r=ps[k]:=⟨_,rfl⟩;rw [<-hr] at hrg hw1 hw2;have HR:=af hr;have HRG0:=bY hrg HK.out;have hw2':=hw2.kept HK.out;obtain ⟨a1,c1,rfl,hl1⟩:=hw1.shape;obtain ⟨a2,c2,rfl,hl2⟩:=hw2.shape
   have HNX:Hid (r.Short 3->∀ x∈ps.take (k+1),x.Short 3):=af fun h x hx=>by
    rw [List.take_succ_eq_append_getElem hkl] at hx;rcases List.mem_append.1 hx with hx | hx
    ·exact HF.out x hx
    ·simp at hx;rw [hx,<-HR.out];exact h
   have HSH:Hid (r.num.length<=3->r.den.length<=3->r.Short 3):=af fun h1 h2=>⟨h1,h2⟩
   obtain ⟨n1,hn1⟩:∃ n1,n1=r.num.length:=⟨_,rfl⟩;obtain ⟨n2,hn2⟩:∃ n2,n2=r.den.length:=⟨_,rfl⟩;rw [<-hn1] at HRG0 hl1 HSH;rw [<-hn2] at HRG0 hl2 HSH hw2';have HRG:Hid (wr.rangeAt b (o+k*3) [.bool r.neg,.slice a1 n1 c1,.slice a2 n2 c2]):=af HRG0;have HK2:Hid (ag w (wr.alloc (.cells #[.bool r.neg,.slice a1 n1 c1,.slice a2 n2 c2] 29))):=af (HK.out.alloc _);have HW2:=af hw2';have HN2:=af hn2;have hkn:(k:Int)<(n:Int):=by omega
   clear hr hrg hw1 hw2 hw2' HRG0 hn1 hn2;by_cases h1:3<n1
   ·have g1:(3:Int)<(n1:Int):=by omega
    have d1:decide ((3:Int)<(n1:Int))=true:=decide_eq_true g1;go_wp2_with (with_reducible refine wpList_load_mid rfl 29 _ rfl b (o+k*3) rfl _ _ HRG.out Tryz.underlying29 rfl (by kernel_rfl) ?_);go_ret;exact ⟨⟨_,rfl,true,rfl,fun h=>by cases h⟩,HK2.out⟩
   ·have g1:¬ (3:Int)<(n1:Int):=by omega
    have d1:decide ((3:Int)<(n1:Int))=false:=decide_eq_false g1;by_cases h2:3<n2
    ·have g2:(3:Int)<(n2:Int):=by omega
     have d2:decide ((3:Int)<(n2:Int))=true:=decide_eq_true g2;go_wp2_with (with_reducible refine wpList_load_mid rfl 29 _ rfl b (o+k*3) rfl _ _ HRG.out Tryz.underlying29 rfl (by kernel_rfl) ?_);go_ret;exact ⟨⟨_,rfl,true,rfl,fun h=>by cases h⟩,HK2.out⟩
    ·have g2:¬ (3:Int)<(n2:Int):=by omega
     have d2:decide ((3:Int)<(n2:Int))=false:=decide_eq_false g2;have HS3:=af (HNX.out (HSH.out (by omega) (by omega)));obtain ⟨mx,hmx⟩:∃ mx,mx=max n1 n2:=⟨_,rfl⟩;have emx:max (n1:Int) (n2:Int)=(mx:Int):=by omega
     obtain ⟨t2,ht2⟩:∃ t2,t2=t+mx:=⟨_,rfl⟩;have et2:(t:Int)+(mx:Int)=(t2:Int):=by omega
     have ht29:t2<=3*(k+1):=by omega
     have ht28:t2<=422212465065987:=by omega
     clear hmx ht2;by_cases h3:1<n1
     ·have g3:(1:Int)<(n1:Int):=by omega
      have d3:decide ((1:Int)<(n1:Int))=true:=decide_eq_true g3;go_wp2_with (with_reducible refine wpList_load_mid rfl 29 _ rfl b (o+k*3) rfl _ _ HRG.out Tryz.underlying29 rfl (by kernel_rfl) ?_);go_roundg (n - (k+1))
      case measure=>omega
      case rel=>exact ⟨k+1,t2,by omega,by go_num,Nat.le_refl _,rfl,ht29,HS3,HK2⟩
     ·have g3:¬ (1:Int)<(n1:Int):=by omega
      have d3:decide ((1:Int)<(n1:Int))=false:=decide_eq_false g3;by_cases h4:1<n2
      ·have g4:(1:Int)<(n2:Int):=by omega
       have d4:decide ((1:Int)<(n2:Int))=true:=decide_eq_true g4;go_wp2_with (with_reducible refine wpList_load_mid rfl 29 _ rfl b (o+k*3) rfl _ _ HRG.out Tryz.underlying29 rfl (by kernel_rfl) ?_);go_roundg (n - (k+1))
       case measure=>omega
       case rel=>exact ⟨k+1,t2,by omega,by go_num,Nat.le_refl _,rfl,ht29,HS3,HK2⟩
      ·have g4:¬ (1:Int)<(n2:Int):=by omega
       have d4:decide ((1:Int)<(n2:Int))=false:=decide_eq_false g4;by_cases h5:n2=1
       ·have e5:((n2:Int) == 1)=true:=by simp;omega
        have hden:0<r.den.length:=by have:=HN2.out;omega
        obtain ⟨a2',c2',h6,h7,_,_,h8⟩:=HW2.out;injection h6 with h9 h10 h11
        obtain ⟨b2,o2,h12,h13⟩:=h8 0 hden;rw [<-h9] at h12;subst h12;obtain ⟨y,hy⟩:∃ y,y=r.den.getD 0 0:=⟨_,rfl⟩;rw [<-hy,Nat.add_zero] at h13;have h14:=((ag.refl wr).alloc (.cells #[.bool r.neg,.slice a1 n1 c1,.slice (some ⟨b2,o2,none⟩) n2 c2] 29)).cell h13;have q0:(0:Int)<(n2:Int):=by omega
        have q0':0<n2:=by omega
        clear h7 h8 h9 h10 h11 h13 hy h5;by_cases h15:1024<=y
        ·have d5:decide ((1024:Int)<=(y:Int))=true:=decide_eq_true (by omega);have g5:(1024:Int)<=(y:Int):=by omega
         go_wp2_with (with_reducible refine wpList_load_mid rfl 29 _ rfl b (o+k*3) rfl _ _ HRG.out Tryz.underlying29 rfl (by kernel_rfl) ?_);go_roundg (n - (k+1))
         case measure=>omega
         case rel=>exact ⟨k+1,t2,by omega,by go_num,Nat.le_refl _,rfl,ht29,HS3,HK2⟩
        ·have d5:decide ((1024:Int)<=(y:Int))=false:=decide_eq_false (by omega);have g5:¬ (1024:Int)<=(y:Int):=by omega
         go_wp2_with (with_reducible refine wpList_load_mid rfl 29 _ rfl b (o+k*3) rfl _ _ HRG.out Tryz.underlying29 rfl (by kernel_rfl) ?_);go_roundg (n - (k+1))
         case measure=>omega
         case rel=>exact ⟨k+1,t,by omega,by go_num,Nat.le_refl _,rfl,by omega,HS3,HK2⟩
       ·have e5:((n2:Int) == 1)=false:=by simp;omega
        go_wp2_with (with_reducible refine wpList_load_mid rfl 29 _ rfl b (o+k*3) rfl _ _ HRG.out Tryz.underlying29 rfl (by kernel_rfl) ?_);go_roundg (n - (k+1))
        case measure=>omega
        case rel=>exact ⟨k+1,t,by omega,by go_num,Nat.le_refl _,rfl,by omega,HS3,HK2⟩
  ·have hke:k=n:=by omega
   have HALL:Hid (∀ r∈ps,r.Short 3):=af (by have:=HF.out;rwa [List.take_of_length_le (by have:=HN.out;omega)] at this);have hkn:¬ (k:Int)<(n:Int):=by omega
   by_cases h30:30<n
   ·have g30:(30:Int)<(n:Int):=by omega
    have d30:decide ((30:Int)<(n:Int))=true:=decide_eq_true g30;go_wp2;go_ret;exact ⟨⟨_,rfl,true,rfl,fun h=>by cases h⟩,HK.out⟩
   ·have g30:¬ (30:Int)<(n:Int):=by omega
    have d30:decide ((30:Int)<(n:Int))=false:=decide_eq_false g30;go_wp2;go_ret;exact ⟨⟨_,rfl,_,rfl,fun _=>⟨by have:=HN.out;omega,HALL.out⟩⟩,HK.out⟩
def Et (g:Nat) (lb:Array Value) (p:Rw->Bool) (w:World):Prop :=
 ∀ (W:World) (u:Value) (x:Rw),ag w W->RatAt W u x->x.Short 34359738368->Calls Tryz.prog g (#[u]++lb) W fun e W'=>e=.returned (.bool (p x))/\ag W W'
def cK (ps:List Rw):Bool:=ps.any fun r=>!bB r
theorem vj (v:Value) (ps:List Rw) (w:World) (hv:RatsAt w v ps) (hs:∀ x∈ps,x.Short 34359738368):Calls Tryz.prog 31 #[v] w fun e w'=>e=.returned (.bool (cK ps))/\ag w w':=by
 obtain ⟨a,c,rfl,⟨hc,_⟩,hl,hx⟩:=hv;obtain ⟨n,hn⟩:∃ n,n=ps.length:=⟨_,rfl⟩;have hbig:n<=140737488355328:=by omega
 rw [<-hn];have HX:=af hx;have HN:=af hn;have HLT:=af hs;clear hx hn hl hc hs;go_enter Tryz.func31,Tryz.ntmps31;go_wp2_with fail;go_loopg [7] n (fun kx i wr=>∃ k:Nat,k<=n/\i=.int .i64 k/\n - k<=kx/\Hid (∀ x∈ps.take k,bB x=true)/\Hid (ag w wr))
 case atStart=>exact ⟨0,Nat.zero_le _,rfl,by omega,af (by simp),af (ag.refl _)⟩
 case round =>
  obtain ⟨k,hk,rfl,hkx,HF,HK⟩:=hrel;by_cases hlt:k<n
  ·have hkl:k<ps.length:=by have:=HN.out;omega
   obtain ⟨b,o,u1,u2,rfl,hrg,hw1,hw2⟩:=HX.out k hkl;have hrg2:=bY hrg HK.out;have hxl:=HLT.out ps[k] (List.getElem_mem _);obtain ⟨x,hxx⟩:∃ x,x=ps[k]:=⟨_,rfl⟩;rw [<-hxx] at hrg2 hxl hw1 hw2;have HXX:=af hxx;obtain ⟨a1,c1,rfl⟩:=hw1.shape;obtain ⟨a2,c2,rfl⟩:=hw2.shape;have HC:Hid (∀ W,ag w W->Calls Tryz.prog 73 #[.agg #[.bool x.neg,.slice a1 x.num.length c1,.slice a2 x.den.length c2]] W fun e W'=>e=.returned (.bool (bB x))/\ag W W'):=af fun W hk=>tn _ x W ⟨_,_,rfl,hw1.kept hk,hw2.kept hk⟩ hxl
   generalize x.num.length=n1 at *;generalize x.den.length=n2 at *;have HRG:Hid (wr.rangeAt b (o+k*3) [.bool x.neg,.slice a1 n1 c1,.slice a2 n2 c2]):=af hrg2;have hkn:(k:Int)<(n:Int):=by omega
   clear hrg hrg2 hxx hxl hw1 hw2;cases hq:bB x with
   | false =>
    rw [hq] at HC;have HQ:=af hq;clear hq;go_wp2_with (first | (with_reducible refine wpList_load_mid rfl 29 _ rfl b (o+k*3) rfl _ _ HRG.out Tryz.underlying29 rfl (by kernel_rfl) ?_) | (go_at_call 73;refine (HC.out _ (HK.out.alloc _)).mono ?_;rintro e w' ⟨rfl,hK2⟩));go_ret;have hb:cK ps=true:=List.any_eq_true.2 ⟨x,by rw [HXX.out];exact List.getElem_mem _,by rw [HQ.out];rfl⟩;exact ⟨by rw [hb];rfl,(HK.out.alloc _).trans hK2⟩
   | true =>
    rw [hq] at HC;have HQ:=af hq;clear hq;go_wp2_with (first | (with_reducible refine wpList_load_mid rfl 29 _ rfl b (o+k*3) rfl _ _ HRG.out Tryz.underlying29 rfl (by kernel_rfl) ?_) | (go_at_call 73;refine (HC.out _ (HK.out.alloc _)).mono ?_;rintro e w' ⟨rfl,hK2⟩));go_roundg (n - (k+1))
    case measure=>omega
    case rel =>
     refine ⟨k+1,by omega,by go_num,Nat.le_refl _,af ?_,af ((HK.out.alloc _).trans hK2)⟩;intro y hy;rw [List.take_succ_eq_append_getElem hkl] at hy;rcases List.mem_append.1 hy with hy | hy
     ·exact HF.out y hy
     ·simp at hy;rw [hy,<-HXX.out];exact HQ.out
  ·have hh:=HF.out;rw [List.take_of_length_le (by have:=HN.out;omega)] at hh;have HB:Hid (cK ps=false):=af (by unfold cK;rw [List.any_eq_false];intro y hy;simp [hh y hy]);have hkn:¬ (k:Int)<(n:Int):=by omega
   clear hh;go_wp2;go_ret;exact ⟨by rw [HB.out];rfl,HK.out⟩
def dG (s:Nat):List Nat:=(List.range 24).filter fun i=>s.testBit i
def jE (s:Nat):Int:=(Lib.bitLen s:Int) - 1
theorem zW {s i:Nat} (h:i∈dG s):i<24/\s.testBit i=true:=by
 have:=List.mem_filter.1 h;exact ⟨by simpa using this.1,this.2⟩
theorem sd {x n:Nat} (h1:2^n<=x) (h2:x<2^(n+1)) (hn:n<60):Lib.bitLen x=n+1:=by
 have h64:x<2^64:=Nat.lt_of_lt_of_le h2 (Nat.pow_le_pow_right (by omega) (by omega));have h3:=Lib.bitLen_le x (n+1) (by omega) h2;have h4:=l_ h64;have h5:n<Lib.bitLen x:=(Nat.pow_lt_pow_iff_right (by omega:1<2)).1 (Nat.lt_of_le_of_lt h1 h4);omega
theorem qs (l:List Nat) (x:Nat):∀ a:Int,(l++[x]).foldl (fun (_:Int) (i:Nat)=>(i:Int)) a=(x:Int):=by
 intro a;rw [List.foldl_append];rfl
theorem uF (s:Nat):∀ n,n<=24->((List.range n).filter fun i=>s.testBit i).foldl (fun (_:Int) (i:Nat)=>(i:Int)) (-1)=(Lib.bitLen (s % 2^n):Int) - 1:=by
 intro n;induction n with
 | zero=>intro _;simp [Nat.mod_one];rfl
 | succ n ih =>
  intro hn;have ih:=ih (by omega);rw [List.range_succ,List.filter_append,se]
  have hb:s / 2^n % 2=if s.testBit n then 1 else 0:=by
   rw [Nat.testBit_eq_decide_div_mod_eq]
   have:s / 2^n % 2<2:=Nat.mod_lt _ (by omega)
   by_cases h:s / 2^n % 2=1
   ·simp [h]
   ·simp [h];omega
  cases ht:s.testBit n with
  | false =>
   rw [ht] at hb;simp only [List.filter_cons,ht,List.filter_nil,Bool.false_eq_true,if_false,List.append_nil] at hb⊢;rw [hb,Nat.zero_mul,Nat.add_zero];exact ih
  | true =>
   rw [ht] at hb;simp only [List.filter_cons,ht,List.filter_nil,if_true] at hb⊢;rw [qs,hb,Nat.one_mul];have h1:s % 2^n<2^n:=Nat.mod_lt _ (Nat.two_pow_pos n);rw [sd (n:=n) (by omega) (by rw [Nat.pow_succ];omega) (by omega)];omega
theorem x_ {s:Nat} (hs:s<16777216):(dG s).foldl (fun (_:Int) (i:Nat)=>(i:Int)) (-1)=jE s:=by
 have h:=uF s 24 (Nat.le_refl _);have e:(2:Nat)^24=16777216:=rfl;rw [e,Nat.mod_eq_of_lt hs] at h;exact h
theorem zK {s i:Nat} (hs:s<16777216) (h:s.testBit i=true):(i:Int)<=jE s:=by
 unfold jE;have h1:2^i<=s:=Nat.ge_two_pow_of_testBit h;have h64:s<2^64:=Nat.lt_of_lt_of_le hs (by decide);have h4:=l_ h64;have h5:i<Lib.bitLen s:=(Nat.pow_lt_pow_iff_right (by omega:1<2)).1 (Nat.lt_of_le_of_lt h1 h4);omega
theorem og {s i:Nat} (hs:s<16777216) (hi:24<=i):s.testBit i=false:=by
 cases h:s.testBit i with
 | false=>rfl
 | true =>
  exfalso
  have h1:2^i<=s:=Nat.ge_two_pow_of_testBit h;have h2:2^24<=2^i:=Nat.pow_le_pow_right (by omega) hi;have e:(2:Nat)^24=16777216:=rfl;omega
theorem Ai (c i:Nat) (hc:c<16777216) (w:World):Calls Tryz.prog 98 #[.int .i64 c,.int .i64 i] w fun e w'=>e=.returned (.bool (c.testBit i))/\w'=w:=by
 by_cases hi:i<24
 ·have e:=wM c i hc;have h1:(0:Int)<=(i:Int):=by omega
  have h2:(i:Int)<24:=by omega
  have E:=af e;clear e hc;go_enter Tryz.func98,Tryz.ntmps98;go_wp2;go_ret;exact ⟨by rw [<-E.out];rfl,rfl⟩
 ·rw [og hc (by omega)];have h1:(0:Int)<=(i:Int):=by omega
  have h2:¬ (i:Int)<24:=by omega
  have d2:decide ((i:Int)<24)=false:=decide_eq_false h2;clear hc hi;go_enter Tryz.func98,Tryz.ntmps98;go_wp2;go_ret;exact ⟨by first | rfl | simp,rfl⟩
theorem uA (c i:Nat) (hc:c<16777216) (w:World):Calls Tryz.prog 211 #[.int .i64 c,.int .i64 i] w fun e w'=>e=.returned (.bool (c.testBit i))/\w'=w:=by
 by_cases hi:i<24
 ·have e:=wM c i hc;have h1:(0:Int)<=(i:Int):=by omega
  have h2:(i:Int)<24:=by omega
  have E:=af e;clear e hc;go_enter Tryz.func211,Tryz.ntmps211;go_wp2;go_ret;exact ⟨by rw [<-E.out];rfl,rfl⟩
 ·rw [og hc (by omega)];have h1:(0:Int)<=(i:Int):=by omega
  have h2:¬ (i:Int)<24:=by omega
  have d2:decide ((i:Int)<24)=false:=decide_eq_false h2;clear hc hi;go_enter Tryz.func211,Tryz.ntmps211;go_wp2;go_ret;exact ⟨by first | rfl | simp,rfl⟩
theorem xP (s:Nat) (hs:s<16777216) (w:World):Calls Tryz.prog 95 #[.int .i64 s] w fun e w'=>e=.returned (.int .i64 (jE s))/\w'=w:=by
 have HC:Hid (∀ W,Calls Tryz.prog 135 #[.int .i64 s] W fun e w'=>e=.returned (.int .i64 s)/\W=w'):=af fun W=>oq (by unfold Mk;omega) W
 have ew:IntKind.u64.wrap (s:Int)=(s:Int):=by rw [IntKind.wrap_u64];omega
 obtain ⟨z,hz⟩:∃ z,z=Lib.bitLen s:=⟨_,rfl⟩;have hz9:z<=24:=by rw [hz];exact Lib.bitLen_le s 24 (by omega) (by rw [show (2:Nat)^24=16777216 from rfl];exact hs)
 have HL:Hid (∀ W,Calls Tryz.prog 132 #[.int .u64 (s:Int)] W fun e w'=>e=.returned (.int .i64 z)/\w'=W):=af fun W=>by
  have h:=Tryz.bits_Len (s:Int) W (by omega) (by omega);rw [Int.toNat_natCast,<-hz] at h;exact h
 have hg:jE s=(z:Int) - 1:=by unfold jE;rw [hz]
 rw [hg];clear hz hg hs;go_enter Tryz.func95,Tryz.ntmps95;go_wp2_with (first | (go_at_call 135;refine (HC.out _).mono ?_;rintro e w2 ⟨rfl,rfl⟩) | (go_at_call 132;refine (HL.out _).mono ?_;rintro e w2 ⟨rfl,rfl⟩));go_ret;exact ⟨rfl,rfl⟩
theorem ot (s k:Nat):((List.range (k+1)).filter fun i=>s.testBit i)=((List.range k).filter fun i=>s.testBit i)++(if s.testBit k then [k] else []):=by
 rw [List.range_succ,List.filter_append];congr 1;cases h:s.testBit k <;> simp [h]
theorem qj (s n:Nat):((List.range n).filter fun i=>s.testBit i).length<=n:=by
 have:=List.length_filter_le (fun i=>s.testBit i) (List.range n);simpa using this
theorem xH (s:Nat) (hs:s<16777216) (w:World):Calls Tryz.prog 160 #[.int .i64 s] w fun e w'=>(∃ v,e=.returned v/\OwnInts w' w.heap.size v (aL (dG s)))/\ag w w':=by
 have HH:=af (fun (i:Nat) W=>uA s i hs W);clear hs;go_enter Tryz.func160,Tryz.ntmps160;go_wp2_with fail;go_loopg [3,5] 24 (fun kx s3 s5 wr=>∃ k:Nat,k<=24/\s5=.int .i64 k/\24 - k<=kx/\Hid (OwnInts wr w.heap.size s3 (aL ((List.range k).filter fun i=>s.testBit i)))/\Hid (ag w wr))
 case atStart=>exact ⟨0,Nat.zero_le _,rfl,by omega,af (OwnInts.nil _ _),af (ag.refl _)⟩
 case round =>
  obtain ⟨k,hk,rfl,hkx,HO,HK⟩:=hrel;obtain ⟨a3,n3,c3,rfl⟩:=HO.out.ints.shape;by_cases hlt:k<24
  ·have hkn:(k:Int)<24:=by omega
   have HST:=af (ot s k);have HLN:=af (qj s k);cases hb:s.testBit k with
   | false =>
    have HC:Hid (∀ W,Calls Tryz.prog 211 #[.int .i64 s,.int .i64 k] W fun e w'=>e=.returned (.bool false)/\w'=W):=af fun W=>by have h:=HH.out k W;rw [hb] at h;exact h
    rw [hb] at HST;clear hb;go_wp2_with (go_at_call 211;refine (HC.out _).mono ?_;rintro e w2 ⟨rfl,rfl⟩);go_roundg (24 - (k+1))
    case measure=>omega
    case rel=>exact ⟨k+1,by omega,by go_num,Nat.le_refl _,af (by rw [HST.out];simpa using HO.out),HK⟩
   | true =>
    have HC:Hid (∀ W,Calls Tryz.prog 211 #[.int .i64 s,.int .i64 k] W fun e w'=>e=.returned (.bool true)/\w'=W):=af fun W=>by have h:=HH.out k W;rw [hb] at h;exact h
    rw [hb] at HST;obtain ⟨L,hL⟩:∃ L,L=((List.range k).filter fun i=>s.testBit i):=⟨_,rfl⟩;rw [<-hL] at HO HLN HST;clear hb hL
    go_wp2_with (first
     | (go_at_call 211;refine (HC.out _).mono ?_;rintro e w2 ⟨rfl,rfl⟩)
     | (at_builtin;refine eA rfl _ _ rfl w.heap.size _ (aL L) rfl (HO.out.kept ((ag.refl _).alloc _)) _ (k:Int) rfl (by simp) (by have:=HLN.out;unfold aL;rw [List.length_map];omega) (by have:=HK.out.size;simp;omega) ?_;intro v' w' h5 _ h6;have H5:=af h5;have H6:=af h6;clear h5 h6))
    obtain ⟨a5,n5,c5,rfl⟩:=H5.out.ints.shape;go_roundg (24 - (k+1))
    case measure=>omega
    case rel=>exact ⟨k+1,by omega,by go_num,Nat.le_refl _,af (by rw [HST.out];simpa [aL] using H5.out),af ((HK.out.alloc _).app H6.out)⟩
  ·have hke:k=24:=by omega
   have HE:Hid (OwnInts wr w.heap.size (.slice a3 n3 c3) (aL (dG s))):=af (by have h:=HO.out;rw [hke] at h;exact h);have hkn:¬ (k:Int)<24:=by omega
   clear hke;go_wp2;go_ret;exact ⟨⟨_,rfl,HE.out⟩,HK.out⟩
theorem qi (s:Nat) (hs:s<16777216) (w:World):Calls Tryz.prog 160 #[.int .i64 s] w fun e w'=>(∃ v,e=.returned v/\am w' v (aL (dG s)))/\ag w w' :=
 (xH s hs w).mono fun _ _ ⟨⟨v,h1,h2⟩,h3⟩=>⟨⟨v,h1,h2.ints⟩,h3⟩
theorem sz (s:Nat) (hs:s<16777216) (w:World):Calls Tryz.prog 100 #[.int .i64 s] w fun e w'=>e=.returned (.int .i64 (jE s))/\ag w w':=by
 have HE:=af (qi s hs w);have HG:=af (x_ hs);obtain ⟨L,hL⟩:∃ L,L=dG s:=⟨_,rfl⟩;rw [<-hL] at HE HG;obtain ⟨G,hG⟩:∃ G,G=jE s:=⟨_,rfl⟩;rw [<-hG] at HG⊢;clear hs hL hG;go_enter Tryz.func100,Tryz.ntmps100;go_wp2_with fail;refine HE.out.mono ?_;rintro e w2 ⟨⟨v2,rfl,hv2⟩,hk2⟩;obtain ⟨a,c,rfl,⟨hc,_⟩,hl,hx⟩:=hv2;obtain ⟨n,hn⟩:∃ n,n=(aL L).length:=⟨_,rfl⟩;have hnL:n=L.length:=by rw [hn];unfold aL;rw [List.length_map]
 rw [<-hn];have hn9:n<=140737488355328:=by omega
 have HX:=af hx;have HN:=af hn;have HNL:=af hnL;have HK2:=af hk2;clear hx hn hl hc hk2 hnL;go_wp2_with fail;go_loopg [3,9] n (fun kx s3 s9 wr=>∃ k:Nat,k<=n/\s9=.int .i64 k/\n - k<=kx/\s3=.int .i64 ((L.take k).foldl (fun (_:Int) (i:Nat)=>(i:Int)) (-1))/\w2=wr)
 case atStart=>exact ⟨0,Nat.zero_le _,rfl,by omega,rfl,rfl⟩
 case round =>
  obtain ⟨k,hk,rfl,hkx,rfl,rfl⟩:=hrel;by_cases hlt:k<n
  ·obtain ⟨b,o,rfl,hcell⟩:=HX.out k (by rw [<-HN.out];exact hlt);have hkL:k<L.length:=by have:=HNL.out;omega
   obtain ⟨y,hy⟩:∃ y,y=L[k]:=⟨_,rfl⟩;have e1:(aL L)[k]'(by rw [<-HN.out];exact hlt)=(y:Int):=by rw [hy];simp [aL]
   rw [e1] at hcell;have HST:Hid (((y:Nat):Int)=(L.take (k+1)).foldl (fun (_:Int) (i:Nat)=>(i:Int)) (-1)):=af (by rw [List.take_succ_eq_append_getElem hkL,qs,hy]);have hkn:(k:Int)<(n:Int):=by omega
   generalize (L.take k).foldl (fun (_:Int) (i:Nat)=>(i:Int)) (-1)=z at *;clear e1 hy;go_wp2_with fail;go_roundg (n - (k+1))
   case measure=>omega
   case rel=>exact ⟨k+1,by omega,by go_num,Nat.le_refl _,by rw [HST.out],rfl⟩
  ·have HE2:Hid ((L.take k).foldl (fun (_:Int) (i:Nat)=>(i:Int)) (-1)=G):=af (by rw [List.take_of_length_le (by have:=HNL.out;omega)];exact HG.out);have hkn:¬ (k:Int)<(n:Int):=by omega
   rw [HE2.out];go_wp2;go_ret;exact ⟨rfl,HK2.out⟩
theorem bn.store {w:World} {g:Nat} {xs:List Value} (h:bn w g xs) (i:Nat) (u:Value):bn (w.setCell ⟨g,i,none⟩ u) g (xs.set i u):=by
 obtain ⟨cur,e,h1,h2⟩:=h;refine ⟨cur.setIfInBounds i u,e,by simp [World.setCell,Array.getElem?_modify,h1],?_⟩;rw [Array.toList_setIfInBounds,h2]
def RatCell (w:World) (g:Nat) (r:Rw):Prop:=∃ a1 c1 a2 c2,aj w g 29 [.bool r.neg,.slice a1 r.num.length c1,.slice a2 r.den.length c2]/\bn w g [.bool r.neg,.slice a1 r.num.length c1,.slice a2 r.den.length c2]/\WdsAt w (.slice a1 r.num.length c1) r.num/\WdsAt w (.slice a2 r.den.length c2) r.den
theorem RatCell.kept {w w':World} {g:Nat} {r:Rw} (h:RatCell w g r) (hk:ag w w'):RatCell w' g r:=by
 obtain ⟨a1,c1,a2,c2,h1,h2,h3,h4⟩:=h;exact ⟨a1,c1,a2,c2,h1.kept hk,h2.kept hk,h3.kept hk,h4.kept hk⟩
theorem RatCell.made {w:World} {r:Rw} {a1 a2:Option Addr} {c1 c2:Nat} (h1:WdsAt w (.slice a1 r.num.length c1) r.num) (h2:WdsAt w (.slice a2 r.den.length c2) r.den) :
  RatCell (w.alloc (.cells #[.bool r.neg,.slice a1 r.num.length c1,.slice a2 r.den.length c2] 29)) w.heap.size r :=
 ⟨a1,c1,a2,c2,aj.made w #[.bool r.neg,.slice a1 r.num.length c1,.slice a2 r.den.length c2] 29,bn.made w #[.bool r.neg,.slice a1 r.num.length c1,.slice a2 r.den.length c2] 29,h1.kept ((ag.refl _).alloc _),h2.kept ((ag.refl _).alloc _)⟩
theorem RatCell.store {w:World} {g:Nat} {r r':Rw} {a1 a2:Option Addr} {c1 c2:Nat} (h:RatCell w g r) (h1:WdsAt w (.slice a1 r'.num.length c1) r'.num) (h2:WdsAt w (.slice a2 r'.den.length c2) r'.den) :
  RatCell (((w.setCell ⟨g,0,none⟩ (.bool r'.neg)).setCell ⟨g,1,none⟩ (.slice a1 r'.num.length c1)).setCell ⟨g,2,none⟩ (.slice a2 r'.den.length c2)) g r':=by
 obtain ⟨a3,c3,a4,c4,h3,h4,_,_⟩:=h;have hr:=((h3.store 0 (.bool r'.neg)).store 1 (.slice a1 r'.num.length c1)).store 2 (.slice a2 r'.den.length c2);have hf:=((h4.store 0 (.bool r'.neg)).store 1 (.slice a1 r'.num.length c1)).store 2 (.slice a2 r'.den.length c2);simp only [List.set_cons_zero,List.set_cons_succ] at hr hf;have hO:=(((aw.refl g w).store 0 (.bool r'.neg)).store 1 (.slice a1 r'.num.length c1)).store 2 (.slice a2 r'.den.length c2);exact ⟨a1,c1,a2,c2,hr,hf,h1.apart h4 (by simp) hO,h2.apart h4 (by simp) hO⟩
theorem RatCell.at {w:World} {g:Nat} {r:Rw} (h:RatCell w g r):∃ a1 c1 a2 c2,(w.cell? ⟨g,0,none⟩=some (.bool r.neg)/\w.cell? ⟨g,1,none⟩=some (.slice a1 r.num.length c1)/\w.cell? ⟨g,2,none⟩=some (.slice a2 r.den.length c2))/\(w.frozen? ⟨g,0,none⟩=false/\w.frozen? ⟨g,1,none⟩=false/\w.frozen? ⟨g,2,none⟩=false)/\g<w.heap.size/\RatAt w (.agg #[.bool r.neg,.slice a1 r.num.length c1,.slice a2 r.den.length c2]) r:=by
 obtain ⟨a1,c1,a2,c2,h1,h2,h3,h4⟩:=h;refine ⟨a1,c1,a2,c2,⟨?_,?_,?_⟩,⟨h1.free 0,h1.free 1,h1.free 2⟩,h1.lt,_,_,rfl,h3,h4⟩
 ·have:=h1.cell (i:=0) (by simp);simpa using this
 ·have:=h1.cell (i:=1) (by simp);simpa using this
 ·have:=h1.cell (i:=2) (by simp);simpa using this
def cF (s:Nat) (ps:List Rw):Nat->Rat
 | 0=>1
 | k+1=>if s.testBit k=true then cF s ps k*al (ps.getD k default) else cF s ps k
theorem dR (s:Nat) (ps:List Rw) (k:Nat):cF s ps (k+1)=if s.testBit k=true then cF s ps k*al (ps.getD k default) else cF s ps k:=rfl
theorem pi {s:Nat} {ps:List Rw} {n m:Nat} (h:∀ i,n<=i->s.testBit i=false) (hm:n<=m):cF s ps m=cF s ps n:=by
 induction m with
 | zero=>rw [show n=0 by omega]
 | succ m ih =>
  by_cases he:n=m+1
  ·rw [he]
  ·rw [dR,if_neg (by rw [h m (by omega)];simp)];exact ih (by omega)
theorem tg (s:Nat) (ps:List Rw):∀ n,((List.range n).filter fun i=>s.testBit i).foldl (fun (q:Rat) (i:Nat)=>q*al (ps.getD i default)) 1=cF s ps n:=by
 intro n;induction n with
 | zero=>rfl
 | succ n ih =>
  rw [ot,List.foldl_append,ih,dR];cases h:s.testBit n <;> rfl
theorem pj {s:Nat} {ps:List Rw} (hs:∀ r∈ps,r.Short 3) (hok:∀ r∈ps,r.Ok):∀ n,n<=ps.length->(ai (cF s ps n)).Short (3*n+1):=by
 intro n;induction n with
 | zero=>intro _;exact jJ
 | succ n ih =>
  intro hn;have ih:=ih (by omega);have hx:ps.getD n default=ps[n]:=by simp [List.getD_eq_getElem?_getD,show n<ps.length by omega]
  rw [dR];split
  ·have h:=mP (dF (cF s ps n)) (hok _ (List.getElem_mem (show n<ps.length by omega))) ih (hs _ (List.getElem_mem (show n<ps.length by omega))) (by omega) (by omega);rw [ap,<-hx] at h;exact ⟨Nat.le_trans h.1 (by omega),Nat.le_trans h.2 (by omega)⟩
  ·exact ⟨Nat.le_trans ih.1 (by omega),Nat.le_trans ih.2 (by omega)⟩
theorem RatsAt.ok {w:World} {v:Value} {ps:List Rw} (h:RatsAt w v ps):∀ r∈ps,r.Ok:=by
 obtain ⟨a,c,_,_,_,h4⟩:=h;intro r hr;obtain ⟨i,hi,rfl⟩:=List.getElem_of_mem hr;obtain ⟨_,_,_,_,_,_,h7,h8⟩:=h4 i hi;exact ⟨h7.wd,h8.wd⟩
theorem am.apart {w w':World} {g:Nat} {v:Value} {xs:List Int} {row:List Value} (h:am w v xs) (hr:bn w g row) (hn:∀ k x,Value.int k x ∉ row) (ho:aw g w w'):am w' v xs:=by
 obtain ⟨a,c,h1,h2,h3,h5⟩:=h;refine ⟨a,c,h1,h2,h3,fun i hi=>?_⟩;obtain ⟨b,o,h6,h7⟩:=h5 i hi;refine ⟨b,o,h6,?_⟩
 have hne:b≠g:=fun e=>by
  subst e;exact hn _ _ (hr.only h7)
 have hlt:b<w.heap.size:=World.block_lt_of_cell? w _ h7;have:=ho.block b hlt hne;simp only [World.cell?,this] at h7⊢;exact h7
theorem RatCell.ints {w:World} {g:Nat} {r:Rw} (h:RatCell w g r) {v:Value} {xs:List Int} (hv:am w v xs) (u0 u1 u2:Value):am (((w.setCell ⟨g,0,none⟩ u0).setCell ⟨g,1,none⟩ u1).setCell ⟨g,2,none⟩ u2) v xs:=by
 obtain ⟨a3,c3,a4,c4,h3,h4,_,_⟩:=h;exact hv.apart h4 (by simp) ((((aw.refl g w).store 0 u0).store 1 u1).store 2 u2)
def ck (L:List Nat) (ps:List Rw) (j:Nat):Rat:=(L.take j).foldl (fun (q:Rat) (i:Nat)=>q*al (ps.getD i default)) 1
theorem ph {L:List Nat} (ps:List Rw) {j:Nat} (h:j<L.length):ck L ps (j+1)=ck L ps j*al (ps.getD L[j] default):=by
 unfold ck;rw [List.take_succ_eq_append_getElem h,List.foldl_append];rfl
theorem yB {s:Nat} {ps:List Rw} (hs:s<16777216) (hg:jE s<(ps.length:Int)):ck (dG s) ps (dG s).length=cF s ps ps.length:=by
 have h0:∀ i,Lib.bitLen s<=i->s.testBit i=false:=fun i hi=>by
  cases h:s.testBit i with
  | false=>rfl
  | true =>
   exfalso
   have:=zK hs h;unfold jE at this;omega
 have h24:Lib.bitLen s<=24:=Lib.bitLen_le s 24 (by omega) (by rw [show (2:Nat)^24=16777216 from rfl];exact hs);have hl:Lib.bitLen s<=ps.length:=by unfold jE at hg;omega
 unfold ck;rw [List.take_length];unfold dG;rw [tg,pi h0 h24,pi h0 hl]
theorem tf {L:List Nat} {ps:List Rw} (hL:∀ i∈L,i<ps.length) (hs:∀ r∈ps,r.Short 3) (hok:∀ r∈ps,r.Ok):∀ j,j<=L.length->(ai (ck L ps j)).Short (3*j+1):=by
 intro n;induction n with
 | zero=>intro _;exact jJ
 | succ n ih =>
  intro hn;have ih:=ih (by omega);have hi:=hL _ (List.getElem_mem (show n<L.length by omega));have hx:ps.getD L[n] default=ps[L[n]]:=by simp [List.getD_eq_getElem?_getD,hi]
  rw [ph ps (show n<L.length by omega)];have h:=mP (dF (ck L ps n)) (hok _ (List.getElem_mem hi)) ih (hs _ (List.getElem_mem hi)) (by omega) (by omega);rw [ap,<-hx] at h;exact ⟨Nat.le_trans h.1 (by omega),Nat.le_trans h.2 (by omega)⟩
theorem jt (s:Nat) (v:Value) (ps:List Rw) (w:World) (hs:s<16777216) (hv:RatsAt w v ps) (hp3:∀ r∈ps,r.Short 3) (hg:jE s<(ps.length:Int)) :
  Calls Tryz.prog 104 #[v,.int .i64 s] w fun e w'=>(∃ v',e=.returned v'/\RatAt w' v' (ai (cF s ps ps.length)))/\ag w w':=by
 have HOF:Hid (∀ W,Calls Tryz.prog 102 #[.int .i64 1] W fun e w'=>(∃ v',e=.returned v'/\RatAt w' v' (ai (ck (dG s) ps 0)))/\ag W w'):=af fun W=>jM 1 W (by omega)
 have HEL:=af (fun W=>qi s hs W);have HPA:=af (yB hs hg);have hLl:(dG s).length<=24:=qj s 24
 have hLt:∀ i∈dG s,i<ps.length:=fun i hi=>by
  have h1:=zK hs (zW hi).2;omega
 obtain ⟨L,hL⟩:∃ L,L=dG s:=⟨_,rfl⟩;rw [<-hL] at HOF HEL HPA hLl hLt;have HSH:=af (fun j hj=>tf hLt hp3 hv.ok j hj);have HLT:=af hLt;have HV:=af hv;have HP3:=af hp3;obtain ⟨a,c,rfl⟩:=hv.shape;obtain ⟨m,hm⟩:∃ m,m=ps.length:=⟨_,rfl⟩;rw [<-hm] at HV⊢;have HM:=af hm;obtain ⟨R,hR⟩:∃ R,R=ai (cF s ps m):=⟨_,rfl⟩;rw [<-hR];have HRR:Hid (R=ai (ck L ps L.length)):=af (by rw [hR,hm,HPA.out]);obtain ⟨n,hn⟩:∃ n,n=L.length:=⟨_,rfl⟩;rw [<-hn] at HRR hLl;have HN:=af hn;clear hR hm hn hL hLt;obtain ⟨w2,hw2⟩:∃ w2,w2=w.alloc (.cells #[.bool false,.slice none 0 0,.slice none 0 0] 29):=⟨_,rfl⟩;have HR:Hid (aj w2 w.heap.size 29 [.bool false,.slice none 0 0,.slice none 0 0]):=af (by rw [hw2];exact aj.made w #[.bool false,.slice none 0 0,.slice none 0 0] 29);have HFX:Hid (bn w2 w.heap.size [.bool false,.slice none 0 0,.slice none 0 0]):=af (by rw [hw2];exact bn.made w #[.bool false,.slice none 0 0,.slice none 0 0] 29);have HK0:Hid (ag w w2):=af (by rw [hw2];exact (ag.refl w).alloc _);have HW2:=af hw2;clear hv hp3 hs hw2 hg;go_enter Tryz.func104,Tryz.ntmps104;go_wp2_with fail;rw [<-HW2.out];refine (HOF.out _).mono ?_;rintro e w3 ⟨⟨v3,rfl,hv3⟩,hk3⟩;have HR3:=af (HR.out.kept hk3);have HF3:=af (HFX.out.kept hk3);have HK3:=af (HK0.out.trans hk3);obtain ⟨u1,u2,rfl,h1,h2⟩:=hv3
 obtain ⟨a1,c1,rfl⟩:=h1.shape;obtain ⟨a2,c2,rfl⟩:=h2.shape;have HC:=af (RatCell.made h1 h2);obtain ⟨w4,hw4⟩:∃ w4,w4=w3.alloc (.cells #[.bool (ai (ck L ps 0)).neg,.slice a1 (ai (ck L ps 0)).num.length c1,.slice a2 (ai (ck L ps 0)).den.length c2] 29):=⟨_,rfl⟩;have HW4:=af hw4;rw [<-hw4] at HC;have HK4:Hid (ag w3 w4):=af (by rw [hw4];exact (ag.refl _).alloc _);generalize (ai (ck L ps 0)).neg=b0 at *;generalize (ai (ck L ps 0)).num.length=l1 at *;generalize (ai (ck L ps 0)).den.length=l2 at *;clear h1 h2 hk3 hw4;go_wp2_with fail;rw [<-HW4.out];refine (HEL.out _).mono ?_;rintro e w5 ⟨⟨v5,rfl,hv5⟩,hk5⟩;have HC5:=af (HC.out.kept hk5);have HK5:=af (HK4.out.trans hk5);have hnL:n=(aL L).length:=by rw [HN.out];unfold aL;rw [List.length_map]
 obtain ⟨ae,ce,rfl,_⟩:=id hv5;rw [<-hnL] at hv5⊢;have HXE:=af hv5;have HNL:=af hnL;clear hk5 hv5 hnL;go_wp2_with fail;go_loopg [12] n (fun kx s10 wr=>∃ k:Nat,k<=n/\s10=.int .i64 k/\n - k<=kx/\Hid (RatCell wr w3.heap.size (ai (ck L ps k)))/\Hid (ag w3 wr)/\Hid (am wr (.slice ae n ce) (aL L)))
 case atStart=>exact ⟨0,Nat.zero_le _,rfl,by omega,HC5,HK5,HXE⟩
 case round =>
  obtain ⟨k,hk,rfl,hkx,HX,HKr,HXI⟩:=hrel;by_cases hlt:k<n
  ·have hkn:(k:Int)<(n:Int):=by omega
   have hkL:k<L.length:=by have:=HN.out;omega
   obtain ⟨i,hi⟩:∃ i,i=L[k]:=⟨_,rfl⟩;have hil:i<m:=by rw [hi,HM.out];exact HLT.out _ (List.getElem_mem _)
   obtain ⟨ae',ce',he1,_,_,he2⟩:=HXI.out;injection he1 with he3 he4 he5
   subst he3;obtain ⟨be,oe,rfl,hce⟩:=he2 k (by rw [<-HNL.out];exact hlt);have e1:(aL L)[k]'(by rw [<-HNL.out];exact hlt)=(i:Int):=by rw [hi];simp [aL]
   rw [e1] at hce;have HST:Hid (ai (ck L ps (k+1))=ai (al (ai (ck L ps k))*al (ps.getD i default))):=af (by rw [ph ps hkL,ap,hi]);have hil':(i:Int)<(m:Int):=by omega
   have hi0:(0:Int)<=(i:Int):=by omega
   clear e1 hi hkL he2 he4 he5;have hkl:i<ps.length:=by have:=HM.out;omega
   have hsk:=HSH.out k (by have:=HN.out;omega)
   have hx3:(ps.getD i default).Short 3:=by
    have e:ps.getD i default=ps[i]:=by simp [List.getD_eq_getElem?_getD,hkl]
    rw [e];exact HP3.out _ (List.getElem_mem _)
   obtain ⟨b,o,u1,u2,rfl,hrg,hw1,hw2⟩:=HV.out.get i hkl;obtain ⟨a3,c3,rfl⟩:=hw1.shape;obtain ⟨a4,c4,rfl⟩:=hw2.shape;have HKw:=af (HK3.out.trans HKr.out);have hrg2:=bY hrg HKw.out;have y0:=hrg2 0 _ rfl;have y1:=hrg2 1 _ rfl;have y2:=hrg2 2 _ rfl;rw [Nat.add_zero] at y0;obtain ⟨a5,c5,a6,c6,⟨x0,x1,x2⟩,⟨f0,f1,f2⟩,hgl,hxa⟩:=HX.out.at
   have HML:Hid (∀ W,ag wr W->Calls Tryz.prog 103 #[.agg #[.bool (ai (ck L ps k)).neg,.slice a5 (ai (ck L ps k)).num.length c5,.slice a6 (ai (ck L ps k)).den.length c6],.agg #[.bool (ps.getD i default).neg,.slice a3 (ps.getD i default).num.length c3,.slice a4 (ps.getD i default).den.length c4]] W fun e w'=>(∃ v',e=.returned v'/\RatAt w' v' (ai (ck L ps (k+1))))/\ag W w'):=af fun W hk=>by
    rw [HST.out];exact lQ _ _ _ _ W (hxa.kept hk) ⟨_,_,rfl,hw1.kept (HKw.out.trans hk),hw2.kept (HKw.out.trans hk)⟩ ⟨Nat.le_trans hsk.1 (by omega),Nat.le_trans hsk.2 (by omega)⟩ ⟨Nat.le_trans hx3.1 (by omega),Nat.le_trans hx3.2 (by omega)⟩
   generalize (ps.getD i default).neg=z0 at *;generalize (ps.getD i default).num.length=z1 at *;generalize (ps.getD i default).den.length=z2 at *;generalize (ai (ck L ps k)).neg=z3 at *;generalize (ai (ck L ps k)).num.length=z4 at *;generalize (ai (ck L ps k)).den.length=z5 at *;clear hsk hx3 hrg hrg2 hw1 hw2 hxa hkl;go_wp2_with fail;go_region_with (go_at_call 103;(with_reducible refine (HML.out _ (ag.refl _).drew).mono ?_);rintro e w6 ⟨⟨v6,rfl,hv6⟩,hk6⟩;have hkd:=(ag.refl _).drew.trans hk6;have HX6:=af (HX.out.kept hkd);have HXI6:=af (HXI.out.kept hkd);have HK6:=af (HKr.out.trans hkd);obtain ⟨u7,u8,rfl,k7,k8⟩:=hv6;obtain ⟨a7,c7,rfl⟩:=k7.shape;obtain ⟨a8,c8,rfl⟩:=k8.shape;have K7:=af k7;have K8:=af k8;obtain ⟨_,_,_,_,⟨i0,i1,i2⟩,⟨j0,j1,j2⟩,hgl6,_⟩:=HX6.out.at;clear k7 k8 hk6 hkd)
   all_goals
    have HS:=af (HX6.out.store K7.out K8.out);have HSI:=af (HX6.out.ints HXI6.out);generalize (ai (ck L ps (k+1))).num.length=n7 at *;generalize (ai (ck L ps (k+1))).den.length=n8 at *;go_wp2_with fail;go_roundg (n - (k+1))
    case measure=>omega
    case rel=>exact ⟨k+1,by omega,by go_num,Nat.le_refl _,HS,af (((HK6.out.store (Nat.le_refl _) _ _).store (Nat.le_refl _) _ _).store (Nat.le_refl _) _ _),af (HSI.out _ _ _)⟩
  ·have hke:k=n:=by omega
   have hkn:¬ (k:Int)<(n:Int):=by omega
   have HX2:Hid (RatCell wr w3.heap.size R):=af (by rw [HRR.out,<-hke];exact HX.out);have hrr:=HR3.out.kept HKr.out;have HFF:=af (HF3.out.kept HKr.out);obtain ⟨a5,c5,a6,c6,⟨x0,x1,x2⟩,_,hgl,u7,u8,e9,k7,k8⟩:=HX2.out.at;simp only [Value.agg.injEq] at e9;have e9':=congrArg Array.toList e9;simp at e9';obtain ⟨rfl,rfl⟩:=e9';obtain ⟨y0,y1,y2,hra⟩:=aS hrr HFF.out k7 k8;have g0:=hrr.cell (i:=0) (by simp);have g1:=hrr.cell (i:=1) (by simp);have g2:=hrr.cell (i:=2) (by simp);have f0:=hrr.free 0;have f1:=hrr.free 1;have f2:=hrr.free 2;have HRA:=af hra;have Y0:=af y0;have Y1:=af y1;have Y2:=af y2;have HKw:=af (HK3.out.trans HKr.out);clear hra y0 y1 y2 k7 k8 hrr e9 hke;generalize R.num.length=n7 at *;generalize R.den.length=n8 at *;go_wp2;refine bodyPost_ret (v:=.agg #[.bool R.neg,.slice a5 n7 c5,.slice a6 n8 c6]) ?_ rfl ⟨⟨_,rfl,HRA.out⟩,?_⟩
   ·simp [results,Tryz.results104,go_sem,Y0.out,Y1.out,Y2.out]
   ·exact ((HKw.out.store (Nat.le_refl _) _ _).store (Nat.le_refl _) _ _).store (Nat.le_refl _) _ _
theorem aH.cell {w:World} {a:Option Addr} {c m:Nat} {ns:List Nat} (h:aH w (.slice a m c) ns) (i:Nat) (hi:i<ns.length):∃ b o,a=some ⟨b,o,none⟩/\w.cell? ⟨b,o+i,none⟩=some (.int .i64 (ns[i]:Nat)):=by
 obtain ⟨⟨a',c',h1,_,_,h3⟩,_⟩:=h;cases h1;obtain ⟨b,o,h4,h5⟩:=h3 i (by simpa using hi);exact ⟨b,o,h4,by simpa using h5⟩
theorem ws (a b:Nat):(a &&& b=a) ↔ aZ a b=true:=by
 rw [a_];constructor
 ·intro h i hi;have h1:(a &&& b).testBit i=true:=by rw [h];exact hi
  simp at h1;exact h1.2
 ·intro h;apply Nat.eq_of_testBit_eq;intro i;simp only [Nat.testBit_and];cases ha:a.testBit i with
  | false=>simp
  | true=>simp [h i ha]
def partN (a b:Nat):Bool:=decide (a≠b)&&aZ a b
theorem AQ {a b:Nat} (ha:Mk a) (hb:Mk b) (w:World):Calls Tryz.prog 223 #[.int .i64 a,.int .i64 b] w fun e w'=>e=.returned (.bool (partN a b))/\w=w':=by
 have hand:bits .and .i64 (a:Int) (b:Int)=((a &&& b:Nat):Int):=jz a b (by unfold Mk at ha;omega) (by unfold Mk at hb;omega);clear ha hb;by_cases e:a=b
 ·have h1:partN a b=false:=by unfold partN;simp [e]
  rw [h1];have ee:((a:Int) == (b:Int))=true:=by simp;omega
  have ee2:((a:Int) != (b:Int))=false:=by simp;omega
  clear e h1;go_enter Tryz.func223,Tryz.ntmps223;go_wp2;go_ret;exact ⟨rfl,rfl⟩
 ·have h1:partN a b=aZ a b:=by unfold partN;simp [e]
  rw [h1];have ee:((a:Int) == (b:Int))=false:=by simp;omega
  have ee2:((a:Int) != (b:Int))=true:=by simp;omega
  clear e h1;cases hs:aZ a b with
  | true =>
   have h2:(((a &&& b:Nat):Int) == (a:Int))=true:=by have:=(ws a b).2 hs;simp;omega
   clear hs;generalize (a &&& b:Nat)=z at hand h2;go_enter Tryz.func223,Tryz.ntmps223;go_wp2;go_ret;exact ⟨rfl,rfl⟩
  | false =>
   have h2:(((a &&& b:Nat):Int) == (a:Int))=false:=by
    have:¬ (a &&& b=a):=fun h=>by rw [(ws a b).1 h] at hs;cases hs
    simp;omega
   clear hs;generalize (a &&& b:Nat)=z at hand h2;go_enter Tryz.func223,Tryz.ntmps223;go_wp2;go_ret;exact ⟨rfl,rfl⟩
theorem xZ (ns:List Nat) (hs:ns.Pairwise dP) (k:Nat) (hk:k<ns.length):((ns.take k).foldl aG []).any (fun x=>partN x ns[k])=((ns.take k).foldl aG []).any (fun x=>aZ x ns[k]):=by
 rw [Bool.eq_iff_iff,List.any_eq_true,List.any_eq_true]
 have hne:∀ x∈(ns.take k).foldl aG [],x≠ns[k]:=by
  intro x hx e;rcases lD _ _ _ hx with h | h
  ·cases h
  ·obtain ⟨i,hi,rfl⟩:=List.getElem_of_mem h;simp only [List.length_take] at hi;rw [List.getElem_take] at e;have:=List.pairwise_iff_getElem.1 hs i k (by omega) hk (by omega);rw [e] at this;exact dI _ this
 constructor
 ·rintro ⟨x,hx,h⟩;refine ⟨x,hx,?_⟩;unfold partN at h;simp at h;exact h.2
 ·rintro ⟨x,hx,h⟩;refine ⟨x,hx,?_⟩;unfold partN;simp [hne x hx,h]
theorem yb (ns:List Nat) (v:Value) (w:World) (hv:aH w v ns) (hl:ns.length<=8796093022208) :
  Calls Tryz.prog 159 #[v] w fun e w'=>(∃ v',e=.returned v'/\aF w' w.heap.size v' (aP ns))/\ag w w':=by
 have HS:=af (qI ns.length ns v w (Nat.le_refl _) hv hl);obtain ⟨a,c,rfl,hc,_⟩:=hv.shape;obtain ⟨ss,hss⟩:∃ ss,ss=aQ ns:=⟨_,rfl⟩;have hps:ss.Pairwise dP:=by rw [hss];exact cW ns
 have hsl:ss.length<=ns.length:=by rw [hss];exact ga ns
 have hmin:aP ns=ss.foldl aG []:=by rw [hss];rfl
 have hmk:∀ n∈ss,Mk n:=by rw [hss];exact fun n hn=>hv.2 n ((ci ns n).1 hn)
 rw [<-hss] at HS;rw [hmin];have HM:=af hmk;have HP:=af hps;clear hss hmin hmk hps hv;go_enter Tryz.func159,Tryz.ntmps159;go_wp2_with fail;refine HS.out.mono ?_;rintro e w1 ⟨⟨v1,rfl,ho1⟩,hk1⟩;have HV:=af ho1.sets;have HK1:=af hk1;obtain ⟨b1,c1,rfl,hc1,_⟩:=ho1.sets.shape;obtain ⟨n,hn⟩:∃ n,n=ss.length:=⟨_,rfl⟩;rw [<-hn] at HV hc1 hsl⊢;have HN:=af hn;clear ho1 hk1 hn HS;go_wp2_with fail;go_loopw [3,5,6,8,12,16,17,18] (fun vo _ _ _ i _ _ _ wr=>∃ (k:Nat),k<=n/\i=.int .i64 k/\OwnInts wr w1.heap.size vo (aL ((ss.take k).foldl aG []))/\ag w1 wr) (fun _ _ _ _ i _ _ _ _=>n - (intOf i).toNat)
 case atStart=>exact ⟨0,Nat.zero_le _,rfl,OwnInts.nil _ _,ag.refl _⟩
 case round =>
  obtain ⟨k,hk,rfl,hO,hKr⟩:=hrel;have HO:=af hO;have HKr:=af hKr;have hsz:=hKr.size;clear hO hKr;by_cases hlt:k<n
  ·have hkx:k<ss.length:=by have:=HN.out;omega
   obtain ⟨b,o,rfl,hcell0⟩:=HV.out.cell k hkx;have hcell:=HKr.out.cell hcell0;have hkp:=xZ ss HP.out k hkx;have hms:=HM.out _ (List.getElem_mem hkx);have htk:(ss.take (k+1)).foldl aG []=aG ((ss.take k).foldl aG []) ss[k]:=by rw [List.take_succ_eq_append_getElem hkx,List.foldl_append];rfl
   have hma:∀ x∈(ss.take k).foldl aG [],Mk x:=fun x hx=>by
    rcases lD _ _ _ hx with h | h
    ·cases h
    ·exact HM.out x (List.mem_of_mem_take h)
   have hla:((ss.take k).foldl aG []).length<=k:=by
    have:=oG (ss.take k) [];simp at this;omega
   obtain ⟨s,hs⟩:∃ s,s=ss[k]:=⟨_,rfl⟩;rw [<-hs] at hcell hkp hms htk;obtain ⟨acc,hacc⟩:∃ x,x=(ss.take k).foldl aG []:=⟨_,rfl⟩;rw [<-hacc] at HO hkp htk hma hla;have HKP:=af hkp;have HTK:=af htk;have HMA:=af hma;have HMS:=af hms;have ho3:=OwnInts.ints HO.out;obtain ⟨ao,no,co,rfl⟩:=ho3.shape;have hal:no=acc.length:=by obtain ⟨_,_,h,_⟩:=ho3;cases h;simp
   subst hal;have HSO:Hid (aH wr (.slice ao acc.length co) acc):=af ⟨ho3,HMA.out⟩;obtain ⟨m,hm⟩:∃ m,m=acc.length:=⟨_,rfl⟩;rw [<-hm] at HSO HO hla⊢;have HML:=af hm;clear hcell0 hkp htk hma hms hs hacc ho3 hm;go_wp2_with fail;obtain ⟨wo,rfl⟩:∃ wo:World,wo=wr:=⟨_,rfl⟩;go_loop [6,8,18] (fun sm _ j=>∃ q:Nat,q<=m/\j=.int .i64 q/\sm=.bool (!((acc.take q).any fun x=>partN x s))) (fun _ _ j=>m - (intOf j).toNat)
   case atStart=>exact ⟨0,Nat.zero_le _,rfl,rfl⟩
   case round =>
    obtain ⟨q,hq,rfl,rfl⟩:=hrel;by_cases hqm:q<m
    ·have hqx:q<acc.length:=by have:=HML.out;omega
     obtain ⟨b2,o2,rfl,hcell2⟩:=HSO.out.cell q hqx;have hmx:=HMA.out _ (List.getElem_mem hqx)
     have hst:(acc.take (q+1)).any (fun x=>partN x s)=((acc.take q).any (fun x=>partN x s)||partN acc[q] s):=by
      rw [List.take_succ_eq_append_getElem hqx,List.any_append];simp
     obtain ⟨x,hx⟩:∃ x,x=acc[q]:=⟨_,rfl⟩;rw [<-hx] at hcell2 hmx hst;have HP2:Hid (∀ W,Calls Tryz.prog 223 #[.int .i64 x,.int .i64 s] W fun e w'=>e=.returned (.bool (partN x s))/\W=w'):=af fun W=>AQ hmx HMS.out W
     have HST:=af hst;clear hx hmx hst;cases hb1:(acc.take q).any fun x=>partN x s with
     | true =>
      have HB1:=af hb1;clear hb1;go_wp2_with (go_at_call 223;refine (HP2.out _).mono ?_;rintro e w' ⟨rfl,rfl⟩);go_round
      case rel=>exact ⟨q+1,by omega,by go_num,by rw [HST.out,HB1.out];rfl⟩
      case measure=>simp [intOf];omega
     | false =>
      have HB1:=af hb1;clear hb1;go_wp2_with (go_at_call 223;refine (HP2.out _).mono ?_;rintro e w' ⟨rfl,rfl⟩);go_round
      case rel=>exact ⟨q+1,by omega,by go_num,by rw [HST.out,HB1.out];rfl⟩
      case measure=>simp [intOf];omega
    ·have hqe:acc.take q=acc:=List.take_of_length_le (by have:=HML.out;omega);rw [hqe,HKP.out];cases hb1:acc.any fun x=>aZ x s with
     | true =>
      have HKN:Hid ((ss.take (k+1)).foldl aG []=acc):=af (by rw [HTK.out,aG,if_pos hb1]);clear hb1 hqe;go_wp2;go_roundw
      case rel=>exact ⟨k+1,by omega,by go_num,by rw [HKN.out];exact HO.out,HKr.out⟩
      case measure=>simp [intOf];omega
     | false =>
      have HKN:Hid ((ss.take (k+1)).foldl aG []=acc++[s]):=af (by rw [HTK.out,aG,if_neg (by rw [hb1];simp)]);clear hb1 hqe;go_wp2_with (at_builtin;refine eA rfl _ _ rfl w1.heap.size _ (aL acc) rfl (HO.out.kept ((ag.refl _).alloc _)) _ (s:Int) rfl (by simp) (by simp;have:=HML.out;omega) (by simp;omega) ?_;intro v7 w7 hown7 _ hb7;have O7:=af hown7;have HB7:=af hb7;clear hown7 hb7);go_roundw
      case rel=>exact ⟨k+1,by omega,by go_num,by rw [HKN.out];simpa [aL] using O7.out,(HKr.out.alloc _).app HB7.out⟩
      case measure=>simp [intOf];omega
  ·have hfull:ss.take k=ss:=List.take_of_length_le (by have:=HN.out;omega);rw [hfull] at HO;clear hfull;go_wp2;go_ret
   exact ⟨⟨_,rfl,⟨HO.out.mono HK1.out.size,fun x hx=>by
    rcases lD _ _ _ hx with h | h
    ·cases h
    ·exact HM.out x h⟩⟩,HK1.out.trans HKr.out⟩
theorem ya (ns:List Nat) (v:Value) (w:World) (hv:aH w v ns) (hl:ns.length<=8796093022208) :
  Calls Tryz.prog 159 #[v] w fun e w'=>(∃ v',e=.returned v'/\aF w' 0 v' (aP ns))/\ag w w' :=
 (yb ns v w hv hl).mono fun _ _ ⟨⟨v',h1,h2⟩,h3⟩=>⟨⟨v',h1,⟨h2.1.mono (Nat.zero_le _),h2.2⟩⟩,h3⟩
def DS (xs:List Int):Bool:=xs.all fun x=>decide (0<=x/\x<=16777215)
def dg (xs:List Int):Nat:=if 1024<xs.length then 4 else if DS xs=true then 0 else 3
def aC (xs:List Int):List Nat:=xs.map Int.toNat
def c_ (xs:List Int):Nat:=if dg xs≠0 then dg xs else if aC xs≠aQ (aC xs) then 13 else if aC xs≠aP (aC xs) then 2 else 0
theorem lJ {xs:List Int}:DS xs=true ↔ ∀ x∈xs,0<=x/\x<=16777215:=by
 unfold DS;rw [List.all_eq_true];exact ⟨fun h x hx=>of_decide_eq_true (h x hx),fun h x hx=>decide_eq_true (h x hx)⟩
theorem lF {xs:List Int} (h:DS xs=true):xs=aL (aC xs)/\∀ n∈aC xs,Mk n:=by
 have h:=lJ.1 h;refine ⟨?_,fun n hn=>?_⟩
 ·unfold aL aC;rw [List.map_map]
  have:xs.map ((fun (n:Nat)=>(n:Int)) ∘ Int.toNat)=xs.map id:=List.map_congr_left fun x hx=>by
   have:=h x hx;simp only [Function.comp,id];omega
  first | (rw [this,List.map_id]) | (rw [List.map_id] at this;exact this.symm)
 ·obtain ⟨x,hx,rfl⟩:=List.mem_map.1 hn;have:=h x hx;unfold Mk;omega
theorem ue {xs:List Int} (h:dg xs=0):xs.length<=1024/\DS xs=true:=by
 unfold dg at h;split at h
 ·omega
 ·split at h
  ·exact ⟨by omega,by assumption⟩
  ·omega
theorem xI (xs:List Int):dg xs=0\/dg xs=3\/dg xs=4:=by unfold dg;split <;> first | (exact .inr (.inr rfl)) | (split <;> first | exact .inl rfl | exact .inr (.inl rfl))
theorem xb {a b:List Nat}:aL a=aL b ↔ a=b:=by
 unfold aL
 exact ⟨fun h=>by
  have:=congrArg (List.map Int.toNat) h;simpa [List.map_map,Function.comp_def] using this,fun h=>by rw [h]⟩
theorem qk (xs ys:List Int) (va vb:Value) (w:World) (ha:am w va xs) (hb:am w vb ys):Calls Tryz.prog 153 #[va,vb] w fun e w'=>e=.returned (.bool (decide (xs=ys)))/\ag w w':=by
 obtain ⟨aa,ca,rfl,_,hla,hca⟩:=ha;obtain ⟨ab,cb,rfl,_,hlb,hcb⟩:=hb;by_cases hl:xs.length=ys.length
 ·by_cases h0:xs=[]
  ·subst h0;have h1:ys=[]:=List.eq_nil_of_length_eq_zero hl.symm;subst h1;exact (Go.Proofs.Tryz.slices_Equal_int_empty aa ab ca 0 cb w (by omega)).mono fun e w' ⟨h1,h2⟩=>⟨by rw [h1];simp,by subst h2;exact ag.refl _⟩
  ·have hp:0<xs.length:=List.length_pos_iff.2 h0;obtain ⟨b1,o1,rfl,_⟩:=hca 0 hp;obtain ⟨b2,o2,rfl,_⟩:=hcb 0 (by omega);refine (Go.Proofs.Tryz.slices_Equal_int b1 o1 xs.length ca b2 o2 ys.length cb xs ys w (Nat.le_refl _) (Nat.le_refl _) (by omega) (by omega) ?_ ?_).mono fun e w' ⟨h1,q,h2⟩=>⟨by rw [h1,List.take_length,List.take_length,show (xs == ys)=decide (xs=ys) by rw [Bool.eq_iff_iff];simp],by subst h2;exact (ag.refl _).drewN _⟩
   ·intro j hj;obtain ⟨b,o,h1,h2⟩:=hca j hj;cases h1;rw [h2];simp [hj]
   ·intro j hj;obtain ⟨b,o,h1,h2⟩:=hcb j hj;cases h1;rw [h2];simp [hj]
 ·refine (Go.Proofs.Tryz.slices_Equal_int_lens aa ab xs.length ca ys.length cb w hl).mono fun e w' ⟨h1,h2⟩=>⟨?_,by subst h2;exact ag.refl _⟩
  rw [h1,decide_eq_false (fun h=>hl (by rw [h]))]
theorem ye (g:Nat) (va:Value) (xs:List Int) (w:World) (hc:w.cell? ⟨g,0,none⟩=some va) (hv:am w va xs) :
  Calls Tryz.prog 152 #[.slice (some ⟨g,0,none⟩) 1 1] w fun e w'=>e=.returned (aY (dg xs))/\w=w':=by
 obtain ⟨a,c,rfl,_,hl,hx⟩:=hv;obtain ⟨m,hm⟩:∃ m,m=xs.length:=⟨_,rfl⟩;rw [<-hm] at hc;have hm9:m<=140737488355328:=by omega
 have HX:=af hx;have HM:=af hm;have HC:=af hc;clear hx hm hl hc;go_enter Tryz.func152,Tryz.ntmps152;go_wp2;go_loopg [9] 1 (fun kx s9 wr=>∃ k:Nat,k<=1/\s9=.int .i64 k/\1 - k<=kx/\Hid (k=1->dg xs=0)/\w=wr)
 case atStart=>exact ⟨0,by omega,rfl,by omega,af (fun h=>by omega),rfl⟩
 case round =>
  obtain ⟨k,hk,rfl,hkx,HE,rfl⟩:=hrel;by_cases hk1:k=1
  ·subst hk1;have HE0:=af (HE.out rfl);go_wp2;go_ret;exact ⟨by rw [HE0.out];rfl,rfl⟩
  ·have hk0:k=0:=by omega
   subst hk0;have hcell:=HC.out;by_cases hlen:m<=1024
   ·have hl1:¬ (1024:Int)<(m:Int):=by omega
    go_wp2;go_loopg [19] m (fun kx s19 wq=>∃ q:Nat,q<=m/\s19=.int .i64 q/\m - q<=kx/\Hid (∀ x∈xs.take q,0<=x/\x<=16777215)/\w=wq)
    case atStart=>exact ⟨0,Nat.zero_le _,rfl,by omega,af (by simp),rfl⟩
    case round =>
     obtain ⟨q,hq,rfl,hqx,HF,rfl⟩:=hrel;by_cases hqm:q<m
     ·have hqx:q<xs.length:=by have:=HM.out;omega
      obtain ⟨b2,o2,rfl,hcell2⟩:=HX.out q hqx;obtain ⟨s,hs⟩:∃ s,s=xs[q]:=⟨_,rfl⟩;rw [<-hs] at hcell2;have HS:=af hs;have hqi:(q:Int)<(m:Int):=by omega
      cases hd:decide (0<=s/\s<=16777215) with
      | true =>
       have HVA:Hid (∀ W,Calls Tryz.prog 217 #[.int .i64 s] W fun e w'=>e=.returned (.bool true)/\W=w'):=af fun W=>by have:=mV s W;rwa [hd] at this
       have HD:=af (of_decide_eq_true hd);clear hd hs;go_wp2_with (go_at_call 217;refine (HVA.out _).mono ?_;rintro e w' ⟨rfl,rfl⟩);go_roundg (m - (q+1))
       case measure=>omega
       case rel=>exact ⟨q+1,by omega,by go_num,Nat.le_refl _,af (fun y hy=>by
        rw [List.take_succ_eq_append_getElem hqx] at hy;rcases List.mem_append.1 hy with hy | hy
        ·exact HF.out y hy
        ·simp at hy;rw [hy,<-HS.out];exact HD.out),rfl⟩
      | false =>
       have HVA:Hid (∀ W,Calls Tryz.prog 217 #[.int .i64 s] W fun e w'=>e=.returned (.bool false)/\W=w'):=af fun W=>by have:=mV s W;rwa [hd] at this
       have HD:=af (of_decide_eq_false hd)
       have HER:Hid (dg xs=3):=af (by
        unfold dg;rw [if_neg (by have:=HM.out;omega),if_neg];intro h;exact HD.out (lJ.1 h s (by rw [HS.out];exact List.getElem_mem _)))
       clear hd hs;go_wp2_with (go_at_call 217;refine (HVA.out _).mono ?_;rintro e w' ⟨rfl,rfl⟩);go_ret;exact ⟨by rw [HER.out];rfl,rfl⟩
     ·have HE0:Hid (dg xs=0):=af (by
       have hf:=HF.out;rw [List.take_of_length_le (by have:=HM.out;omega)] at hf;unfold dg;rw [if_neg (by have:=HM.out;omega),if_pos (lJ.2 hf)])
      have hqi:¬ (q:Int)<(m:Int):=by omega
      go_wp2;go_roundg 0
      case measure=>omega
      case rel=>exact ⟨1,by omega,by go_num,by omega,af (fun _=>HE0.out),rfl⟩
   ·have hl1:(1024:Int)<(m:Int):=by omega
    have HER:Hid (dg xs=4):=af (by unfold dg;rw [if_pos (by have:=HM.out;omega)]);go_wp2;go_ret;exact ⟨by rw [HER.out];rfl,rfl⟩
theorem xN (l:List Nat):∀ out,(l.foldl aG out).Sublist (out++l):=by
 induction l with
 | nil=>intro out;simp
 | cons s l ih =>
  intro out;have h:=ih (aG out s);show (l.foldl aG (aG out s)).Sublist _;unfold aG at h⊢;split at h
  ·rename_i hk;rw [if_pos hk];exact h.trans ((List.Sublist.refl out).append (List.sublist_cons_self s l))
  ·rename_i hk;rw [if_neg hk];simpa using h
theorem sP {ns:List Nat} (h:ns=aQ ns):(aP ns).length=ns.length ↔ ns=aP ns:=by
 constructor
 ·intro hl
  have hs:(aP ns).Sublist ns:=by
   unfold aP;rw [<-h];exact xN ns []
  exact (hs.eq_of_length hl).symm
 ·intro he;rw [<-he]
theorem uk (va:Value) (xs:List Int) (w:World) (hv:am w va xs) :
  Calls Tryz.prog 94 #[va] w fun e w'=>e=.returned (aY (c_ xs))/\ag w w':=by
 have HL:Hid (Calls Tryz.prog 152 #[.slice (some ⟨w.heap.size,0,none⟩) 1 1] (w.alloc (.cells #[va] 22)) fun e w'=>e=.returned (aY (dg xs))/\ag w w'):=af
  ((ye w.heap.size va xs _ (by simp) (hv.kept ((ag.refl _).alloc _))).mono fun _ _ ⟨h1,h2⟩=>⟨h1,by rw [<-h2];exact (ag.refl _).alloc _⟩)
 have HV:=af hv;obtain ⟨a,c,hva,_⟩:=id hv;subst hva;obtain ⟨m,hm⟩:∃ m,m=xs.length:=⟨_,rfl⟩;rw [<-hm] at HL HV⊢;have HM:=af hm;clear hm hv;rcases Nat.eq_zero_or_pos (dg xs) with he | he
 ·obtain ⟨hl,hok⟩:=ue he;obtain ⟨hxs,hmk⟩:=lF hok;have hchk:c_ xs=if aC xs≠aQ (aC xs) then 13 else if aC xs≠aP (aC xs) then 2 else 0:=by unfold c_;rw [if_neg (by omega)]
  rw [hchk];obtain ⟨ns,hns⟩:∃ ns,ns=aC xs:=⟨_,rfl⟩;rw [<-hns] at hxs hmk⊢;have hlm:m=ns.length:=by rw [HM.out,hns];unfold aC;rw [List.length_map]
  have HVS:Hid (aH w (.slice a m c) ns):=af ⟨by rw [<-hxs];exact HV.out,hmk⟩;have hnl:ns.length<=1024:=by rw [<-hlm,HM.out];exact hl
  have HE:=af he;rw [he,aW] at HL
  have HS:Hid (∀ W,ag w W->Calls Tryz.prog 154 #[.slice a m c] W fun e w'=>(∃ v',e=.returned v'/\am w' v' (aL (aQ ns)))/\ag W w'):=af fun W hk=>by
   refine (pM _ ns W hmk (HVS.out.kept hk).1 (by omega)).mono ?_;rintro e w' ⟨v',h1,h2,h3⟩;exact ⟨⟨v',h1,h2.ints⟩,h3⟩
  have HMN:Hid (∀ W,ag w W->Calls Tryz.prog 155 #[.slice a m c] W fun e w'=>(∃ v',e=.returned v'/\aH w' v' (aP ns))/\ag W w'):=af fun W hk=>by
   refine (db _ ns W (HVS.out.kept hk) (by omega)).mono ?_;rintro e w' ⟨v',h1,h2,h3⟩;exact ⟨⟨v',h1,h2.sets⟩,h3⟩
  have HLM:=af hlm;clear hxs hmk hns hl hok he hchk hlm hnl;by_cases h1:ns=aQ ns
  ·have HEQ:Hid (∀ W vb,ag w W->am W vb (aL (aQ ns))->Calls Tryz.prog 153 #[.slice a m c,vb] W fun e w'=>e=.returned (.bool true)/\ag W w'):=af fun W vb hk hb=>by
    have h:=qk (aL ns) (aL (aQ ns)) (.slice a m c) vb W (HVS.out.kept hk).1 hb
    rwa [decide_eq_true (by rw [<-h1])] at h
   rw [if_neg (fun h=>h h1)];have hiff:=sP h1;obtain ⟨z,hz⟩:∃ z,z=(aP ns).length:=⟨_,rfl⟩;have HZ:=af hz;rw [<-hz,<-HLM.out] at hiff;by_cases h2:ns=aP ns
   ·rw [if_neg (fun h=>h h2)];have hzm:z=m:=hiff.2 h2;have hb:((z:Int) != (m:Int))=false:=by rw [hzm];simp
    clear hiff h1 h2 hz;go_enter Tryz.func94,Tryz.ntmps94;go_wp2_with fail;refine HL.out.mono ?_;rintro e w1 ⟨rfl,hk1⟩;have K1:=af hk1;clear hk1
    go_wp2_with (first
     | (go_at_call 154;refine (HS.out _ K1.out).mono ?_;rintro e w2 ⟨⟨v2,rfl,hv2⟩,hk2⟩;have HV2:=af hv2;have K2:=af (K1.out.trans hk2);clear hv2 hk2)
     | (go_at_call 153;refine (HEQ.out _ _ K2.out HV2.out).mono ?_;rintro e w3 ⟨rfl,hk3⟩;have K3:=af (K2.out.trans hk3);clear hk3)
     | (go_at_call 155;refine (HMN.out _ K3.out).mono ?_;rintro e w4 ⟨⟨v4,rfl,hv4⟩,hk4⟩;obtain ⟨a4,c4,rfl,_,_⟩:=hv4.shape;rw [<-HZ.out];have K4:=af (K3.out.trans hk4);clear hk4 hv4))
    go_ret;exact ⟨rfl,K4.out⟩
   ·rw [if_pos h2];have hzm:z≠m:=fun h=>h2 (hiff.1 h)
    have hb:((z:Int) != (m:Int))=true:=by simp [bne];omega
    have hzi:¬ (z:Int)=(m:Int):=by omega
    clear hiff h1 h2 hz;go_enter Tryz.func94,Tryz.ntmps94;go_wp2_with fail;refine HL.out.mono ?_;rintro e w1 ⟨rfl,hk1⟩;have K1:=af hk1;clear hk1
    go_wp2_with (first
     | (go_at_call 154;refine (HS.out _ K1.out).mono ?_;rintro e w2 ⟨⟨v2,rfl,hv2⟩,hk2⟩;have HV2:=af hv2;have K2:=af (K1.out.trans hk2);clear hv2 hk2)
     | (go_at_call 153;refine (HEQ.out _ _ K2.out HV2.out).mono ?_;rintro e w3 ⟨rfl,hk3⟩;have K3:=af (K2.out.trans hk3);clear hk3)
     | (go_at_call 155;refine (HMN.out _ K3.out).mono ?_;rintro e w4 ⟨⟨v4,rfl,hv4⟩,hk4⟩;obtain ⟨a4,c4,rfl,_,_⟩:=hv4.shape;rw [<-HZ.out];have K4:=af (K3.out.trans hk4);clear hk4 hv4))
    go_ret;exact ⟨rfl,K4.out⟩
  ·have HEQ:Hid (∀ W vb,ag w W->am W vb (aL (aQ ns))->Calls Tryz.prog 153 #[.slice a m c,vb] W fun e w'=>e=.returned (.bool false)/\ag W w'):=af fun W vb hk hb=>by
    have h:=qk (aL ns) (aL (aQ ns)) (.slice a m c) vb W (HVS.out.kept hk).1 hb
    rwa [decide_eq_false (fun h=>h1 (xb.1 h))] at h
   rw [if_pos h1];clear h1;go_enter Tryz.func94,Tryz.ntmps94;go_wp2_with fail;refine HL.out.mono ?_;rintro e w1 ⟨rfl,hk1⟩;have K1:=af hk1;clear hk1
   go_wp2_with (first
    | (go_at_call 154;refine (HS.out _ K1.out).mono ?_;rintro e w2 ⟨⟨v2,rfl,hv2⟩,hk2⟩;have HV2:=af hv2;have K2:=af (K1.out.trans hk2);clear hv2 hk2)
    | (go_at_call 153;refine (HEQ.out _ _ K2.out HV2.out).mono ?_;rintro e w3 ⟨rfl,hk3⟩;have K3:=af (K2.out.trans hk3);clear hk3))
   go_ret;exact ⟨rfl,K3.out⟩
 ·have hchk:c_ xs=dg xs:=by unfold c_;rw [if_pos (by omega)]
  rw [hchk];obtain ⟨q,hq⟩:∃ q,q=dg xs:=⟨_,rfl⟩;rw [<-hq] at HL he⊢;have hqe:aY q=.iface 60 (.int .i64 q):=aN (by omega);rw [hqe] at HL⊢;clear hchk hq hqe;go_enter Tryz.func94,Tryz.ntmps94;go_wp2_with fail;refine HL.out.mono ?_;rintro e w1 ⟨rfl,hk1⟩;go_wp2;go_ret;exact ⟨rfl,hk1⟩
end Go.Proofs.YtofibjflkebkpaaGreatDoor
