import Derived.WalkKit
import Derived.WalkSpells
import Derived.WalkLawsBesides
import Derived.Deep.QuietTactic
import Derived.BigQuiet
import Derived.Lib.Hide
import Derived.Shelf.Abstract
import Derived.Deep.RegionWith
import Derived.Laws.AppendOwnNone
import Derived.Lib.AppendZerosOnto
import Derived.Lib.SliceRun
import Derived.Lib.SlicesCompact
import Derived.Shelf.SlSortCmp.NoneTotal
import Derived.Maps.OwnOps
import Derived.Maps.OwnSet
import Derived.Maps.Views
import Derived.Deep.MidRow
import Derived.Deep.RegionHeld3
import Derived.Deep.AppendLies
import Derived.Deep.RegionLaw
import Derived.IntWalk
import Derived.StillTailTactics
import Derived.RegionTactic
import Derived.BigRegion
import Derived.ChangeAlike
import Derived.Sort.LotD2
import Derived.Sort.LotA
import Derived.Shelf.SlSortCmp.PdqK
import Derived.Deep.DeepCutAuto
import Derived.Lib.ItoaNum
import Derived.Deep.LoopGhost
import Derived.ProofKit
import Derived.OpenShut
import Derived.SizedLaws
import Derived.Lib.SmallJoins
import Derived.Deep.Slices
import Derived.Deep.Fields
import Derived.Deep.Strs
import Derived.Carry
import Derived.Lib.BitFns
import Derived.Deep.CutBlock
import Derived.Laws.IdiomStrings
import Derived.Test.YtofibjflkebkpaaGreatDoorEG10
import Derived.Test.YtofibjflkebkpaaGreatDoorEG8
import Derived.Test.YtofibjflkebkpaaGreatDoorEG4
import Derived.Test.YtofibjflkebkpaaGreatDoorEG1
import Derived.Test.YtofibjflkebkpaaGreatDoorEG7
import Derived.Test.YtofibjflkebkpaaGreatDoorChecked
import Derived.Test.YtofibjflkebkpaaGreatDoorRows
import Derived.Lay
import Derived.Stop.Joined
import Derived.Test.YtofibjflkebkpaaGreatDoorCards
import Derived.Test.YtofibjflkebkpaaGreatDoorTie
import Derived.LaidMore
import Derived.SevenTiedAt
set_option maxRecDepth 100000
set_option maxHeartbeats 16000000
namespace Go.Proofs.YtofibjflkebkpaaGreatDoor
open Go.RowKit
theorem qI (v:Value) (a b:Rat) (w:World) (hv:SpanV w v (ah a) (ah b)) (ha:(ah a).Short 200000) (hb:(ah b).Short 200000) (hab:a<=b):Calls Tryz.prog 84 #[v] w fun e w'=>(∃ v',e=.returned v'/\SpanV w' v' (ah a) (ah b))/\af w w':=by
 have HVA:Hid (∀ W u,SpanV W u (ah a) (ah b)->Calls Tryz.prog 37 #[u] W fun e w'=>e=.returned (.bool true)/\af W w'):=ae fun W u h=>pl u a b W h ha hb hab
 have HOF:Hid (∀ W g,ArrAt W g 29 [ah a,ah b]->Calls Tryz.prog 140 #[.slice (some ⟨g,0,none⟩) 2 2] W fun e w'=>(∃ v',e=.returned v'/\SpanV w' v' (ah a) (ah b))/\af W w'):=ae fun W g h=>DF g a b W h ha hb hab
 obtain ⟨lo,hlo⟩:∃ lo,lo=ah a:=⟨_,rfl⟩;obtain ⟨hi,hhi⟩:∃ hi,hi=ah b:=⟨_,rfl⟩;rw [<-hlo,<-hhi] at HVA HOF hv⊢;clear ha hb hab hlo hhi;obtain ⟨n1,l1,m1,n2,l2,m2,a1,c1,a2,c2,a3,c3,a4,c4,w1,rfl,hw1,hs1,hk1,hsv,hz1⟩:=hv.box;obtain ⟨w2,hw2⟩:∃ w2,w2=w1.alloc (.cells #[.bool false,.slice none 0 0,.slice none 0 0,.bool false,.slice none 0 0,.slice none 0 0] 44):=⟨_,rfl⟩;have HS2:Hid (SpnAt w2 (w.heap.size+1) ⟨false,[],[]⟩ ⟨false,[],[]⟩):=ae (by rw [hw2,<-hz1];exact SpnAt.zero w1);have hk2:af w1 w2:=by rw [hw2];exact (af.refl _).alloc _
 have HSV:=ae (hsv.kept hk2);have HA:=ae (hs1.kept hk2);have HK2:=ae (hk1.trans hk2);have HW2:Hid (w2=(w.alloc (.cells #[.bool n1,.slice a1 l1 c1,.slice a2 m1 c2,.bool n2,.slice a3 l2 c3,.slice a4 m2 c4] 44)).alloc (.cells #[.bool false,.slice none 0 0,.slice none 0 0,.bool false,.slice none 0 0,.slice none 0 0] 44)):=ae (by rw [hw2,hw1]);clear hv hw1 hs1 hk1 hsv hz1 hw2 hk2;go_enter Tryz.func84,Tryz.ntmps84;go_wp2_with fail;rw [<-HW2.out];refine (HVA.out _ _ HSV.out).mono ?_;rintro e w3 ⟨rfl,hk3⟩;have HK3:=ae (HK2.out.trans hk3);have HS3:=ae (HS2.out.kept hk3);obtain ⟨n5,l5,m5,n6,l6,m6,a5,c5,a6,c6,a7,c7,a8,c8,x0,x1,x2,x3,x4,x5,hlx,HXL,HXH,_⟩:=(HA.out.kept hk3).read;obtain ⟨w4,hw4⟩:∃ w4,w4=w3.alloc (.cells #[.bool n5,.slice a5 l5 c5,.slice a6 m5 c6,.bool n6,.slice a7 l6 c7,.slice a8 m6 c8] 29):=⟨_,rfl⟩;have HAR:Hid (ArrAt w4 w3.heap.size 29 [lo,hi]):=ae (by rw [hw4];exact ArrAt.two HXL.out HXH.out);have HK4:Hid (af w3 w4):=ae (by rw [hw4];exact (af.refl _).alloc _);have HW4:=ae hw4;clear hk3 hw4;go_wp2_with fail;rw [<-HW4.out];refine (HOF.out _ _ HAR.out).mono ?_;rintro e w5 ⟨⟨v5,rfl,hv5⟩,hk5⟩;have HK5:=ae (HK3.out.trans (HK4.out.trans hk5));obtain ⟨q1,q2,q3,q4,q5,q6,r1,r2,r3,r4,r5,r6,r7,r8,w6,rfl,hw6,⟨⟨z0,p0⟩,⟨z1,p1⟩,⟨z2,p2⟩,⟨z3,p3⟩,⟨z4,p4⟩,⟨z5,p5⟩⟩,⟨f0,f1,f2,f3,f4,f5⟩,hl6,Y,HSP,_,_,HKP⟩:=(HS3.out.kept (HK4.out.trans hk5)).put hv5
 have HKE:=ae (HKP.out _ HK5.out (by omega));rw [hw6] at Y HSP HKE;clear hv5 hk5 hw6 x0 x1 x2 x3 x4 x5 hlx HKP;go_wp2;refine bodyPost_ret (v:=.agg #[.bool q1,.slice r1 q2 r2,.slice r3 q3 r4,.bool q4,.slice r5 q5 r6,.slice r7 q6 r8]) ?_ rfl ⟨⟨_,rfl,HSP.out⟩,HKE.out⟩;simp [results,Tryz.results84,go_sem,Y.out.1,Y.out.2.1,Y.out.2.2.1,Y.out.2.2.2.1,Y.out.2.2.2.2.1,Y.out.2.2.2.2.2]
theorem pI (v xv:Value) (a b x:Rat) (w:World) (hv:SpanV w v (ah a) (ah b)) (hx:RatAt w xv (ah x)) (ha:(ah a).Short 200000) (hb:(ah b).Short 200000) (hsx:(ah x).Short 400000) (hab:a<=x) (hxb:x<=b):Calls Tryz.prog 38 #[v,xv] w fun e w'=>e=.returned (.bool true)/\af w w':=by
 have HNO:Hid (∀ W u,SpanV W u (ah a) (ah b)->Calls Tryz.prog 84 #[u] W fun e w'=>(∃ v',e=.returned v'/\SpanV w' v' (ah a) (ah b))/\af W w'):=ae fun W u h=>qI u a b W h ha hb (Rat.le_trans hab hxb)
 have sh:∀ {y:Rat},(ah y).Short 200000->(ah y).Short 68719476736:=fun h=>⟨Nat.le_trans h.1 (by omega),Nat.le_trans h.2 (by omega)⟩
 have sh2:∀ {y:Rat},(ah y).Short 400000->(ah y).Short 68719476736:=fun h=>⟨Nat.le_trans h.1 (by omega),Nat.le_trans h.2 (by omega)⟩
 obtain ⟨S,hS⟩:∃ S,S=cO (a - x):=⟨_,rfl⟩;obtain ⟨T,hT⟩:∃ T,T=cO (x - b):=⟨_,rfl⟩
 have HC1:Hid (∀ W u1 u2,RatAt W u1 (ah a)->RatAt W u2 (ah x)->Calls Tryz.prog 29 #[u1,u2] W fun e w'=>e=.returned (.int .i64 S)/\af W w'):=ae fun W u1 u2 k1 k2=>by
  have h:=gA u1 u2 _ _ W k1 k2 (sh ha) (sh2 hsx);rw [al,al,<-hS] at h;exact h
 have HC2:Hid (∀ W u1 u2,RatAt W u1 (ah x)->RatAt W u2 (ah b)->Calls Tryz.prog 29 #[u1,u2] W fun e w'=>e=.returned (.int .i64 T)/\af W w'):=ae fun W u1 u2 k1 k2=>by
  have h:=gA u1 u2 _ _ W k1 k2 (sh2 hsx) (sh hb);rw [al,al,<-hT] at h;exact h
 have hS0:S<=0:=by rw [hS];exact (fb a x).2 hab
 have hT0:T<=0:=by rw [hT];exact (fb x b).2 hxb
 clear hS hT;obtain ⟨lo,hlo⟩:∃ lo,lo=ah a:=⟨_,rfl⟩;obtain ⟨hi,hhi⟩:∃ hi,hi=ah b:=⟨_,rfl⟩;obtain ⟨p,hp⟩:∃ p,p=ah x:=⟨_,rfl⟩;rw [<-hlo,<-hhi] at HNO hv;rw [<-hlo,<-hp] at HC1;rw [<-hhi,<-hp] at HC2;rw [<-hp] at hx;clear ha hb hab hsx hxb hlo hhi hp sh sh2;obtain ⟨n1,l1,m1,n2,l2,m2,a1,c1,a2,c2,a3,c3,a4,c4,w1,rfl,hw1,hs1,hk1,hsv,hz1⟩:=hv.box;obtain ⟨n3,l3,m3,a5,c5,a6,c6,w2,rfl,hw2,hc2,hk2,hr2,hz2⟩:=(hx.kept hk1).box;have HSV:=ae (hsv.kept hk2);have HA:=ae (hs1.kept hk2);have HC:Hid (RatCell w2 (w.heap.size+1) p):=ae (by rw [<-hz1];exact hc2);have HK2:=ae (hk1.trans hk2);have HW2:Hid (w2=(w.alloc (.cells #[.bool n1,.slice a1 l1 c1,.slice a2 m1 c2,.bool n2,.slice a3 l2 c3,.slice a4 m2 c4] 44)).alloc (.cells #[.bool n3,.slice a5 l3 c5,.slice a6 m3 c6] 29)):=ae (by rw [hw2,hw1]);have HZ1:=ae hz1;clear hv hx hw1 hs1 hk1 hsv hz1 hw2 hk2 hc2 hr2 hz2;go_enter Tryz.func38,Tryz.ntmps38;go_wp2_with fail;rw [<-HW2.out];refine (HNO.out _ _ HSV.out).mono ?_;rintro e w3 ⟨⟨v3,rfl,hv3⟩,hk3⟩;have HK3:=ae (HK2.out.trans hk3);have HC3:=ae (HC.out.kept hk3);obtain ⟨q1,q2,q3,q4,q5,q6,r1,r2,r3,r4,r5,r6,r7,r8,w4,rfl,hw4,⟨⟨z0,p0⟩,⟨z1,p1⟩,⟨z2,p2⟩,⟨z3,p3⟩,⟨z4,p4⟩,⟨z5,p5⟩⟩,⟨f0,f1,f2,f3,f4,f5⟩,hl6,_,_,HS4,HO4,HKP⟩:=(HA.out.kept hk3).put hv3;have HK4:=ae (HKP.out _ HK3.out (Nat.le_refl _))
 have HC4:Hid (RatCell w4 (w.heap.size+1) p):=ae (HC3.out.apartA (by omega) (HA.out.kept hk3) HO4.out);have HW4:=ae hw4;clear hv3 hk3 hw4 HKP;go_upto_region 2 with fail
 rw [<-HW4.out];clear p0 p1 p2 p3 p4 p5 f0 f1 f2 f3 f4 f5 hl6;obtain ⟨g1,g2,g3,g4,g5,g6,s1,s2,s3,s4,s5,s6,s7,s8,x0,x1,x2,x3,x4,x5,hlx,HXL,_,_⟩:=HS4.out.read;obtain ⟨t1,t2,t3,t4,t5,t6,t7,y0,y1,y2,hly,HXA⟩:=HC4.out.read;go_wp2_with fail;refine (HC1.out _ _ _ HXL.out HXA.out).mono ?_;rintro e w5 ⟨rfl,hk5⟩;have HK5:=ae (HK4.out.trans hk5);clear x0 x1 x2 x3 x4 x5 y0 y1 y2 hlx hly;obtain ⟨g1,g2,g3,g4,g5,g6,s1,s2,s3,s4,s5,s6,s7,s8,x0,x1,x2,x3,x4,x5,hlx,_,HXH,_⟩:=(HS4.out.kept hk5).read;obtain ⟨t1,t2,t3,t4,t5,t6,t7,y0,y1,y2,hly,HXB⟩:=(HC4.out.kept hk5).read;clear hk5;go_wp2_with fail;refine (HC2.out _ _ _ HXB.out HXH.out).mono ?_;rintro e w6 ⟨rfl,hk6⟩;go_wp2;go_ret;exact ⟨by first | rfl | simp [hT0],HK5.out.trans hk6⟩
theorem zk (v:Value) (a b:Rat) (la lb:List UInt8) (w:World) (hv:SpanV w v (ah a) (ah b)) (hab:a<=b) (ha:(ah a).Short 200000) (hb:(ah b).Short 200000)
  (hta:∀ W u,RatAt W u (ah a)->Calls Tryz.prog 44 #[u] W fun e w'=>e=.returned (.string ⟨la.toArray⟩)/\af W w') (htb:∀ W u,RatAt W u (ah b)->Calls Tryz.prog 44 #[u] W fun e w'=>e=.returned (.string ⟨lb.toArray⟩)/\af W w') (hla:la.length<=100) (hlb:lb.length<=100) :
  Calls Tryz.prog 45 #[v] w fun e w'=>e=.returned (.string ⟨(la++[46,46]++lb).toArray⟩)/\af w w':=by
 have HNO:Hid (∀ W u,SpanV W u (ah a) (ah b)->Calls Tryz.prog 84 #[u] W fun e w'=>(∃ v',e=.returned v'/\SpanV w' v' (ah a) (ah b))/\af W w'):=ae fun W u h=>qI u a b W h ha hb hab
 have HTA:=ae hta;have HTB:=ae htb;obtain ⟨lo,hlo⟩:∃ lo,lo=ah a:=⟨_,rfl⟩;obtain ⟨hi,hhi⟩:∃ hi,hi=ah b:=⟨_,rfl⟩;rw [<-hlo,<-hhi] at HNO hv;rw [<-hlo] at HTA;rw [<-hhi] at HTB
 have HS:Hid (((⟨la.toArray⟩:ByteArray)++(⟨#[46,46]⟩:ByteArray))++⟨lb.toArray⟩=⟨(la++[46,46]++lb).toArray⟩):=ae (by
  apply ByteArray.ext;rw [ByteArray.data_append,ByteArray.data_append];apply Array.toList_inj.1;simp)
 have hz1:¬ 9223372036854775807<la.length+2:=by omega
 have hz2:¬ 9223372036854775807<la.length+2+lb.length:=by omega
 clear ha hb hab hlo hhi hta htb hla hlb;obtain ⟨n1,l1,m1,n2,l2,m2,a1,c1,a2,c2,a3,c3,a4,c4,w1,rfl,hw1,hs1,hk1,hsv,hz1⟩:=hv.box;have HSV:=ae hsv;have HA:=ae hs1;have HK2:=ae hk1;have HW2:=ae hw1;clear hv hw1 hs1 hk1 hsv hz1;go_enter Tryz.func45,Tryz.ntmps45;go_wp2_with fail;rw [<-HW2.out];refine (HNO.out _ _ HSV.out).mono ?_;rintro e w3 ⟨⟨v3,rfl,hv3⟩,hk3⟩;have HK3:=ae (HK2.out.trans hk3);obtain ⟨q1,q2,q3,q4,q5,q6,r1,r2,r3,r4,r5,r6,r7,r8,w4,rfl,hw4,⟨⟨z0,p0⟩,⟨z1,p1⟩,⟨z2,p2⟩,⟨z3,p3⟩,⟨z4,p4⟩,⟨z5,p5⟩⟩,⟨f0,f1,f2,f3,f4,f5⟩,hl6,_,_,HS4,HO4,HKP⟩:=(HA.out.kept hk3).put hv3;have HK4:=ae (HKP.out _ HK3.out (Nat.le_refl _));have HW4:=ae hw4;clear hv3 hk3 hw4 HKP;go_upto_region 2 with fail
 rw [<-HW4.out];clear p0 p1 p2 p3 p4 p5 f0 f1 f2 f3 f4 f5 hl6;obtain ⟨g1,g2,g3,g4,g5,g6,s1,s2,s3,s4,s5,s6,s7,s8,x0,x1,x2,x3,x4,x5,hlx,HXL,HXH,_⟩:=HS4.out.read
 go_region_held3 (fun w'=>w'.cell? ⟨w.heap.size,0,none⟩=some (.bool g1)/\w'.cell? ⟨w.heap.size,1,none⟩=some (.slice s1 g2 s2)/\w'.cell? ⟨w.heap.size,2,none⟩=some (.slice s3 g3 s4)/\w'.cell? ⟨w.heap.size,3,none⟩=some (.bool g4)/\w'.cell? ⟨w.heap.size,4,none⟩=some (.slice s5 g5 s6)/\w'.cell? ⟨w.heap.size,5,none⟩=some (.slice s7 g6 s8))
  ((refine (fun hq:af w4 _=>⟨hq.cell x0,hq.cell x1,hq.cell x2,hq.cell x3,hq.cell x4,hq.cell x5⟩) ?_;repeat (with_reducible first | exact HKB.out | exact HKA.out | exact af.refl _ | apply af.drew)))
  (first
  | (go_at_call 44;(with_reducible refine (HTA.out _ _ (HXL.out.kept (by repeat (with_reducible first | exact af.refl _ | apply af.drew)))).mono ?_);rintro e w5 ⟨rfl,hk5⟩;have HKA:Hid (af w4 w5):=ae ((af.refl w4).drew.trans hk5);clear hk5)
  | (go_at_call 44;(with_reducible refine (HTB.out _ _ (HXH.out.kept (by repeat (with_reducible first | exact HKA.out | apply af.drew)))).mono ?_);rintro e w6 ⟨rfl,hk6⟩;have HKB:Hid (af w4 w6):=ae (HKA.out.trans (by first | exact hk6 | exact (af.refl _).drew.trans hk6));clear hk6))
 all_goals go_wp2
 all_goals go_ret
 all_goals exact ⟨by rw [<-HS.out];rfl,HK4.out.trans HKB.out⟩
theorem jk (x y:Rat) (hx:(ah x).Short 400000) (hy:(ah y).Short 400000) (W:World) (u1 u2:Value) (h1:RatAt W u1 (ah x)) (h2:RatAt W u2 (ah y)):Calls Tryz.prog 29 #[u1,u2] W fun e w'=>e=.returned (.int .i64 (cO (x - y)))/\af W w':=by
 have h:=gA u1 u2 _ _ W h1 h2 ⟨Nat.le_trans hx.1 (by omega),Nat.le_trans hx.2 (by omega)⟩ ⟨Nat.le_trans hy.1 (by omega),Nat.le_trans hy.2 (by omega)⟩;rw [al,al] at h;exact h
theorem nx (pv:Value) (ps:List Rw) (w:World) (hp:RatsAt w pv ps) (hp3:∀ r∈ps,r.Short 3) (hp30:ps.length<=30) (X:List Int) (he:lF X ps=0):(∀ W u,af w W->am W u X->Calls Tryz.prog 13 #[u,pv] W fun e w'=>(∃ v',e=.returned (.tuple #[v',.nilIface])/\RatAt w' v' (ah (nm X ps)))/\af W w') /\
  (∀ W u,af w W->am W u X->Calls Tryz.prog 15 #[u,pv] W fun e w'=>(∃ v',e=.returned (.tuple #[v',.nilIface])/\RatAt w' v' (ah (nj X ps)))/\af W w') /\
  (∀ W u,af w W->am W u X->Calls Tryz.prog 24 #[u,pv] W fun e w'=>(∃ v',e=.returned (.tuple #[v',.nilIface])/\RatAt w' v' (ah (sI X ps)))/\af W w') /\
  ∀ W u,af w W->am W u X->Calls Tryz.prog 26 #[u,pv] W fun e w'=>(∃ v',e=.returned (.tuple #[v',.nilIface])/\RatAt w' v' (ah (sW X ps)))/\af W w':=by
 refine ⟨fun W u h hu=>?_,fun W u h hu=>?_,fun W u h hu=>?_,fun W u h hu=>?_⟩
 ·have:=mH u pv X ps W hu (hp.kept h) hp3 hp30;rw [he,aH] at this;exact this
 ·have:=mG u pv X ps W hu (hp.kept h) hp3 hp30;rw [he,aH] at this;exact this
 ·have:=sp u pv X ps W hu (hp.kept h) hp3 hp30;rw [he,aH] at this;exact this
 ·have:=uL u pv X ps W hu (hp.kept h) hp3 hp30;rw [he,aH] at this;exact this
section
variable (v pv:Value) (f:Fm) (V T:Nat) (ps:List Rw) (w:World) (hv:aG w v f.nodes) (hok:Ok f V T) (hck:di f=0) (ht:f.top<=9223372036854775807) (hp:RatsAt w pv ps) (hp3:∀ r∈ps,r.Short 3) (hp30:ps.length<=30) (hlen:ps.length=V) (hbad:bI ps=false)
include hv hok hck ht hp hp3 hp30 hlen hbad
theorem xC:∃ (Q2:Nat) (R:Rat),((Q2=4\/Q2=7)\/(Q2=0/\∃ p out,cC V T f=true/\dx V T f.nodes=some p/\cq p.1=some out/\R=sumWs ps out out.length /\
  ∀ W,af w W->Calls Tryz.prog 34 #[.agg #[.int .i64 V,v,.int .i64 T]] W fun e w'=>(∃ v',e=.returned (.tuple #[v',.nilIface])/\am w' v' (aO p.1))/\af W w')) /\
  ∀ W,af w W->Calls Tryz.prog 32 #[.agg #[.int .i64 V,v,.int .i64 T],pv] W fun e w'=>(∃ v',e=.returned (.tuple #[v',aV Q2])/\RatAt w' v' (ah R))/\af W w':=by
 have hs:∃ a n c,v=.slice a n c:=by obtain ⟨a,c,h,_⟩:=hv;exact ⟨a,_,c,h⟩
 obtain ⟨Q,R,hQ,hT⟩:=DJ v pv f V T ps w hv hok hck ht hp hp3 hp30 hlen;refine ⟨Q,R,?_,hT⟩;rcases hQ with (h | h | ⟨_,h⟩) | ⟨h0,_,p,out,hsy,hl,hcu,hR⟩
 ·exact .inl (.inl h)
 ·exact .inl (.inr h)
 ·rw [hbad] at h;cases h
 ·refine .inr ⟨h0,p,out,hsy,hl,hcu,hR,?_⟩;rcases Ef v f V T hok hck hs with ⟨q,hq,_⟩ | ⟨p2,hl2,_,hfc⟩
  ·rcases hq with ⟨_,_,h⟩ | ⟨_,h⟩
   ·rw [hl] at h;cases h
   ·rw [hsy] at h;cases h
  ·rw [hl] at hl2;cases hl2;exact fun W hk=>hfc W (hv.kept hk)
end
def zN (pv:Value) (w:World) (Y:List Int) (lo hi rR y m:Rw):Prop :=
 (∀ W u,af w W->am W u Y->Calls Tryz.prog 15 #[u,pv] W fun e w'=>(∃ v',e=.returned (.tuple #[v',.nilIface])/\RatAt w' v' y)/\af W w') /\
 (∀ W u,af w W->am W u Y->Calls Tryz.prog 26 #[u,pv] W fun e w'=>(∃ v',e=.returned (.tuple #[v',.nilIface])/\RatAt w' v' m)/\af W w') /\
 (∃ sy sm:Int,sy<=0/\sm<=0/\(∀ W u1 u2,RatAt W u1 y->RatAt W u2 rR->Calls Tryz.prog 29 #[u1,u2] W fun e w'=>e=.returned (.int .i64 sy)/\af W w')/\(∀ W u1 u2,RatAt W u1 rR->RatAt W u2 m->Calls Tryz.prog 29 #[u1,u2] W fun e w'=>e=.returned (.int .i64 sm)/\af W w')) /\
 (∀ W u,SpanV W u lo hi->Calls Tryz.prog 37 #[u] W fun e w'=>e=.returned (.bool true)/\af W w') /\
 ∀ W u u2,SpanV W u lo hi->RatAt W u2 rR->Calls Tryz.prog 38 #[u,u2] W fun e w'=>e=.returned (.bool true)/\af W w'
section
variable (v pv:Value) (f:Fm) (V T:Nat) (ps:List Rw) (w:World) (hv:aG w v f.nodes) (hok:Ok f V T) (hck:di f=0) (ht:f.top<=9223372036854775807) (hp:RatsAt w pv ps) (hp3:∀ r∈ps,r.Short 3) (hp30:ps.length<=30) (hlen:ps.length=V) (hbad:bI ps=false)
include hv hok hck ht hp hp3 hp30 hlen hbad
theorem uJ:∃ (Q1 Q2:Nat) (lo hi rR:Rw),(Q1=0\/Q1=4\/Q1=7)/\(Q2=0\/Q2=4\/Q2=7) /\
  (∀ W,af w W->Calls Tryz.prog 20 #[.agg #[.int .i64 V,v,.int .i64 T],pv] W fun e w'=>(∃ v',e=.returned (.tuple #[v',aV Q1])/\SpanV w' v' lo hi)/\af W w') /\
  (∀ W,af w W->Calls Tryz.prog 32 #[.agg #[.int .i64 V,v,.int .i64 T],pv] W fun e w'=>(∃ v',e=.returned (.tuple #[v',aV Q2])/\RatAt w' v' rR)/\af W w') /\
  (Q1=0->Q2=0->∃ (X Y:List Int) (x y z m:Rw) (sx sz:Int),sx<=0/\sz<=0 /\
   (∀ W,af w W->Calls Tryz.prog 34 #[.agg #[.int .i64 V,v,.int .i64 T]] W fun e w'=>(∃ v',e=.returned (.tuple #[v',.nilIface])/\am w' v' X)/\af W w') /\
   (∀ W u,af w W->am W u X->Calls Tryz.prog 13 #[u,pv] W fun e w'=>(∃ v',e=.returned (.tuple #[v',.nilIface])/\RatAt w' v' x)/\af W w')/\(∀ W u,af w W->am W u X->Calls Tryz.prog 24 #[u,pv] W fun e w'=>(∃ v',e=.returned (.tuple #[v',.nilIface])/\RatAt w' v' z)/\af W w')/\(∀ W u1 u2,RatAt W u1 rR->RatAt W u2 x->Calls Tryz.prog 29 #[u1,u2] W fun e w'=>e=.returned (.int .i64 sx)/\af W w')/\(∀ W u1 u2,RatAt W u1 z->RatAt W u2 rR->Calls Tryz.prog 29 #[u1,u2] W fun e w'=>e=.returned (.int .i64 sz)/\af W w') /\
   ∀ W,af w W->Calls Tryz.prog 36 #[.agg #[.int .i64 V,v,.int .i64 T]] W fun e w'=>(∃ v',e=.returned (.tuple #[v',.nilIface])/\am w' v' Y/\zN pv w Y lo hi rR y m)/\af W w'):=by
 obtain ⟨Q2,R,hQ2,hT2⟩:=xC v pv f V T ps w hv hok hck ht hp hp3 hp30 hlen hbad;have hT1:=fun W (hk:af w W)=>kT v pv f V T ps W (hv.kept hk) hok hck (hp.kept hk) hp3 hp30
 have hB0:cC V T f=false->lK V T f ps=(7,0,0):=fun h=>by
  unfold lK;rw [if_neg (by omega),if_neg (by rw [hbad];simp),if_pos h]
 have hB1:cC V T f=true->dx V T f.nodes=none->lK V T f ps=(4,0,0):=fun h h2=>by
  unfold lK;rw [if_neg (by omega),if_neg (by rw [hbad];simp),if_neg (by rw [h];simp),h2]
 have hB2:cC V T f=true->∀ p,dx V T f.nodes=some p->lK V T f ps=Ac ps p.1 (cu V T f.nodes):=fun h p h2=>by
  unfold lK;rw [if_neg (by omega),if_neg (by rw [hbad];simp),if_neg (by rw [h];simp),h2]
 refine ⟨_,Q2,_,_,_,?_,?_,hT1,hT2,?_⟩
 ·cases hsy:cC V T f with
  | false=>rw [hB0 hsy];exact .inr (.inr rfl)
  | true =>
   cases hl:dx V T f.nodes with
   | none=>rw [hB1 hsy hl];exact .inr (.inl rfl)
   | some p =>
    rw [hB2 hsy p hl];cases cu V T f.nodes with
    | none=>exact .inr (.inl rfl)
    | some l=>exact .inl rfl
 ·rcases hQ2 with (h | h) | ⟨h,_⟩
  ·exact .inr (.inl h)
  ·exact .inr (.inr h)
  ·exact .inl h
 ·intro h1 h2
  obtain ⟨p,out,hsy,hl,hcu,hR,hC⟩:∃ p out,cC V T f=true/\dx V T f.nodes=some p/\cq p.1=some out/\R=sumWs ps out out.length /\
    ∀ W,af w W->Calls Tryz.prog 34 #[.agg #[.int .i64 V,v,.int .i64 T]] W fun e w'=>(∃ v',e=.returned (.tuple #[v',.nilIface])/\am w' v' (aO p.1))/\af W w':=by
   rcases hQ2 with (h | h) | ⟨_,h⟩
   ·omega
   ·omega
   ·exact h
  rw [hB2 hsy p hl] at h1⊢;cases hpa:cu V T f.nodes with
  | none=>rw [hpa] at h1;cases h1
  | some l =>
   have hpo:∀ r∈ps,r.Ok:=hp.ok;obtain ⟨hg,hm,_⟩:=dt hok hsy hl;have hX24:∀ s∈p.1,nz s<(ps.length:Int):=fun s hs=>(fe hlen hok.v24 (dK hok hsy hl s hs)).2
   have hX0:=kA hg hm hX24 hbad;obtain ⟨fU,_,fL,_⟩:=nx pv ps w hp hp3 hp30 (aO p.1) hX0;obtain ⟨k1,k2⟩:=sf hok hsy hl hcu hlen hpo hbad;have hF91:∀ s∈p.1,(ah (fQ ps s)).Short 91:=fun s _=>jn hpo hp3 hp30 s
   have hG91:∀ s∈l,(ah (gQ ps s)).Short 91:=fun s _=>kV hpo hbad hp3 hp30 s
   have hlg:=(fD hok hsy hpa).1;have sF:=cD hg.2 hF91;have sG:=cD hlg.2 hG91;have gF:=dl hF91;have gG:=dl hG91;have sF2:=df sF (by decide);have gG2:=df gG (by decide)
   have sR:(ah R).Short 400000:=by
    have h:=i_ (l:=out) hp3 hpo hp30 out.length (Nat.le_refl _);have h2:=lL hcu;rw [hR];exact ⟨Nat.le_trans h.1 (by omega),Nat.le_trans h.2 (by omega)⟩
   have eX:nm (aO p.1) ps=1 - aP (fQ ps) p.1:=by unfold nm;rw [if_pos hX0,cP]
   have eZ:sI (aO p.1) ps=aC (fQ ps) p.1:=by unfold sI;rw [if_pos hX0,cP]
   rw [eX] at fU;rw [eZ] at fL;rw [<-hR] at k1 k2;have w4:∀ {r:Rw} {k:Nat},k<=400000->r.Short k->r.Short 400000:=fun hk h=>⟨Nat.le_trans h.1 hk,Nat.le_trans h.2 hk⟩
   have w2:∀ {r:Rw} {k:Nat},k<=200000->r.Short k->r.Short 200000:=fun hk h=>⟨Nat.le_trans h.1 hk,Nat.le_trans h.2 hk⟩
   refine ⟨aO p.1,aO l,ah (1 - aP (fQ ps) p.1),ah (aP (gQ ps) l),ah (aC (fQ ps) p.1),ah (1 - aC (gQ ps) l),_,_,(fb _ _).2 k1,(fb _ _).2 k2,hC,fU,fL,jk _ _ sR (w4 (by omega) sF2),jk _ _ (w4 (by omega) gF) sR,fun W hk=>?_⟩;have hA:=km v f V T W (hv.kept hk) hok hck hsy (Cu hok hsy);rw [hpa] at hA;refine hA.mono ?_;rintro e w' ⟨⟨v',he,ho⟩,hk'⟩;refine ⟨⟨v',he,ho.1.ints,?_⟩,hk'⟩;have hY24:∀ s∈l,nz s<(ps.length:Int):=fun s hs=>(fe hlen hok.v24 (dU hok hsy hpa ho.2 s hs)).2
   have hY0:=kA hlg ho.2 hY24 hbad;obtain ⟨_,fW,_,fM⟩:=nx pv ps w hp hp3 hp30 (aO l) hY0;obtain ⟨k3,k4⟩:=ru hok hsy hl hcu hlen hpo hbad hpa ho.2;have eY:nj (aO l) ps=aP (gQ ps) l:=by unfold nj;rw [if_pos hY0,cP]
   have eM:sW (aO l) ps=1 - aC (gQ ps) l:=by unfold sW;rw [if_pos hY0,cP]
   rw [eY] at fW;rw [eM] at fM;rw [<-hR] at k3 k4;have b1:gw (aP (gQ ps) l) (aC (fQ ps) p.1)<=R:=by unfold gw;split <;> assumption
   have b2:R<=kh (1 - aP (fQ ps) p.1) (1 - aC (gQ ps) l):=by unfold kh;split <;> assumption
   have s1:=w2 (by omega) (EZ sG gF);have s2:=w2 (by omega) (E_ sF2 gG2)
   exact ⟨fW,fM,⟨_,_,(fb _ _).2 k3,(fb _ _).2 k4,jk _ _ (w4 (by omega) sG) sR,jk _ _ sR (w4 (by omega) gG2)⟩,
    fun W u hu=>pl u _ _ W hu s1 s2 (Rat.le_trans b1 b2),fun W u u2 hu hu2=>pI u u2 _ _ _ W hu hu2 s1 s2 sR b1 b2⟩
end
def FM (n:Nat):Bool:=(decide (30<n)&&decide (n<=1024))||decide (3000<n)
theorem yX {w:World} {r1 r2 r3:Rw} {b1 b2 b3:Bool} {u1 v1 u2 v2 u3 v3:Value} (h1:RatAt w (.agg #[.bool b1,u1,v1]) r1) (h2:RatAt w (.agg #[.bool b2,u2,v2]) r2) (h3:RatAt w (.agg #[.bool b3,u3,v3]) r3) :
  RatsAt (w.alloc (.cells #[.bool b1,u1,v1,.bool b2,u2,v2,.bool b3,u3,v3] 29)) (.slice (some ⟨w.heap.size,0,none⟩) 3 3) [r1,r2,r3]:=by
 obtain ⟨x1,x2,e1,k1,k2⟩:=h1;obtain ⟨x3,x4,e2,k3,k4⟩:=h2;obtain ⟨x5,x6,e3,k5,k6⟩:=h3;simp only [Value.agg.injEq,Array.mk.injEq,List.cons.injEq,Value.bool.injEq,and_true] at e1 e2 e3;obtain ⟨rfl,rfl,rfl⟩:=e1;obtain ⟨rfl,rfl,rfl⟩:=e2;obtain ⟨rfl,rfl,rfl⟩:=e3;exact vJ k1 k2 k3 k4 k5 k6
theorem vE (w:World):Calls Tryz.prog 42 #[] w fun e w'=>(∃ a c,e=.returned (.slice a 3 c)/\RatsAt w' (.slice a 3 c) ga)/\af w w':=by
 have HM1:Hid (∀ W,Calls Tryz.prog 85 #[.int .i64 1,.int .i64 10] W fun e w'=>(∃ v',e=.returned (.tuple #[v',.nilIface])/\RatAt w' v' (ah (mkRat 1 10)))/\af W w'):=ae fun W=>mq 1 10 W (by decide) (by decide) (by decide)
 have HM2:Hid (∀ W,Calls Tryz.prog 85 #[.int .i64 1,.int .i64 5] W fun e w'=>(∃ v',e=.returned (.tuple #[v',.nilIface])/\RatAt w' v' (ah (mkRat 1 5)))/\af W w'):=ae fun W=>mq 1 5 W (by decide) (by decide) (by decide)
 have HM3:Hid (∀ W,Calls Tryz.prog 85 #[.int .i64 1,.int .i64 4] W fun e w'=>(∃ v',e=.returned (.tuple #[v',.nilIface])/\RatAt w' v' (ah (mkRat 1 4)))/\af W w'):=ae fun W=>mq 1 4 W (by decide) (by decide) (by decide)
 go_enter Tryz.func42,Tryz.ntmps42;go_wp2_with fail;refine (HM1.out _).mono ?_;rintro e w1 ⟨⟨v,rfl,hv⟩,hk⟩;obtain ⟨n2,l2,m2,a2,c2,b2,d2,w2,rfl,hw,hc,hk2,hr,_⟩:=hv.box;have HC2:=ae hc;have HW2:=ae hw;have HK2:=ae (hk.trans hk2);clear hv hk hw hc hk2 hr;go_wp2_with fail;rw [<-HW2.out];refine (HM2.out _).mono ?_;rintro e w3 ⟨⟨v,rfl,hv⟩,hk⟩;obtain ⟨n4,l4,m4,a4,c4,b4,d4,w4,rfl,hw,hc,hk2,hr,_⟩:=hv.box;have HC4:=ae hc;have HW4:=ae hw;have SK4:=ae (hk.trans hk2);clear hv hk hw hc hk2 hr;go_wp2_with fail;rw [<-HW4.out];refine (HM3.out _).mono ?_;rintro e w5 ⟨⟨v,rfl,hv⟩,hk⟩;obtain ⟨n6,l6,m6,a6,c6,b6,d6,w6,rfl,hw,⟨z0,z1,z2⟩,hc,hk2,hr,_⟩:=hv.boxc;have HR6:=ae hr;have HW6:=ae hw;have SK5:=ae hk;have SK6:=ae (hk.trans hk2);have HK56:=ae hk2;have HK6:=ae (SK4.out.trans SK6.out);obtain ⟨p1,p2,p3,q1,r1,q2,r2,x0,x1,x2,hlx,HXA⟩:=(HC2.out.kept (SK4.out.trans SK5.out)).read;obtain ⟨p4,p5,p6,q3,r3,q4,r4,y0,y1,y2,hly,HYA⟩:=(HC4.out.kept SK5.out).read;have hs6:w6.heap.size=w5.heap.size+1:=by rw [HW6.out];simp
 have hrt:=yX (HXA.out.kept HK56.out) (HYA.out.kept HK56.out) HR6.out;obtain ⟨w7,hw7⟩:∃ w7,w7=w6.alloc (.cells #[.bool p1,.slice q1 p2 r1,.slice q2 p3 r2,.bool p4,.slice q3 p5 r3,.slice q4 p6 r4,.bool n6,.slice a6 l6 c6,.slice b6 m6 d6] 29):=⟨_,rfl⟩;rw [<-hw7,hs6] at hrt;have HRT:=ae hrt;have HK7:Hid (af w6 w7):=ae (by rw [hw7];exact (af.refl _).alloc _);have HW7:=ae hw7;clear hv hk hw hc hk2 hr hw7 hrt hs6 z0 z1 z2;go_wp2_with fail;rw [<-HW6.out,<-HW7.out];go_ret;exact ⟨⟨_,_,rfl,HRT.out⟩,HK2.out.trans (HK6.out.trans HK7.out)⟩
set_option linter.unusedSimpArgs false in
theorem Et:cU [3,5]=0:=by
 obtain ⟨h0,h1,h2,h3,h4,h5,h6,h7⟩:=FA;simp +decide [cU,aR,bl,iQ,eU,aT,gV,aS,h0,h1,h2,h3,h4,h5,h6,h7]
theorem DX:lF [1,6] ga=0:=by
 unfold lF;rw [if_neg (by rw [Es];simp),if_neg (by decide +kernel),rg,if_neg (by simp)]
theorem DY:lF [3,5] ga=0:=by
 unfold lF;rw [if_neg (by rw [Et];simp),if_neg (by decide +kernel),rg,if_neg (by simp)]
theorem Ew:nm [1,6] ga=mkRat 29 200:=by
 unfold nm;rw [if_pos DX];decide +kernel
theorem Ev:nj [3,5] ga=mkRat 91 1000:=by
 unfold nj;rw [if_pos DY];decide +kernel
set_option linter.unusedSimpArgs false in
theorem Bw:cu 3 5 rf=some [3,5]:=by
 have h:=qs Ec;rw [show DZ.nodes=rf from rfl] at h;rw [h,z_];obtain ⟨h0,h1,h2,h3,h4,h5,h6,h7⟩:=FA;simp +decide [nf,eV,dp,dV,rf,cI,bS,bN,aN,aT,bl,iQ,eU,gV,aS,jS,ft,h0,h1,h2,h3,h4,h5,h6,h7]
theorem xV:lK 3 5 DZ ga=(0,mkRat 1 10,mkRat 29 200):=by
 unfold lK;rw [if_neg (by decide),rg,if_neg (by simp),Fb,if_neg (by simp),show DZ.nodes=rf from rfl,Fc];simp only [Bw,Ac];have h1:gw (aP (gQ ga) [3,5]) (aC (fQ ga) [1,6])=mkRat 1 10:=by decide +kernel
 have h2:kh (1 - aP (fQ ga) [1,6]) (1 - aC (gQ ga) [3,5])=mkRat 29 200:=by decide +kernel
 rw [h1,h2]
theorem Di (w:World):am (w.alloc (.cells #[.int .i64 3,.int .i64 5] 3)) (.slice (some ⟨w.heap.size,0,none⟩) 2 2) [3,5] :=
 (ai.made w #[.int .i64 3,.int .i64 5] 3).ints (xs:=[3,5]) (c:=2) (by simp) (by simp)
theorem nN (w:World):Calls Tryz.prog 10 #[] w fun e w'=>e=.returned (.bool true)/\af w w':=by
 have HPR:=ae (fun W=>vE W);have HEX:=ae (fun W=>uM W)
 have HUP:Hid (∀ (W W':World) (g:Nat) (v:Value),g=W.heap.size->af (W.alloc (.cells #[.int .i64 1,.int .i64 6] 3)) W'->RatsAt W' v ga->Calls Tryz.prog 13 #[.slice (some ⟨g,0,none⟩) 2 2,v] W' fun e w'=>(∃ v',e=.returned (.tuple #[v',.nilIface])/\RatAt w' v' (ah (mkRat 29 200)))/\af W' w'):=ae fun W W' g v hg hk h2=>by
  subst hg;have h:=mH _ v [1,6] ga _ ((Dh W).kept hk) h2 lZ (by decide);rw [Ew,DX,aH] at h;exact h
 have HLO:Hid (∀ (W W':World) (g:Nat) (v:Value),g=W.heap.size->af (W.alloc (.cells #[.int .i64 3,.int .i64 5] 3)) W'->RatsAt W' v ga->Calls Tryz.prog 15 #[.slice (some ⟨g,0,none⟩) 2 2,v] W' fun e w'=>(∃ v',e=.returned (.tuple #[v',.nilIface])/\RatAt w' v' (ah (mkRat 91 1000)))/\af W' w'):=ae fun W W' g v hg hk h2=>by
  subst hg;have h:=mG _ v [3,5] ga _ ((Di W).kept hk) h2 lZ (by decide);rw [Ev,DY,aH] at h;exact h
 have HBD:Hid (∀ W u v,aG W u rf->RatsAt W v ga->Calls Tryz.prog 20 #[.agg #[.int .i64 3,u,.int .i64 5],v] W fun e w'=>(∃ v',e=.returned (.tuple #[v',.nilIface])/\SpanV w' v' (ah (mkRat 1 10)) (ah (mkRat 29 200)))/\af W w'):=ae fun W u v h1 h2=>by
  have h:=kT u v DZ 3 5 ga W h1 Ec Ah h2 lZ (by decide);rw [xV,aH] at h;exact h
 have HTX:Hid (∀ W v,RatAt W v (ah (mkRat 29 200))->Calls Tryz.prog 44 #[v] W fun e w'=>e=.returned (.string ⟨#[50,57,47,50,48,48]⟩)/\af W w'):=ae fun W v h=>ia v _ 29 200 [50,57] [50,48,48] [50,57,47,50,48,48] W h (by decide +kernel) (by decide +kernel) (by decide) (by decide) (by decide) (by decide) (by decide) (by decide) (by decide) (by decide) (by decide)
 have HTY:Hid (∀ W v,RatAt W v (ah (mkRat 91 1000))->Calls Tryz.prog 44 #[v] W fun e w'=>e=.returned (.string ⟨#[57,49,47,49,48,48,48]⟩)/\af W w'):=ae fun W v h=>ia v _ 91 1000 [57,49] [49,48,48,48] [57,49,47,49,48,48,48] W h (by decide +kernel) (by decide +kernel) (by decide) (by decide) (by decide) (by decide) (by decide) (by decide) (by decide) (by decide) (by decide)
 have HSX:Hid (∀ W v,SpanV W v (ah (mkRat 1 10)) (ah (mkRat 29 200))->Calls Tryz.prog 45 #[v] W fun e w'=>e=.returned (.string ⟨#[49,47,49,48,46,46,50,57,47,50,48,48]⟩)/\af W w'):=ae fun W v h=>zk v (mkRat 1 10) (mkRat 29 200) [49,47,49,48] [50,57,47,50,48,48] W h (by decide +kernel) ⟨by decide +kernel,by decide +kernel⟩ ⟨by decide +kernel,by decide +kernel⟩
  (fun W u hu=>ia u _ 1 10 [49] [49,48] [49,47,49,48] W hu (by decide +kernel) (by decide +kernel) (by decide) (by decide) (by decide) (by decide) (by decide) (by decide) (by decide) (by decide) (by decide))
  (fun W u hu=>ia u _ 29 200 [50,57] [50,48,48] [50,57,47,50,48,48] W hu (by decide +kernel) (by decide +kernel) (by decide) (by decide) (by decide) (by decide) (by decide) (by decide) (by decide) (by decide) (by decide)) (by decide) (by decide)
 have HKI:Hid (∀ (W:World) (cs:Array Value) (t:TypeId),af W (W.alloc (.cells cs t))):=ae fun W cs t=>(af.refl W).alloc _
 go_enter Tryz.func10,Tryz.ntmps10;go_wp2_with fail;refine (HPR.out _).mono ?_;rintro e w1 ⟨⟨a1,c1,rfl,hr1⟩,hk1⟩;have HR1:=ae hr1;have HK1:=ae hk1;clear hr1 hk1;go_wp2_with fail;refine (HUP.out w _ _ _ rfl HK1.out HR1.out).mono ?_;rintro e w2 ⟨⟨v,rfl,hv⟩,hk⟩;obtain ⟨n3,l3,m3,a3,c3,b3,d3,w3,rfl,hw,hc,hk2,hr,hz3⟩:=hv.box;have HZ3:=ae hz3.symm;clear hz3;have HC3:=ae hc;have HW3:=ae hw;have HK3:=ae ((HKI.out w _ _).trans (HK1.out.trans (hk.trans hk2)));clear hv hk hw hc hk2 hr;go_wp2_with fail;rw [<-HW3.out];refine (HPR.out _).mono ?_;rintro e w4 ⟨⟨a4,c4,rfl,hr4⟩,hk4⟩;have HR4:=ae hr4;have HK4:=ae hk4;clear hr4 hk4;go_wp2_with fail;refine (HLO.out w3 _ _ _ HZ3.out HK4.out HR4.out).mono ?_;rintro e w5 ⟨⟨v,rfl,hv⟩,hk⟩;obtain ⟨n6,l6,m6,a6,c6,b6,d6,w6,rfl,hw,hc,hk2,hr,_⟩:=hv.box;have HC6:=ae hc;have HW6:=ae hw;have SK6:=ae ((HKI.out w3 _ _).trans (HK4.out.trans (hk.trans hk2)));clear hv hk hw hc hk2 hr;go_wp2_with fail;rw [<-HW6.out];refine (HEX.out _).mono ?_;rintro e w7 ⟨⟨v7,rfl,⟨a7,n7,c7,rfl⟩,hn7⟩,hk7⟩;have HN7:=ae hn7;have HK7:=ae hk7;clear hn7 hk7;go_wp2_with fail;refine (HPR.out _).mono ?_;rintro e w8 ⟨⟨a8,c8,rfl,hr8⟩,hk8⟩;have HR8:=ae hr8;have HK8:=ae hk8;clear hr8 hk8;go_wp2_with fail;refine (HBD.out _ _ _ (HN7.out.kept HK8.out) HR8.out).mono ?_;rintro e w9 ⟨⟨v,rfl,hv⟩,hk⟩
 obtain ⟨s1,s2,s3,s4,s5,s6,t1,t2,t3,t4,t5,t6,t7,t8,w10,rfl,hw,hc,hk2,hr,_⟩:=hv.box;have HC10:=ae hc;have HW10:=ae hw;have SK9:=ae (HK7.out.trans (HK8.out.trans hk));have KB:=ae hk2;have SK10:=ae (HK7.out.trans (HK8.out.trans (hk.trans hk2)));clear hv hk hw hc hk2 hr;obtain ⟨p1,p2,p3,q1,r1,q2,r2,x0,x1,x2,hlx,HXT⟩:=(HC3.out.kept (SK6.out.trans SK9.out)).read;go_wp2_with fail;rw [<-HW10.out];refine (HTX.out _ _ (HXT.out.kept KB.out)).mono ?_;rintro e w11 ⟨rfl,hk11⟩;have HK11:=ae (SK10.out.trans hk11);have HS11:=ae (HC10.out.kept hk11);clear x0 x1 x2 hlx hk11;obtain ⟨p4,p5,p6,q3,r3,q4,r4,y0,y1,y2,hly,HYT⟩:=(HC6.out.kept HK11.out).read;go_wp2_with fail;refine (HTY.out _ _ HYT.out).mono ?_;rintro e w12 ⟨rfl,hk12⟩;have HK12:=ae (HK11.out.trans hk12);clear y0 y1 y2 hly;obtain ⟨f1,f2,f3,f4,f5,f6,q5,r5,q6,r6,q7,r7,q8,r8,z0,z1,z2,z3,z4,z5,hlz,_,_,HZT⟩:=(HS11.out.kept hk12).read;clear hk12;go_wp2_with fail;refine (HSX.out _ _ HZT.out).mono ?_;rintro e w13 ⟨rfl,hk13⟩;go_wp2;go_ret;exact ⟨rfl,HK3.out.trans (SK6.out.trans (HK12.out.trans hk13))⟩
theorem mA (v:Value) (f:Fm) (w:World) (hv:aG w v f.nodes) :
  Calls Tryz.prog 19 #[jo v f] w fun e w'=>(∃ b,e=.returned (.bool b))/\af w w':=by
 have hh:∀ W,af w W->Calls Tryz.prog 40 #[jo v f] W fun e w'=>(∃ b,e=.returned (.bool b))/\af W w':=fun W hk=>ye v f W (hv.kept hk)
 obtain ⟨a,n,c,rfl⟩:∃ a n c,v=.slice a n c:=by obtain ⟨a,c,h,_⟩:=hv;exact ⟨a,_,c,h⟩
 obtain ⟨vars,nodes,top⟩:=f;have HH:Hid (∀ W,af w W->Calls Tryz.prog 40 #[.agg #[.int .i64 vars,.slice a n c,.int .i64 top]] W fun e w'=>(∃ b,e=.returned (.bool b))/\af W w'):=ae hh;show Calls _ _ #[.agg #[.int .i64 vars,.slice a n c,.int .i64 top]] _ _;obtain ⟨w0,hw0⟩:∃ w0,w0=w.alloc (.cells #[.int .i64 vars,.slice a n c,.int .i64 top] 41):=⟨_,rfl⟩;have HX0:Hid (ai w0 w.heap.size 41 [.int .i64 vars,.slice a n c,.int .i64 top]):=ae (by rw [hw0];exact ai.made w #[.int .i64 vars,.slice a n c,.int .i64 top] 41);have HK0:Hid (af w w0):=ae (by rw [hw0];exact (af.refl _).alloc _);have HW0:=ae hw0;obtain ⟨c0,c1,c2⟩:=aU HX0.out;rw [hw0] at c0 c1 c2;clear hv hh hw0;go_enter Tryz.func19,Tryz.ntmps19;go_wp2_with fail;rw [<-HW0.out];refine (HH.out _ HK0.out).mono ?_;rintro e w1 ⟨⟨b,rfl⟩,hk1⟩;have HX1:=ae (HX0.out.kept hk1);have HK1:=ae (HK0.out.trans hk1);clear hk1 c0 c1 c2;obtain ⟨c0,c1,c2⟩:=aU HX1.out;cases b with
 | true =>
  go_wp2;go_ret
  first | exact ⟨⟨_,rfl⟩,HK1.out⟩ | exact ⟨.inl rfl,HK1.out⟩ | exact ⟨.inr rfl,HK1.out⟩
 | false =>
  by_cases h8:(8:Int)<vars
  ·by_cases h24:vars<=24
   ·go_wp2;go_ret
    first | exact ⟨⟨_,rfl⟩,HK1.out⟩ | exact ⟨.inl rfl,HK1.out⟩ | exact ⟨.inr rfl,HK1.out⟩
   ·go_wp2;go_ret
    first | exact ⟨⟨_,rfl⟩,HK1.out⟩ | exact ⟨.inl rfl,HK1.out⟩ | exact ⟨.inr rfl,HK1.out⟩
  ·go_wp2;go_ret
   first | exact ⟨⟨_,rfl⟩,HK1.out⟩ | exact ⟨.inl rfl,HK1.out⟩ | exact ⟨.inr rfl,HK1.out⟩
theorem sk (v pv:Value) (f:Fm) (ps:List Rw) (w:World) (hv:aG w v f.nodes) (hfo:CL f) (hp:dO w pv ps) :
  Calls Tryz.prog 8 #[jo v f,pv] w fun e w'=>e=.returned (.bool true)/\af w w':=by
 have ht:f.top<=9223372036854775807:=hfo.2.1.2;have hh:∀ W,af w W->Calls Tryz.prog 19 #[jo v f] W fun e w'=>(∃ b,e=.returned (.bool b))/\af W w':=fun W hk=>mA v f W (hv.kept hk)
 have hc:∀ W,af w W->Calls Tryz.prog 30 #[jo v f] W fun e w'=>e=.returned (aV (di f))/\af W w':=fun W hk=>dE v f W (hv.kept hk) ht
 have HBO:=ae fun (h30:ps.length<=30) (hs3:∀ r∈ps,r.Short 3) (hp2:RatsAt w pv ps) V T (hok:Ok f V T) (hck:di f=0) (hl:ps.length=V) (hb:bI ps=false)=>uJ v pv f V T ps w hv hok hck ht hp2 hs3 h30 hl hb
 have hs:∃ a n c,v=.slice a n c:=by obtain ⟨a,c,h,_⟩:=hv;exact ⟨a,_,c,h⟩
 have HOK:=ae fun (h:di f=0)=>Bn f h
 obtain ⟨q,hq⟩:∃ q,q=di f:=⟨_,rfl⟩;rw [<-hq] at hc HOK HBO;have HL:=ae (fun W (h:af w W)=>qe pv ps W (hp.kept h));have HRV:=ae hp;obtain ⟨a,n,c,rfl⟩:=hs;obtain ⟨pa,pc,hps,_⟩:=id hp;obtain ⟨pn,hpn⟩:∃ pn,pn=ps.length:=⟨_,rfl⟩;rw [<-hpn] at hps;subst hps;obtain ⟨vars,nodes,top⟩:=f;have HH:Hid (∀ W,af w W->Calls Tryz.prog 19 #[.agg #[.int .i64 vars,.slice a n c,.int .i64 top]] W fun e w'=>(∃ b,e=.returned (.bool b))/\af W w'):=ae hh;have HC:Hid (∀ W,af w W->Calls Tryz.prog 30 #[.agg #[.int .i64 vars,.slice a n c,.int .i64 top]] W fun e w'=>e=.returned (aV q)/\af W w'):=ae hc;have HA:Hid (∀ W,Calls Tryz.prog 10 #[] W fun e w'=>e=.returned (.bool true)/\af W w'):=ae fun W=>nN W
 show Calls _ _ #[.agg #[.int .i64 vars,.slice a n c,.int .i64 top],.slice pa pn pc] _ _;obtain ⟨w0,hw0⟩:∃ w0,w0=w.alloc (.cells #[.int .i64 vars,.slice a n c,.int .i64 top] 41):=⟨_,rfl⟩;have HX0:Hid (ai w0 w.heap.size 41 [.int .i64 vars,.slice a n c,.int .i64 top]):=ae (by rw [hw0];exact ai.made w #[.int .i64 vars,.slice a n c,.int .i64 top] 41);have HK0:Hid (af w w0):=ae (by rw [hw0];exact (af.refl _).alloc _);have HW0:=ae hw0;have HPN:=ae hpn;clear hv hh hc hq ht hfo hp hw0 hpn;go_enter Tryz.func8,Tryz.ntmps8;go_wp2_with fail;rw [<-HW0.out];refine (HA.out _).mono ?_;rintro e w1 ⟨rfl,hk1⟩;have HX1:=ae (HX0.out.kept hk1);have HK1:=ae (HK0.out.trans hk1);obtain ⟨c0,c1,c2⟩:=aU HX1.out;clear hk1;go_wp2_with fail;refine (HH.out _ HK1.out).mono ?_;rintro e w2 ⟨⟨b,rfl⟩,hk2⟩;have HX2:=ae (HX1.out.kept hk2);have HK2:=ae (HK1.out.trans hk2);clear hk2 c0 c1 c2;cases b with
 | true =>
  go_wp2_with fail;refine (HA.out _).mono ?_;rintro e w3 ⟨rfl,hk3⟩;go_wp2;go_ret;exact ⟨rfl,HK2.out.trans hk3⟩
 | false =>
  go_wp2_with fail;refine (HL.out _ HK2.out).mono ?_;rintro e w3 ⟨⟨u2,rfl,bb,rfl,hbb⟩,hk3⟩;have HX3:=ae (HX2.out.kept hk3);have HK3:=ae (HK2.out.trans hk3);have HBB:=ae hbb;clear hk3 hbb;cases bb with
  | true =>
   go_wp2_with fail;refine (HA.out _).mono ?_;rintro e w4 ⟨rfl,hk4⟩;go_wp2;go_ret;exact ⟨rfl,HK3.out.trans hk4⟩
  | false =>
   obtain ⟨h30,hs3⟩:=HBB.out rfl;have hpv:=HRV.out.small fun r hr=>⟨Nat.le_trans (hs3 r hr).1 (by omega),Nat.le_trans (hs3 r hr).2 (by omega)⟩
   have HB2:=ae (HBO.out h30 hs3 hpv);have HBA:Hid (∀ W,af w W->Calls Tryz.prog 31 #[.slice pa pn pc] W fun e w'=>e=.returned (.bool (bI ps))/\af W w'):=ae fun W h=>oR _ ps W (hpv.kept h) (fun r hr=>⟨Nat.le_trans (hs3 r hr).1 (by omega),Nat.le_trans (hs3 r hr).2 (by omega)⟩)
   clear h30 hs3 hpv HBO;obtain ⟨c0,c1,c2⟩:=aU HX3.out;by_cases hq0:q=0
   ·subst hq0;rw [aH] at HC;obtain ⟨V,T,hok⟩:=HOK.out rfl;have HB3:=ae (HB2.out V T hok rfl);have e1:vars=(V:Int):=hok.vars;have e2:top=(T:Int):=hok.top;subst e1 e2;clear hok HB2 HOK;go_wp2_with fail;refine (HC.out _ HK3.out).mono ?_;rintro e w4 ⟨rfl,hk4⟩;have HX4:=ae (HX3.out.kept hk4);have HK4:=ae (HK3.out.trans hk4);clear c0 c1 c2 hk4;obtain ⟨c0,c1,c2⟩:=aU HX4.out;by_cases hpV:pn=V
    ·subst hpV;obtain ⟨bd,hbd⟩:∃ bd,bd=bI ps:=⟨_,rfl⟩;rw [<-hbd] at HBA;have HBD:=ae hbd;clear hbd;go_wp2_with fail;refine (HBA.out _ HK4.out).mono ?_;rintro e w5 ⟨rfl,hk5⟩;have HX5:=ae (HX4.out.kept hk5);have HK5:=ae (HK4.out.trans hk5);clear c0 c1 c2 hk5;cases bd with
     | true =>
      go_wp2_with fail;refine (HA.out _).mono ?_;rintro e w6 ⟨rfl,hk6⟩;go_wp2;go_ret;exact ⟨rfl,HK5.out.trans hk6⟩
     | false =>
      obtain ⟨Q1,Q2,lo,hi,rR,hQ1,hQ2,hT1,hT2,hZ⟩:=HB3.out HPN.out.symm HBD.out.symm;have HQa:=ae hQ1;have HQb:=ae hQ2;have HTa:=ae hT1;have HTb:=ae hT2;have HZ:=ae hZ;clear hQ1 hQ2 hT1 hT2 hZ HB3;by_cases h0a:Q1=0
      ·by_cases h0b:Q2=0
       ·subst h0a;rw [aH] at HTa;subst h0b;rw [aH] at HTb;obtain ⟨X,Y,x,y,z,m,sx,sz,hsx,hsz,hCU,hUP,hLE,hCX,hCZ,hPA⟩:=HZ.out rfl rfl;have HCU:=ae hCU;have HUP:=ae hUP;have HLE:=ae hLE;have HCX:=ae hCX;have HCZ:=ae hCZ;have HPA:=ae hPA;clear hCU hUP hLE hCX hCZ hPA;clear HZ;obtain ⟨c0,c1,c2⟩:=aU HX5.out;go_wp2_with fail;refine (HTa.out _ HK5.out).mono ?_;rintro e w6 ⟨⟨v,rfl,hv⟩,hk⟩;obtain ⟨n6,l6,m6,n6a,l6a,m6a,a6,c6,b6,d6,a6a,c6a,b6a,d6a,w7,rfl,hw,hc,hk2,hr,_⟩:=hv.box;have HC7:=ae hc;have HW7:=ae hw;have SK7:=ae (hk.trans hk2);have HK7:=ae (HK5.out.trans SK7.out);clear hv hk hw hc hk2 hr c0 c1 c2;obtain ⟨c0,c1,c2⟩:=aU (HX5.out.kept (SK7.out));rw [HW7.out] at c0 c1 c2;go_wp2_with fail;rw [<-HW7.out];refine (HTb.out _ HK7.out).mono ?_;rintro e w8 ⟨⟨v,rfl,hv⟩,hk⟩;obtain ⟨n8,l8,m8,a8,c8,b8,d8,w9,rfl,hw,hc,hk2,hr,_⟩:=hv.box;have HC9:=ae hc;have HW9:=ae hw;have SK9:=ae (hk.trans hk2);have HK9:=ae (HK7.out.trans SK9.out);clear hv hk hw hc hk2 hr c0 c1 c2;obtain ⟨c0,c1,c2⟩:=aU (HX5.out.kept (SK7.out.trans (SK9.out)));rw [HW9.out] at c0 c1 c2;go_wp2_with fail;rw [<-HW9.out];refine (HCU.out _ HK9.out).mono ?_;rintro e w10 ⟨⟨v10,rfl,hv10⟩,hk10⟩;have HK10:=ae (HK9.out.trans hk10);have SK10:=ae hk10;clear hk10 c0 c1 c2;have HV10:=ae hv10
        clear hv10;obtain ⟨c0,c1,c2⟩:=aU (HX5.out.kept (SK7.out.trans (SK9.out.trans (SK10.out))));go_wp2_with fail;refine (HPA.out _ HK10.out).mono ?_;rintro e w11 ⟨⟨v11,rfl,hv11,hrest⟩,hk11⟩;have HK11:=ae (HK10.out.trans hk11);have SK11:=ae hk11;clear hk11 c0 c1 c2;have HV11:=ae hv11;obtain ⟨hLO,hMO,⟨sy,sm,hsy,hsm,hCY,hCM⟩,hVA,hCO⟩:=hrest;have HLO:=ae hLO;have HMO:=ae hMO;have HCY:=ae hCY;have HCM:=ae hCM;have HVA:=ae hVA;have HCO:=ae hCO;clear hv11 hLO hMO hCY hCM hVA hCO;go_wp2_with fail;refine (HUP.out _ _ HK11.out (HV10.out.kept (SK11.out))).mono ?_;rintro e w12 ⟨⟨v,rfl,hv⟩,hk⟩;obtain ⟨n12,l12,m12,a12,c12,b12,d12,w13,rfl,hw,hc,hk2,hr,_⟩:=hv.box;have HC13:=ae hc;have HW13:=ae hw;have SK13:=ae (hk.trans hk2);have HK13:=ae (HK11.out.trans SK13.out);clear hv hk hw hc hk2 hr;go_wp2_with fail;rw [<-HW13.out];refine (HLO.out _ _ HK13.out (HV11.out.kept (SK13.out))).mono ?_;rintro e w14 ⟨⟨v,rfl,hv⟩,hk⟩;obtain ⟨n14,l14,m14,a14,c14,b14,d14,w15,rfl,hw,hc,hk2,hr,_⟩:=hv.box;have HC15:=ae hc;have HW15:=ae hw;have SK15:=ae (hk.trans hk2);have HK15:=ae (HK13.out.trans SK15.out);clear hv hk hw hc hk2 hr;go_wp2_with fail;rw [<-HW15.out];refine (HLE.out _ _ HK15.out (HV10.out.kept (SK11.out.trans (SK13.out.trans (SK15.out))))).mono ?_;rintro e w16 ⟨⟨v,rfl,hv⟩,hk⟩;obtain ⟨n16,l16,m16,a16,c16,b16,d16,w17,rfl,hw,hc,hk2,hr,_⟩:=hv.box
        have HC17:=ae hc;have HW17:=ae hw;have SK17:=ae (hk.trans hk2);have HK17:=ae (HK15.out.trans SK17.out);clear hv hk hw hc hk2 hr;go_wp2_with fail;rw [<-HW17.out];refine (HMO.out _ _ HK17.out (HV11.out.kept (SK13.out.trans (SK15.out.trans (SK17.out))))).mono ?_;rintro e w18 ⟨⟨v,rfl,hv⟩,hk⟩;obtain ⟨n18,l18,m18,a18,c18,b18,d18,w19,rfl,hw,hc,hk2,hr,_⟩:=hv.box;have HC19:=ae hc;have HW19:=ae hw;have SK19:=ae (hk.trans hk2);have HK19:=ae (HK17.out.trans SK19.out);clear hv hk hw hc hk2 hr;obtain ⟨b1,b2,b3,b4,b5,b6,eb1,eb2,eb3,eb4,eb5,eb6,eb7,eb8,xb0,xb1,xb2,xb3,xb4,xb5,hlb,_,_,HSb⟩:=(HC7.out.kept (SK9.out.trans (SK10.out.trans (SK11.out.trans (SK13.out.trans (SK15.out.trans (SK17.out.trans (SK19.out)))))))).read;rw [HW19.out] at xb0 xb1 xb2 xb3 xb4 xb5;go_wp2_with fail;rw [<-HW19.out];refine (HVA.out _ _ HSb.out).mono ?_;rintro e w20 ⟨rfl,hk20⟩;have HK20:=ae (HK19.out.trans hk20);have SK20:=ae hk20;clear hk20;clear xb0 xb1 xb2 xb3 xb4 xb5 hlb HSb;obtain ⟨b1,b2,b3,b4,b5,b6,eb1,eb2,eb3,eb4,eb5,eb6,eb7,eb8,xb0,xb1,xb2,xb3,xb4,xb5,hlb,_,_,HSb⟩:=(HC7.out.kept (SK9.out.trans (SK10.out.trans (SK11.out.trans (SK13.out.trans (SK15.out.trans (SK17.out.trans (SK19.out.trans (SK20.out))))))))).read;obtain ⟨v1,v2,v3,ev1,ev2,ev3,ev4,yv0,yv1,yv2,hlv,HRv⟩:=(HC9.out.kept (SK10.out.trans (SK11.out.trans (SK13.out.trans (SK15.out.trans (SK17.out.trans (SK19.out.trans (SK20.out)))))))).read
        go_wp2_with fail;refine (HCO.out _ _ _ HSb.out HRv.out).mono ?_;rintro e w21 ⟨rfl,hk21⟩;have HK21:=ae (HK20.out.trans hk21);have SK21:=ae hk21;clear hk21;clear xb0 xb1 xb2 xb3 xb4 xb5 hlb HSb;clear yv0 yv1 yv2 hlv HRv;obtain ⟨v1,v2,v3,ev1,ev2,ev3,ev4,yv0,yv1,yv2,hlv,HRv⟩:=(HC9.out.kept (SK10.out.trans (SK11.out.trans (SK13.out.trans (SK15.out.trans (SK17.out.trans (SK19.out.trans (SK20.out.trans (SK21.out))))))))).read;obtain ⟨s1,s2,s3,es1,es2,es3,es4,ys0,ys1,ys2,hls,HRs⟩:=(HC13.out.kept (SK15.out.trans (SK17.out.trans (SK19.out.trans (SK20.out.trans (SK21.out)))))).read;go_wp2_with fail;refine (HCX.out _ _ _ HRv.out HRs.out).mono ?_;rintro e w22 ⟨rfl,hk22⟩;have HK22:=ae (HK21.out.trans hk22);have SK22:=ae hk22;clear hk22;clear yv0 yv1 yv2 hlv HRv;clear ys0 ys1 ys2 hls HRs;obtain ⟨v1,v2,v3,ev1,ev2,ev3,ev4,yv0,yv1,yv2,hlv,HRv⟩:=(HC15.out.kept (SK17.out.trans (SK19.out.trans (SK20.out.trans (SK21.out.trans (SK22.out)))))).read;obtain ⟨s1,s2,s3,es1,es2,es3,es4,ys0,ys1,ys2,hls,HRs⟩:=(HC9.out.kept (SK10.out.trans (SK11.out.trans (SK13.out.trans (SK15.out.trans (SK17.out.trans (SK19.out.trans (SK20.out.trans (SK21.out.trans (SK22.out)))))))))).read;go_wp2_with fail;refine (HCY.out _ _ _ HRv.out HRs.out).mono ?_;rintro e w23 ⟨rfl,hk23⟩;have HK23:=ae (HK22.out.trans hk23);have SK23:=ae hk23;clear hk23;clear yv0 yv1 yv2 hlv HRv;clear ys0 ys1 ys2 hls HRs
        obtain ⟨v1,v2,v3,ev1,ev2,ev3,ev4,yv0,yv1,yv2,hlv,HRv⟩:=(HC17.out.kept (SK19.out.trans (SK20.out.trans (SK21.out.trans (SK22.out.trans (SK23.out)))))).read;obtain ⟨s1,s2,s3,es1,es2,es3,es4,ys0,ys1,ys2,hls,HRs⟩:=(HC9.out.kept (SK10.out.trans (SK11.out.trans (SK13.out.trans (SK15.out.trans (SK17.out.trans (SK19.out.trans (SK20.out.trans (SK21.out.trans (SK22.out.trans (SK23.out))))))))))).read;go_wp2_with fail;refine (HCZ.out _ _ _ HRv.out HRs.out).mono ?_;rintro e w24 ⟨rfl,hk24⟩;have HK24:=ae (HK23.out.trans hk24);have SK24:=ae hk24;clear hk24;clear yv0 yv1 yv2 hlv HRv;clear ys0 ys1 ys2 hls HRs;obtain ⟨v1,v2,v3,ev1,ev2,ev3,ev4,yv0,yv1,yv2,hlv,HRv⟩:=(HC9.out.kept (SK10.out.trans (SK11.out.trans (SK13.out.trans (SK15.out.trans (SK17.out.trans (SK19.out.trans (SK20.out.trans (SK21.out.trans (SK22.out.trans (SK23.out.trans (SK24.out)))))))))))).read;obtain ⟨s1,s2,s3,es1,es2,es3,es4,ys0,ys1,ys2,hls,HRs⟩:=(HC19.out.kept (SK20.out.trans (SK21.out.trans (SK22.out.trans (SK23.out.trans (SK24.out)))))).read;go_wp2_with fail;refine (HCM.out _ _ _ HRv.out HRs.out).mono ?_;rintro e w25 ⟨rfl,hk25⟩;have HK25:=ae (HK24.out.trans hk25);have SK25:=ae hk25;clear hk25;clear yv0 yv1 yv2 hlv HRv;clear ys0 ys1 ys2 hls HRs;go_wp2;go_ret;exact ⟨by first | rfl | simp [hsm],HK25.out⟩
       ·subst h0a;rw [aH] at HTa;have h7b:=fun W=>fx Q2 7 h0b W
        have h4b:=fun W=>fx Q2 4 h0b W
        rw [aA h0b] at HTb h7b h4b;obtain ⟨b7b,hb7b⟩:∃ b,b=(Q2 == 7):=⟨_,rfl⟩;obtain ⟨b4b,hb4b⟩:∃ b,b=(Q2 == 4):=⟨_,rfl⟩;rw [<-hb7b] at h7b;rw [<-hb4b] at h4b;have H7b:Hid (∀ W,Calls Tryz.prog 33 #[.iface 60 (.int .i64 Q2),.int .i64 7] W fun e w'=>e=.returned (.bool b7b)/\W=w'):=ae h7b;have H4b:Hid (∀ W,Calls Tryz.prog 33 #[.iface 60 (.int .i64 Q2),.int .i64 4] W fun e w'=>e=.returned (.bool b4b)/\W=w'):=ae h4b
        have hcsb:b7b=true\/(b7b=false/\b4b=true):=by
         rcases HQb.out with h | h | h
         ·exact absurd h h0b
         ·exact .inr ⟨by rw [hb7b,h];rfl,by rw [hb4b,h];rfl⟩
         ·exact .inl (by rw [hb7b,h];rfl)
        clear h7b h4b hb7b hb4b;clear HZ;obtain ⟨c0,c1,c2⟩:=aU HX5.out;go_wp2_with fail;refine (HTa.out _ HK5.out).mono ?_;rintro e w6 ⟨⟨v,rfl,hv⟩,hk⟩;obtain ⟨n6,l6,m6,n6a,l6a,m6a,a6,c6,b6,d6,a6a,c6a,b6a,d6a,w7,rfl,hw,hc,hk2,hr,_⟩:=hv.box;have HC7:=ae hc;have HW7:=ae hw;have SK7:=ae (hk.trans hk2);have HK7:=ae (HK5.out.trans SK7.out);clear hv hk hw hc hk2 hr c0 c1 c2;obtain ⟨c0,c1,c2⟩:=aU (HX5.out.kept (SK7.out));rw [HW7.out] at c0 c1 c2;go_wp2_with fail;rw [<-HW7.out];refine (HTb.out _ HK7.out).mono ?_;rintro e w8 ⟨⟨v,rfl,hv⟩,hk⟩;obtain ⟨n8,l8,m8,a8,c8,b8,d8,w9,rfl,hw,hc,hk2,hr,_⟩:=hv.box;have HC9:=ae hc;have HW9:=ae hw;have SK9:=ae (hk.trans hk2);have HK9:=ae (HK7.out.trans SK9.out);clear hv hk hw hc hk2 hr c0 c1 c2;rcases hcsb with h7b | ⟨h7b,h4b⟩
        ·subst h7b;go_wp2_with fail;rw [<-HW9.out];refine (H7b.out _).mono ?_;rintro e w61 ⟨rfl,rfl⟩;go_wp2;go_ret;exact ⟨rfl,HK9.out⟩
        ·subst h7b h4b;go_wp2_with fail;rw [<-HW9.out];refine (H7b.out _).mono ?_;rintro e w61 ⟨rfl,rfl⟩;go_wp2_with fail;refine (H4b.out _).mono ?_;rintro e w62 ⟨rfl,rfl⟩;go_wp2;go_ret;exact ⟨rfl,HK9.out⟩
      ·by_cases h0b:Q2=0
       ·have h7a:=fun W=>fx Q1 7 h0a W
        have h4a:=fun W=>fx Q1 4 h0a W
        rw [aA h0a] at HTa h7a h4a;obtain ⟨b7a,hb7a⟩:∃ b,b=(Q1 == 7):=⟨_,rfl⟩;obtain ⟨b4a,hb4a⟩:∃ b,b=(Q1 == 4):=⟨_,rfl⟩;rw [<-hb7a] at h7a;rw [<-hb4a] at h4a;have H7a:Hid (∀ W,Calls Tryz.prog 33 #[.iface 60 (.int .i64 Q1),.int .i64 7] W fun e w'=>e=.returned (.bool b7a)/\W=w'):=ae h7a;have H4a:Hid (∀ W,Calls Tryz.prog 33 #[.iface 60 (.int .i64 Q1),.int .i64 4] W fun e w'=>e=.returned (.bool b4a)/\W=w'):=ae h4a
        have hcsa:b7a=true\/(b7a=false/\b4a=true):=by
         rcases HQa.out with h | h | h
         ·exact absurd h h0a
         ·exact .inr ⟨by rw [hb7a,h];rfl,by rw [hb4a,h];rfl⟩
         ·exact .inl (by rw [hb7a,h];rfl)
        clear h7a h4a hb7a hb4a;subst h0b;rw [aH] at HTb;clear HZ;obtain ⟨c0,c1,c2⟩:=aU HX5.out;go_wp2_with fail;refine (HTa.out _ HK5.out).mono ?_;rintro e w6 ⟨⟨v,rfl,hv⟩,hk⟩;obtain ⟨n6,l6,m6,n6a,l6a,m6a,a6,c6,b6,d6,a6a,c6a,b6a,d6a,w7,rfl,hw,hc,hk2,hr,_⟩:=hv.box;have HC7:=ae hc;have HW7:=ae hw;have SK7:=ae (hk.trans hk2);have HK7:=ae (HK5.out.trans SK7.out);clear hv hk hw hc hk2 hr c0 c1 c2;obtain ⟨c0,c1,c2⟩:=aU (HX5.out.kept (SK7.out));rw [HW7.out] at c0 c1 c2;go_wp2_with fail;rw [<-HW7.out];refine (HTb.out _ HK7.out).mono ?_;rintro e w8 ⟨⟨v,rfl,hv⟩,hk⟩;obtain ⟨n8,l8,m8,a8,c8,b8,d8,w9,rfl,hw,hc,hk2,hr,_⟩:=hv.box;have HC9:=ae hc;have HW9:=ae hw;have SK9:=ae (hk.trans hk2);have HK9:=ae (HK7.out.trans SK9.out);clear hv hk hw hc hk2 hr c0 c1 c2;rcases hcsa with h7a | ⟨h7a,h4a⟩
        ·subst h7a;go_wp2_with fail;rw [<-HW9.out];refine (H7a.out _).mono ?_;rintro e w61 ⟨rfl,rfl⟩;go_wp2;go_ret;exact ⟨rfl,HK9.out⟩
        ·subst h7a h4a;go_wp2_with fail;rw [<-HW9.out];refine (H7a.out _).mono ?_;rintro e w61 ⟨rfl,rfl⟩;go_wp2_with fail;refine (H4a.out _).mono ?_;rintro e w62 ⟨rfl,rfl⟩;go_wp2;go_ret;exact ⟨rfl,HK9.out⟩
       ·have h7a:=fun W=>fx Q1 7 h0a W
        have h4a:=fun W=>fx Q1 4 h0a W
        rw [aA h0a] at HTa h7a h4a;obtain ⟨b7a,hb7a⟩:∃ b,b=(Q1 == 7):=⟨_,rfl⟩;obtain ⟨b4a,hb4a⟩:∃ b,b=(Q1 == 4):=⟨_,rfl⟩;rw [<-hb7a] at h7a;rw [<-hb4a] at h4a;have H7a:Hid (∀ W,Calls Tryz.prog 33 #[.iface 60 (.int .i64 Q1),.int .i64 7] W fun e w'=>e=.returned (.bool b7a)/\W=w'):=ae h7a;have H4a:Hid (∀ W,Calls Tryz.prog 33 #[.iface 60 (.int .i64 Q1),.int .i64 4] W fun e w'=>e=.returned (.bool b4a)/\W=w'):=ae h4a
        have hcsa:b7a=true\/(b7a=false/\b4a=true):=by
         rcases HQa.out with h | h | h
         ·exact absurd h h0a
         ·exact .inr ⟨by rw [hb7a,h];rfl,by rw [hb4a,h];rfl⟩
         ·exact .inl (by rw [hb7a,h];rfl)
        clear h7a h4a hb7a hb4a;have h7b:=fun W=>fx Q2 7 h0b W
        have h4b:=fun W=>fx Q2 4 h0b W
        rw [aA h0b] at HTb h7b h4b;obtain ⟨b7b,hb7b⟩:∃ b,b=(Q2 == 7):=⟨_,rfl⟩;obtain ⟨b4b,hb4b⟩:∃ b,b=(Q2 == 4):=⟨_,rfl⟩;rw [<-hb7b] at h7b;rw [<-hb4b] at h4b;have H7b:Hid (∀ W,Calls Tryz.prog 33 #[.iface 60 (.int .i64 Q2),.int .i64 7] W fun e w'=>e=.returned (.bool b7b)/\W=w'):=ae h7b;have H4b:Hid (∀ W,Calls Tryz.prog 33 #[.iface 60 (.int .i64 Q2),.int .i64 4] W fun e w'=>e=.returned (.bool b4b)/\W=w'):=ae h4b
        have hcsb:b7b=true\/(b7b=false/\b4b=true):=by
         rcases HQb.out with h | h | h
         ·exact absurd h h0b
         ·exact .inr ⟨by rw [hb7b,h];rfl,by rw [hb4b,h];rfl⟩
         ·exact .inl (by rw [hb7b,h];rfl)
        clear h7b h4b hb7b hb4b;clear HZ;obtain ⟨c0,c1,c2⟩:=aU HX5.out;go_wp2_with fail;refine (HTa.out _ HK5.out).mono ?_;rintro e w6 ⟨⟨v,rfl,hv⟩,hk⟩;obtain ⟨n6,l6,m6,n6a,l6a,m6a,a6,c6,b6,d6,a6a,c6a,b6a,d6a,w7,rfl,hw,hc,hk2,hr,_⟩:=hv.box;have HC7:=ae hc;have HW7:=ae hw;have SK7:=ae (hk.trans hk2);have HK7:=ae (HK5.out.trans SK7.out);clear hv hk hw hc hk2 hr c0 c1 c2;obtain ⟨c0,c1,c2⟩:=aU (HX5.out.kept (SK7.out));rw [HW7.out] at c0 c1 c2;go_wp2_with fail;rw [<-HW7.out];refine (HTb.out _ HK7.out).mono ?_;rintro e w8 ⟨⟨v,rfl,hv⟩,hk⟩;obtain ⟨n8,l8,m8,a8,c8,b8,d8,w9,rfl,hw,hc,hk2,hr,_⟩:=hv.box;have HC9:=ae hc;have HW9:=ae hw;have SK9:=ae (hk.trans hk2);have HK9:=ae (HK7.out.trans SK9.out);clear hv hk hw hc hk2 hr c0 c1 c2;rcases hcsa with h7a | ⟨h7a,h4a⟩
        ·rcases hcsb with h7b | ⟨h7b,h4b⟩
         ·subst h7a;go_wp2_with fail;rw [<-HW9.out];refine (H7a.out _).mono ?_;rintro e w61 ⟨rfl,rfl⟩;subst h7b;go_wp2_with fail;refine (H7b.out _).mono ?_;rintro e w62 ⟨rfl,rfl⟩;go_wp2;go_ret;exact ⟨rfl,HK9.out⟩
         ·subst h7a;go_wp2_with fail;rw [<-HW9.out];refine (H7a.out _).mono ?_;rintro e w61 ⟨rfl,rfl⟩;subst h7b h4b;go_wp2_with fail;refine (H7b.out _).mono ?_;rintro e w62 ⟨rfl,rfl⟩;go_wp2_with fail;refine (H4b.out _).mono ?_;rintro e w63 ⟨rfl,rfl⟩;go_wp2;go_ret;exact ⟨rfl,HK9.out⟩
        ·rcases hcsb with h7b | ⟨h7b,h4b⟩
         ·subst h7a h4a;go_wp2_with fail;rw [<-HW9.out];refine (H7a.out _).mono ?_;rintro e w61 ⟨rfl,rfl⟩;go_wp2_with fail;refine (H4a.out _).mono ?_;rintro e w62 ⟨rfl,rfl⟩;subst h7b;go_wp2_with fail;refine (H7b.out _).mono ?_;rintro e w63 ⟨rfl,rfl⟩;go_wp2;go_ret;exact ⟨rfl,HK9.out⟩
         ·subst h7a h4a;go_wp2_with fail;rw [<-HW9.out];refine (H7a.out _).mono ?_;rintro e w61 ⟨rfl,rfl⟩;go_wp2_with fail;refine (H4a.out _).mono ?_;rintro e w62 ⟨rfl,rfl⟩;subst h7b h4b;go_wp2_with fail;refine (H7b.out _).mono ?_;rintro e w63 ⟨rfl,rfl⟩;go_wp2_with fail;refine (H4b.out _).mono ?_;rintro e w64 ⟨rfl,rfl⟩;go_wp2;go_ret;exact ⟨rfl,HK9.out⟩
    ·have hpi:((pn:Int) != (V:Int))=true:=by simp;omega
     go_wp2_with fail;refine (HA.out _).mono ?_;rintro e w5 ⟨rfl,hk5⟩;go_wp2;go_ret;exact ⟨rfl,HK4.out.trans hk5⟩
   ·rw [aA hq0] at HC;go_wp2_with fail;refine (HC.out _ HK3.out).mono ?_;rintro e w4 ⟨rfl,hk4⟩;have HK4:=ae (HK3.out.trans hk4);clear c0 c1 c2 hk4;go_wp2_with fail;refine (HA.out _).mono ?_;rintro e w5 ⟨rfl,hk5⟩;go_wp2;go_ret;exact ⟨rfl,HK4.out.trans hk5⟩
theorem lH (xv:Value) (ss:List Nat) (w:World) (hx:am w xv (aO ss)) (hm:∀ s∈ss,s<16777216):Calls Tryz.prog 35 #[xv] w fun e w'=>e=.returned (.bool (cV ss 0))/\w'=w:=by
 obtain ⟨xa,xc,hxs,hxc,hxl,hxg⟩:=id hx;obtain ⟨m,hms⟩:∃ m,m=ss.length:=⟨_,rfl⟩;have hln:(aO ss).length=ss.length:=by simp [aO]
 rw [hln,<-hms] at hxs;subst hxs;have hml:m<=140737488355328:=by omega
 have HF:=ae hx;have HM:=ae hm;have HMS:=ae hms;obtain ⟨B,hB⟩:∃ B,B=cV ss 0:=⟨_,rfl⟩;have HB:=ae hB;rw [<-hB];clear hx hm hxc hxl hxg hln hms hB;go_enter Tryz.func35,Tryz.ntmps35;go_wp2_with fail;go_loopg [3,8] m (fun kx sa sj wr=>∃ j a:Nat,j<=m/\sa=.int .i64 a/\sj=.int .i64 j/\m - j<=kx/\a<16777216/\Hid (B=cV (ss.drop j) a)/\wr=w)
 case atStart=>exact ⟨0,0,Nat.zero_le _,rfl,rfl,by omega,by omega,ae (by simpa using HB.out),rfl⟩
 case round =>
  obtain ⟨j,a,hj,rfl,rfl,hjx,ha,HR,rfl⟩:=hrel;by_cases hlt:j<m
  ·have hjl:j<ss.length:=by have:=HMS.out;omega
   obtain ⟨b,o,rfl,hce⟩:=HF.out.get j (by simpa [aO] using hjl);obtain ⟨s,hs⟩:∃ s,s=ss[j]:=⟨_,rfl⟩;have e1:(aO ss)[j]'(by simpa [aO] using hjl)=(s:Int):=by rw [hs];simp [aO]
   rw [e1] at hce;have hs24:s<16777216:=HM.out s (by rw [hs];exact List.getElem_mem _);have HD:Hid (B=((a &&& s == 0)&&cV (ss.drop (j+1)) (a ||| s))):=ae (by have h:=HR.out;rw [List.drop_eq_getElem_cons hjl,<-hs] at h;exact h);have hji:(j:Int)<(m:Int):=by omega
   have ea:=jg a s (by omega) (by omega);have eo:=oH a s (by omega) (by omega);have ho24:a ||| s<2^24:=Nat.or_lt_two_pow (by omega) (by omega)
   obtain ⟨g,hg⟩:∃ g,g=a &&& s:=⟨_,rfl⟩;obtain ⟨z,hz⟩:∃ z,z=a ||| s:=⟨_,rfl⟩
   rw [<-hg] at HD ea;rw [<-hz] at HD eo ho24;have hz24:z<16777216:=ho24;clear hs e1 hg hz ho24;by_cases h0:g=0
   ·subst h0;have HE:Hid (B=cV (ss.drop (j+1)) z):=ae (by have h:=HD.out;simpa using h);go_wp2_with fail;go_roundg (m - (j+1))
    case measure=>omega
    case rel=>exact ⟨j+1,z,by omega,rfl,by go_num,Nat.le_refl _,hz24,HE,rfl⟩
   ·have h0i:((g:Int) == 0)=false:=by rw [beq_eq_false_iff_ne];omega
    have h0n:((g:Int) != 0)=true:=by rw [bne_iff_ne];omega
    have HE:Hid (B=false):=ae (by
                         have h:=HD.out;have h2:(g == 0)=false:=by rw [beq_eq_false_iff_ne];exact h0
                         rw [h2,Bool.false_and] at h;exact h)
    go_wp2;go_ret;exact ⟨by rw [HE.out];rfl,rfl⟩
  ·have hji:¬ (j:Int)<(m:Int):=by omega
   have HE:Hid (B=true):=ae (by have h:=HR.out;rw [List.drop_eq_nil_of_le (by have:=HMS.out;omega)] at h;exact h);go_wp2_with fail;go_ret;exact ⟨by rw [HE.out];rfl,rfl⟩
theorem xf (W:World):Calls Tryz.prog 33 #[.iface 60 (.int .i64 4),.int .i64 4] W fun e w'=>e=.returned (.bool true)/\W=w':=by
 have h:=fx 4 4 (by decide) W;rw [aA (by decide)] at h;exact h
section
variable (v pv:Value) (f:Fm) (V T:Nat) (ps:List Rw) (w:World) (hv:aG w v f.nodes) (hok:Ok f V T) (hck:di f=0) (ht:f.top<=9223372036854775807) (hp:RatsAt w pv ps) (hp3:∀ r∈ps,r.Short 3) (hp30:ps.length<=30) (hlen:ps.length=V) (hbad:bI ps=false)
include hv hok hck ht hp hp3 hp30 hlen hbad
theorem rU:∃ (Q2:Nat) (rR:Rw),(Q2=0\/Q2=4\/Q2=7) /\
  (∀ W,af w W->Calls Tryz.prog 32 #[.agg #[.int .i64 V,v,.int .i64 T],pv] W fun e w'=>(∃ v',e=.returned (.tuple #[v',aV Q2])/\RatAt w' v' rR)/\af W w') /\
  (Q2=0->∃ (X Y:List Nat) (x y:Rw),(∀ s∈X,s<16777216) /\
   (∀ W,af w W->Calls Tryz.prog 34 #[.agg #[.int .i64 V,v,.int .i64 T]] W fun e w'=>(∃ v',e=.returned (.tuple #[v',.nilIface])/\am w' v' (aO X))/\af W w') /\
   (∀ W u,af w W->am W u (aO X)->Calls Tryz.prog 13 #[u,pv] W fun e w'=>(∃ v',e=.returned (.tuple #[v',.nilIface])/\RatAt w' v' x)/\af W w')/\(cV X 0=true->(∀ W u1 u2,RatAt W u1 x->RatAt W u2 rR->Calls Tryz.prog 29 #[u1,u2] W fun e w'=>e=.returned (.int .i64 0)/\af W w')) /\
   ∀ W,af w W->Calls Tryz.prog 36 #[.agg #[.int .i64 V,v,.int .i64 T]] W fun e w'=>(e=.returned (.tuple #[.slice none 0 0,.iface 60 (.int .i64 4)]) ∨
    ∃ v',e=.returned (.tuple #[v',.nilIface])/\am w' v' (aO Y)/\(∀ s∈Y,s<16777216)/\(∀ W u,af w W->am W u (aO Y)->Calls Tryz.prog 15 #[u,pv] W fun e w'=>(∃ v',e=.returned (.tuple #[v',.nilIface])/\RatAt w' v' y)/\af W w')/\(cV Y 0=true->(∀ W u1 u2,RatAt W u1 y->RatAt W u2 rR->Calls Tryz.prog 29 #[u1,u2] W fun e w'=>e=.returned (.int .i64 0)/\af W w')))/\af W w'):=by
 obtain ⟨Q2,R,hQ2,hT2⟩:=xC v pv f V T ps w hv hok hck ht hp hp3 hp30 hlen hbad;refine ⟨Q2,_,?_,hT2,?_⟩
 ·rcases hQ2 with (h | h) | ⟨h,_⟩
  ·exact .inr (.inl h)
  ·exact .inr (.inr h)
  ·exact .inl h
 ·intro h2
  obtain ⟨p,out,hsy,hl,hcu,hR,hC⟩:∃ p out,cC V T f=true/\dx V T f.nodes=some p/\cq p.1=some out/\R=sumWs ps out out.length /\
    ∀ W,af w W->Calls Tryz.prog 34 #[.agg #[.int .i64 V,v,.int .i64 T]] W fun e w'=>(∃ v',e=.returned (.tuple #[v',.nilIface])/\am w' v' (aO p.1))/\af W w':=by
   rcases hQ2 with (h | h) | ⟨_,h⟩
   ·omega
   ·omega
   ·exact h
  have hpo:∀ r∈ps,r.Ok:=hp.ok;obtain ⟨hg,hm,_⟩:=dt hok hsy hl;have hX24:∀ s∈p.1,s<16777216/\nz s<(ps.length:Int):=fun s hs=>fe hlen hok.v24 (dK hok hsy hl s hs)
  have hX0:=kA hg hm (fun s hs=>(hX24 s hs).2) hbad;obtain ⟨fU,_,_,_⟩:=nx pv ps w hp hp3 hp30 (aO p.1) hX0;have hF91:∀ s∈p.1,(ah (fQ ps s)).Short 91:=fun s _=>jn hpo hp3 hp30 s
  have sF:=cD hg.2 hF91;have sF2:=df sF (by decide);have w4:∀ {r:Rw} {k:Nat},k<=400000->r.Short k->r.Short 400000:=fun hk h=>⟨Nat.le_trans h.1 hk,Nat.le_trans h.2 hk⟩
  have sR:(ah R).Short 400000:=by
   have h:=i_ (l:=out) hp3 hpo hp30 out.length (Nat.le_refl _);have h2:=lL hcu;rw [hR];exact ⟨Nat.le_trans h.1 (by omega),Nat.le_trans h.2 (by omega)⟩
  have eX:nm (aO p.1) ps=1 - aP (fQ ps) p.1:=by unfold nm;rw [if_pos hX0,cP]
  rw [eX] at fU;obtain ⟨l,hl9⟩:∃ l:List Nat,l=(cu V T f.nodes).getD []:=⟨_,rfl⟩;refine ⟨p.1,l,ah (1 - aP (fQ ps) p.1),ah (aP (gQ ps) l),fun s hs=>(hX24 s hs).1,hC,fU,fun ha W u1 u2 k1 k2=>?_,fun W hk=>?_⟩
  ·have h:=jk _ _ (w4 (by omega) sF2) sR W u1 u2 k1 k2;rw [uF hok hsy hl hcu hlen ha,<-hR,Rat.sub_self] at h;exact h
  ·have hA:=km v f V T W (hv.kept hk) hok hck hsy (Cu hok hsy);cases hpa:cu V T f.nodes with
   | none =>
    rw [hpa] at hA;refine hA.mono ?_;rintro e w' ⟨he,hk'⟩;exact ⟨.inl he,hk'⟩
   | some l2 =>
    rw [hpa] at hA hl9;have hl9:l=l2:=hl9;subst hl9;refine hA.mono ?_;rintro e w' ⟨⟨v',he,ho⟩,hk'⟩;have hlg:=(fD hok hsy hpa).1;have hG91:∀ s∈l,(ah (gQ ps s)).Short 91:=fun s _=>kV hpo hbad hp3 hp30 s
    have sG:=cD hlg.2 hG91;have hY24:∀ s∈l,s<16777216/\nz s<(ps.length:Int):=fun s hs=>fe hlen hok.v24 (dU hok hsy hpa ho.2 s hs)
    have hY0:=kA hlg ho.2 (fun s hs=>(hY24 s hs).2) hbad;obtain ⟨_,fW,_,_⟩:=nx pv ps w hp hp3 hp30 (aO l) hY0;have eY:nj (aO l) ps=aP (gQ ps) l:=by unfold nj;rw [if_pos hY0,cP]
    rw [eY] at fW;refine ⟨.inr ⟨v',he,ho.1.ints,fun s hs=>(hY24 s hs).1,fW,fun ha W u1 u2 k1 k2=>?_⟩,hk'⟩;have h:=jk _ _ (w4 (by omega) sG) sR W u1 u2 k1 k2;rw [tf hok hsy hl hcu hlen hpa ho.2 ha,<-hR,Rat.sub_self] at h;exact h
end
theorem re (v pv:Value) (f:Fm) (ps:List Rw) (w:World) (hv:aG w v f.nodes) (hfo:CL f) (hp:dO w pv ps) :
  Calls Tryz.prog 7 #[jo v f,pv] w fun e w'=>e=.returned (.bool true)/\af w w':=by
 have ht:f.top<=9223372036854775807:=hfo.2.1.2;have hh:∀ W,af w W->Calls Tryz.prog 19 #[jo v f] W fun e w'=>(∃ b,e=.returned (.bool b))/\af W w':=fun W hk=>mA v f W (hv.kept hk)
 have hc:∀ W,af w W->Calls Tryz.prog 30 #[jo v f] W fun e w'=>e=.returned (aV (di f))/\af W w':=fun W hk=>dE v f W (hv.kept hk) ht
 have HBO:=ae fun (h30:ps.length<=30) (hs3:∀ r∈ps,r.Short 3) (hp2:RatsAt w pv ps) V T (hok:Ok f V T) (hck:di f=0) (hl:ps.length=V) (hb:bI ps=false)=>rU v pv f V T ps w hv hok hck ht hp2 hs3 h30 hl hb
 have hs:∃ a n c,v=.slice a n c:=by obtain ⟨a,c,h,_⟩:=hv;exact ⟨a,_,c,h⟩
 have HOK:=ae fun (h:di f=0)=>Bn f h
 obtain ⟨q,hq⟩:∃ q,q=di f:=⟨_,rfl⟩;rw [<-hq] at hc HOK HBO;have HL:=ae (fun W (h:af w W)=>qe pv ps W (hp.kept h));have HRV:=ae hp;obtain ⟨a,n,c,rfl⟩:=hs;obtain ⟨pa,pc,hps,_⟩:=id hp;obtain ⟨pn,hpn⟩:∃ pn,pn=ps.length:=⟨_,rfl⟩;rw [<-hpn] at hps;subst hps;obtain ⟨vars,nodes,top⟩:=f;have HH:Hid (∀ W,af w W->Calls Tryz.prog 19 #[.agg #[.int .i64 vars,.slice a n c,.int .i64 top]] W fun e w'=>(∃ b,e=.returned (.bool b))/\af W w'):=ae hh;have HC:Hid (∀ W,af w W->Calls Tryz.prog 30 #[.agg #[.int .i64 vars,.slice a n c,.int .i64 top]] W fun e w'=>e=.returned (aV q)/\af W w'):=ae hc;have HA:Hid (∀ W,Calls Tryz.prog 10 #[] W fun e w'=>e=.returned (.bool true)/\af W w'):=ae fun W=>nN W
 show Calls _ _ #[.agg #[.int .i64 vars,.slice a n c,.int .i64 top],.slice pa pn pc] _ _;obtain ⟨w0,hw0⟩:∃ w0,w0=w.alloc (.cells #[.int .i64 vars,.slice a n c,.int .i64 top] 41):=⟨_,rfl⟩;have HX0:Hid (ai w0 w.heap.size 41 [.int .i64 vars,.slice a n c,.int .i64 top]):=ae (by rw [hw0];exact ai.made w #[.int .i64 vars,.slice a n c,.int .i64 top] 41);have HK0:Hid (af w w0):=ae (by rw [hw0];exact (af.refl _).alloc _);have HW0:=ae hw0;have HPN:=ae hpn;clear hv hh hc hq ht hfo hp hw0 hpn;go_enter Tryz.func7,Tryz.ntmps7;go_wp2_with fail;rw [<-HW0.out];refine (HA.out _).mono ?_;rintro e w1 ⟨rfl,hk1⟩;have HX1:=ae (HX0.out.kept hk1);have HK1:=ae (HK0.out.trans hk1);obtain ⟨c0,c1,c2⟩:=aU HX1.out;clear hk1;go_wp2_with fail;refine (HH.out _ HK1.out).mono ?_;rintro e w2 ⟨⟨b,rfl⟩,hk2⟩;have HX2:=ae (HX1.out.kept hk2);have HK2:=ae (HK1.out.trans hk2);clear hk2 c0 c1 c2;cases b with
 | true =>
  go_wp2_with fail;refine (HA.out _).mono ?_;rintro e w3 ⟨rfl,hk3⟩;go_wp2;go_ret;exact ⟨rfl,HK2.out.trans hk3⟩
 | false =>
  go_wp2_with fail;refine (HL.out _ HK2.out).mono ?_;rintro e w3 ⟨⟨u2,rfl,bb,rfl,hbb⟩,hk3⟩;have HX3:=ae (HX2.out.kept hk3);have HK3:=ae (HK2.out.trans hk3);have HBB:=ae hbb;clear hk3 hbb;cases bb with
  | true =>
   go_wp2_with fail;refine (HA.out _).mono ?_;rintro e w4 ⟨rfl,hk4⟩;go_wp2;go_ret;exact ⟨rfl,HK3.out.trans hk4⟩
  | false =>
   obtain ⟨h30,hs3⟩:=HBB.out rfl;have hpv:=HRV.out.small fun r hr=>⟨Nat.le_trans (hs3 r hr).1 (by omega),Nat.le_trans (hs3 r hr).2 (by omega)⟩
   have HB2:=ae (HBO.out h30 hs3 hpv);have HBA:Hid (∀ W,af w W->Calls Tryz.prog 31 #[.slice pa pn pc] W fun e w'=>e=.returned (.bool (bI ps))/\af W w'):=ae fun W h=>oR _ ps W (hpv.kept h) (fun r hr=>⟨Nat.le_trans (hs3 r hr).1 (by omega),Nat.le_trans (hs3 r hr).2 (by omega)⟩)
   clear h30 hs3 hpv HBO;obtain ⟨c0,c1,c2⟩:=aU HX3.out;by_cases hq0:q=0
   ·subst hq0;rw [aH] at HC;obtain ⟨V,T,hok⟩:=HOK.out rfl;have HB3:=ae (HB2.out V T hok rfl);have e1:vars=(V:Int):=hok.vars;have e2:top=(T:Int):=hok.top;subst e1 e2;clear hok HB2 HOK;go_wp2_with fail;refine (HC.out _ HK3.out).mono ?_;rintro e w4 ⟨rfl,hk4⟩;have HX4:=ae (HX3.out.kept hk4);have HK4:=ae (HK3.out.trans hk4);clear c0 c1 c2 hk4;obtain ⟨c0,c1,c2⟩:=aU HX4.out;by_cases hpV:pn=V
    ·subst hpV;obtain ⟨bd,hbd⟩:∃ bd,bd=bI ps:=⟨_,rfl⟩;rw [<-hbd] at HBA;have HBD:=ae hbd;clear hbd;go_wp2_with fail;refine (HBA.out _ HK4.out).mono ?_;rintro e w5 ⟨rfl,hk5⟩;have HX5:=ae (HX4.out.kept hk5);have HK5:=ae (HK4.out.trans hk5);clear c0 c1 c2 hk5;cases bd with
     | true =>
      go_wp2_with fail;refine (HA.out _).mono ?_;rintro e w6 ⟨rfl,hk6⟩;go_wp2;go_ret;exact ⟨rfl,HK5.out.trans hk6⟩
     | false =>
      obtain ⟨Q2,rR,hQ2,hT2,hZ⟩:=HB3.out HPN.out.symm HBD.out.symm;have HQb:=ae hQ2;have HTb:=ae hT2;have HZ:=ae hZ;clear hQ2 hT2 hZ HB3;by_cases h0b:Q2=0
      ·subst h0b;rw [aH] at HTb;obtain ⟨X,Y,x,y,hX24,hCU,hUP,hCX,hPA⟩:=HZ.out rfl;have HX24:=ae hX24;have HCU:=ae hCU;have HUP:=ae hUP;have HCX:=ae hCX;have HPA:=ae hPA;clear hX24 hCU hUP hCX hPA HZ;obtain ⟨c0,c1,c2⟩:=aU HX5.out;go_wp2_with fail;refine (HTb.out _ HK5.out).mono ?_;rintro e w6 ⟨⟨v,rfl,hv⟩,hk⟩;obtain ⟨n6,l6,m6,a6,c6,b6,d6,w7,rfl,hw,hc,hk2,hr,_⟩:=hv.box;have HC7:=ae hc;have HW7:=ae hw;have SK7:=ae (hk.trans hk2);have HK7:=ae (HK5.out.trans SK7.out);clear hv hk hw hc hk2 hr c0 c1 c2;obtain ⟨c0,c1,c2⟩:=aU (HX5.out.kept (SK7.out));rw [HW7.out] at c0 c1 c2;go_wp2_with fail;rw [<-HW7.out];refine (HCU.out _ HK7.out).mono ?_;rintro e w8 ⟨⟨v8,rfl,hv8⟩,hk8⟩;have HK8:=ae (HK7.out.trans hk8);have SK8:=ae hk8;clear hk8 c0 c1 c2;have HV8:=ae hv8;obtain ⟨B1,hB1⟩:∃ B,B=cV X 0:=⟨_,rfl⟩;have HB1:=ae hB1;have HAP:Hid (∀ W u,am W u (aO X)->Calls Tryz.prog 35 #[u] W fun e w'=>e=.returned (.bool B1)/\w'=W):=ae fun W u hu=>by rw [hB1];exact lH u X W hu HX24.out
       clear hv8 hB1;go_wp2_with fail;refine (HAP.out _ _ HV8.out).mono ?_;rintro e w9 ⟨rfl,h9⟩;rw [h9];clear h9;cases B1 with
       | false =>
        obtain ⟨c0,c1,c2⟩:=aU (HX5.out.kept (SK7.out.trans (SK8.out)));go_wp2_with fail;refine (HPA.out _ HK8.out).mono ?_;rintro e w9 ⟨he,hk9⟩;have HK9:=ae (HK8.out.trans hk9);have SK9:=ae hk9;clear hk9 c0 c1 c2;rcases he with rfl | ⟨v,rfl,hv,hY24,hLO,hCY⟩
        ·go_wp2_with fail;refine (xf _).mono ?_;rintro e w60 ⟨rfl,rfl⟩;go_wp2;go_ret;exact ⟨rfl,HK9.out⟩
        ·have HVY:=ae hv;have HLO:=ae hLO;have HCY:=ae hCY;obtain ⟨B2,hB2⟩:∃ B,B=cV Y 0:=⟨_,rfl⟩;have HB2:=ae hB2;have HAQ:Hid (∀ W u,am W u (aO Y)->Calls Tryz.prog 35 #[u] W fun e w'=>e=.returned (.bool B2)/\w'=W):=ae fun W u hu=>by rw [hB2];exact lH u Y W hu hY24
         clear hv hLO hCY hB2 hY24;go_wp2_with fail;refine (HAQ.out _ _ HVY.out).mono ?_;rintro e w61 ⟨rfl,h61⟩;rw [h61];clear h61;cases B2 with
         | false =>
          go_wp2;go_ret;exact ⟨rfl,HK9.out⟩
         | true =>
          have HCY2:=ae (HCY.out HB2.out.symm);go_wp2_with fail;refine (HLO.out _ _ HK9.out HVY.out).mono ?_;rintro e w10 ⟨⟨v,rfl,hv⟩,hk⟩;obtain ⟨n10,l10,m10,a10,c10,b10,d10,w11,rfl,hw,hc,hk2,hr,_⟩:=hv.box;have HC11:=ae hc;have HW11:=ae hw;have SK11:=ae (hk.trans hk2);have HK11:=ae (HK9.out.trans SK11.out);clear hv hk hw hc hk2 hr;obtain ⟨v1,v2,v3,ev1,ev2,ev3,ev4,yv0,yv1,yv2,hlv,HRv⟩:=(HC7.out.kept (SK8.out.trans (SK9.out.trans (SK11.out)))).read;obtain ⟨s1,s2,s3,es1,es2,es3,es4,ys0,ys1,ys2,hls,HRs⟩:=(HC11.out).read;rw [HW11.out] at yv0 yv1 yv2 ys0 ys1 ys2;go_wp2_with fail;rw [<-HW11.out];refine (HCY2.out _ _ _ HRs.out HRv.out).mono ?_;rintro e w12 ⟨rfl,hk12⟩;have HK12:=ae (HK11.out.trans hk12);have SK12:=ae hk12;clear hk12;go_wp2;go_ret;exact ⟨rfl,HK12.out⟩
       | true =>
        have HCX2:=ae (HCX.out HB1.out.symm);go_wp2_with fail;refine (HUP.out _ _ HK8.out HV8.out).mono ?_;rintro e w9 ⟨⟨v,rfl,hv⟩,hk⟩;obtain ⟨n9,l9,m9,a9,c9,b9,d9,w10,rfl,hw,hc,hk2,hr,_⟩:=hv.box;have HC10:=ae hc;have HW10:=ae hw;have SK10:=ae (hk.trans hk2);have HK10:=ae (HK8.out.trans SK10.out);clear hv hk hw hc hk2 hr;obtain ⟨v1,v2,v3,ev1,ev2,ev3,ev4,yv0,yv1,yv2,hlv,HRv⟩:=(HC7.out.kept (SK8.out.trans (SK10.out))).read;obtain ⟨s1,s2,s3,es1,es2,es3,es4,ys0,ys1,ys2,hls,HRs⟩:=(HC10.out).read;rw [HW10.out] at yv0 yv1 yv2 ys0 ys1 ys2;go_wp2_with fail;rw [<-HW10.out];refine (HCX2.out _ _ _ HRs.out HRv.out).mono ?_;rintro e w11 ⟨rfl,hk11⟩;have HK11:=ae (HK10.out.trans hk11);have SK11:=ae hk11;clear hk11;clear yv0 yv1 yv2 hlv HRv;clear ys0 ys1 ys2 hls HRs;obtain ⟨c0,c1,c2⟩:=aU (HX5.out.kept (SK7.out.trans (SK8.out.trans (SK10.out.trans (SK11.out)))));go_wp2_with fail;refine (HPA.out _ HK11.out).mono ?_;rintro e w12 ⟨he,hk12⟩;have HK12:=ae (HK11.out.trans hk12);have SK12:=ae hk12;clear hk12 c0 c1 c2;rcases he with rfl | ⟨v,rfl,hv,hY24,hLO,hCY⟩
        ·go_wp2_with fail;refine (xf _).mono ?_;rintro e w60 ⟨rfl,rfl⟩;go_wp2;go_ret;exact ⟨rfl,HK12.out⟩
        ·have HVY:=ae hv;have HLO:=ae hLO;have HCY:=ae hCY;obtain ⟨B2,hB2⟩:∃ B,B=cV Y 0:=⟨_,rfl⟩;have HB2:=ae hB2;have HAQ:Hid (∀ W u,am W u (aO Y)->Calls Tryz.prog 35 #[u] W fun e w'=>e=.returned (.bool B2)/\w'=W):=ae fun W u hu=>by rw [hB2];exact lH u Y W hu hY24
         clear hv hLO hCY hB2 hY24;go_wp2_with fail;refine (HAQ.out _ _ HVY.out).mono ?_;rintro e w61 ⟨rfl,h61⟩;rw [h61];clear h61;cases B2 with
         | false =>
          go_wp2;go_ret;exact ⟨rfl,HK12.out⟩
         | true =>
          have HCY2:=ae (HCY.out HB2.out.symm);go_wp2_with fail;refine (HLO.out _ _ HK12.out HVY.out).mono ?_;rintro e w13 ⟨⟨v,rfl,hv⟩,hk⟩;obtain ⟨n13,l13,m13,a13,c13,b13,d13,w14,rfl,hw,hc,hk2,hr,_⟩:=hv.box;have HC14:=ae hc;have HW14:=ae hw;have SK14:=ae (hk.trans hk2);have HK14:=ae (HK12.out.trans SK14.out);clear hv hk hw hc hk2 hr;obtain ⟨v1,v2,v3,ev1,ev2,ev3,ev4,yv0,yv1,yv2,hlv,HRv⟩:=(HC7.out.kept (SK8.out.trans (SK10.out.trans (SK11.out.trans (SK12.out.trans (SK14.out)))))).read;obtain ⟨s1,s2,s3,es1,es2,es3,es4,ys0,ys1,ys2,hls,HRs⟩:=(HC14.out).read;rw [HW14.out] at yv0 yv1 yv2 ys0 ys1 ys2;go_wp2_with fail;rw [<-HW14.out];refine (HCY2.out _ _ _ HRs.out HRv.out).mono ?_;rintro e w15 ⟨rfl,hk15⟩;have HK15:=ae (HK14.out.trans hk15);have SK15:=ae hk15;clear hk15;go_wp2;go_ret;exact ⟨rfl,HK15.out⟩
      ·have h7b:=fun W=>fx Q2 7 h0b W
       have h4b:=fun W=>fx Q2 4 h0b W
       rw [aA h0b] at HTb h7b h4b;obtain ⟨b7b,hb7b⟩:∃ b,b=(Q2 == 7):=⟨_,rfl⟩;obtain ⟨b4b,hb4b⟩:∃ b,b=(Q2 == 4):=⟨_,rfl⟩;rw [<-hb7b] at h7b;rw [<-hb4b] at h4b;have H7b:Hid (∀ W,Calls Tryz.prog 33 #[.iface 60 (.int .i64 Q2),.int .i64 7] W fun e w'=>e=.returned (.bool b7b)/\W=w'):=ae h7b;have H4b:Hid (∀ W,Calls Tryz.prog 33 #[.iface 60 (.int .i64 Q2),.int .i64 4] W fun e w'=>e=.returned (.bool b4b)/\W=w'):=ae h4b
       have hcsb:b7b=true\/(b7b=false/\b4b=true):=by
        rcases HQb.out with h | h | h
        ·exact absurd h h0b
        ·exact .inr ⟨by rw [hb7b,h];rfl,by rw [hb4b,h];rfl⟩
        ·exact .inl (by rw [hb7b,h];rfl)
       clear h7b h4b hb7b hb4b;clear HZ;obtain ⟨c0,c1,c2⟩:=aU HX5.out;go_wp2_with fail;refine (HTb.out _ HK5.out).mono ?_;rintro e w6 ⟨⟨v,rfl,hv⟩,hk⟩;obtain ⟨n6,l6,m6,a6,c6,b6,d6,w7,rfl,hw,hc,hk2,hr,_⟩:=hv.box;have HC7:=ae hc;have HW7:=ae hw;have SK7:=ae (hk.trans hk2);have HK7:=ae (HK5.out.trans SK7.out);clear hv hk hw hc hk2 hr c0 c1 c2;rcases hcsb with h7b | ⟨h7b,h4b⟩
       ·subst h7b;go_wp2_with fail;rw [<-HW7.out];refine (H7b.out _).mono ?_;rintro e w61 ⟨rfl,rfl⟩;go_wp2;go_ret;exact ⟨rfl,HK7.out⟩
       ·subst h7b h4b;go_wp2_with fail;rw [<-HW7.out];refine (H7b.out _).mono ?_;rintro e w61 ⟨rfl,rfl⟩;go_wp2_with fail;refine (H4b.out _).mono ?_;rintro e w62 ⟨rfl,rfl⟩;go_wp2;go_ret;exact ⟨rfl,HK7.out⟩
    ·have hpi:((pn:Int) != (V:Int))=true:=by simp;omega
     go_wp2_with fail;refine (HA.out _).mono ?_;rintro e w5 ⟨rfl,hk5⟩;go_wp2;go_ret;exact ⟨rfl,HK4.out.trans hk5⟩
   ·rw [aA hq0] at HC;go_wp2_with fail;refine (HC.out _ HK3.out).mono ?_;rintro e w4 ⟨rfl,hk4⟩;have HK4:=ae (HK3.out.trans hk4);clear c0 c1 c2 hk4;go_wp2_with fail;refine (HA.out _).mono ?_;rintro e w5 ⟨rfl,hk5⟩;go_wp2;go_ret;exact ⟨rfl,HK4.out.trans hk5⟩
section
open Go.RowKit Go.ChangeShapes Go.WideShapes Go.ChangeAt Go.Joins Go.Deep
def FO (w:World) (v:Value) (L:List (Int × Int)):Prop :=
 ∃ (a:Option Addr) (c:Nat),v=.slice a L.length c/\(L.length<=c/\(a=none->c=0))/\L.length<=140737488355328 /\
  ∀ i (h:i<L.length),∃ b o,a=some ⟨b,o,none⟩/\w.rangeAt b (o+i*2) (cG L[i])
section
variable {H:Type} {enc:TypeId × Value->H} {W:World} {base:Nat}
theorem BK {v:Value} {d:DataW H} {p:List MemPlace} (hv:Value.okWide Tryz.prog W .any base 23 v) (hb:∀ n∈d.weights Tryz.prog 23,n<=reachBytes)
  (h:DataW.Trod enc Tryz.prog W 0 (fun _=>true) true 23 v d p):∃ xs:List Rw,dO W v xs:=by
 obtain ⟨fuel,h1f⟩:=h;obtain ⟨u,xs,e3,hps⟩:=yY hb h1f;obtain ⟨a,c,rfl,_⟩:=id hps;obtain ⟨a2,n2,c2,h5⟩:=okWide_slice Tryz.underlying23 hv;subst h5;have e4:Value.slice a xs.length c=.slice a2 n2 c2:=by simpa [Value.cells] using e3.symm
 rw [<-e4];exact ⟨xs,hps⟩
end
end
section
open Go.RowKit Go.ChangeShapes Go.WideShapes Go.ChangeAt Go.Joins Go.Deep
theorem AW {s:ChangeSpec} (F:FuncId) (fn:Func) (hs1:s.vars=[]) (hs2:∀ (H:Type) (d1 d2:DataW H),s.fn H [d1,d2]={ results:=[.lit (.bool true)],args:=[d1,d2] })
  (hp:fn.params=#[41,23]) (hr:fn.resultTypes=#[4])
  (walk:∀ (W:World) (u v:Value) (f:Fm) (ps:List Rw),aG W u f.nodes->CL f->dO W v ps->Calls Tryz.prog F #[jo u f,v] W fun e w'=>e=.returned (.bool true)/\af W w')
  {H:Type} {enc:TypeId × Value->H} (W:World) (base:Nat) (args:Array Value) (ds gs:List (DataW H)) (before:List MemPlace)
  (hval:∀ (j:Nat) t v,fn.params[j]?=some t->args[j]?=some v->Value.okWide Tryz.prog W .any base t v)
  (hW:DataW.Whole enc Tryz.prog fn.params.toList s.vars false W args.toList ds gs before)
  (hsz:(DataW.weightsEach Tryz.prog (fn.params.toList++s.plain.varTypes Tryz.prog) (ds++gs)).all (·<=reachBytes)=true) :
  Calls Tryz.prog F args W fun e W'=>∃ v,e=.returned v/\s.post enc Tryz.prog fn false true false false W args v W':=by
 have hW':=hW;obtain ⟨p,q,hA,hV,rfl,hfz,_⟩:=hW;rw [hs1] at hV;obtain ⟨rfl,rfl⟩:=trodVars_none hV;rw [hp] at hA hval hsz;obtain ⟨v0,v1,d0,d1,p0,p1,rfl,rfl,rfl,h0,h1⟩:=trodAll_two hA;have h0k:=h0;have h1k:=h1
 obtain ⟨u,f,rfl,hx,hfo⟩:=De (hval 0 _ _ rfl rfl) (fun n hn=>by
  have:=List.all_eq_true.1 hsz n (DataW.weights_mem_each (j:=0) rfl rfl n hn);simpa using this) h0
 obtain ⟨ps,hps⟩:=BK (hval 1 _ _ rfl rfl) (fun n hn=>by
  have:=List.all_eq_true.1 hsz n (DataW.weights_mem_each (j:=1) rfl rfl n hn);simpa using this) h1
 have hlt:∀ x∈p0++p1,x.block<W.heap.size:=fun x hx=>hW'.lt x (by simpa using hx)
 refine (walk W u v1 f ps hx hfo hps).mono fun e W' ⟨he,hk⟩=>?_
 subst he;refine ⟨_,rfl,[d0,d1],[],(p0++p1)++[],[],p0++p1,[],hW',?_,?_,?_,Below.frame hk _,fun h=>by cases h⟩
 ·rw [hr];simp only [List.append_nil,hs2];exact trodAll_mk1 (shut_bool Tryz.underlying4 _)
 ·rw [hp];simp only [List.append_nil,hs2];exact trodAll_mk2 (Below.trod sH (by kernel_rfl) (of_decide_eq_true (by kernel_rfl)) h0k hk (fun x hx=>hlt x (by simp [hx]))) (Below.trod sH (by kernel_rfl) (of_decide_eq_true (by kernel_rfl)) h1k hk (fun x hx=>hlt x (by simp [hx])))
 ·rw [hs1];simp only [List.append_nil,hs2];rfl
end
def chW (l:List Nat):List Char:=l.map Char.ofNat
theorem rP (w r:List Char) (h:∀ c∈w,c≠Char.ofNat 32):wordsSigns (w++Char.ofNat 32 :: r)=w :: wordsSigns r:=by
 induction w with
 | nil=>rfl
 | cons c w ih =>
  have hc:c≠Char.ofNat 32:=h c (by simp);have ih':=ih fun d hd=>h d (List.mem_cons_of_mem _ hd)
  show wordsSigns (c :: (w++Char.ofNat 32 :: r))=_;rw [wordsSigns.eq_3 _ _ (by intro e;exact hc e),ih']
theorem apart (l:List Nat) (h:((chW l).all fun c=>c != Char.ofNat 32)=true):∀ c∈chW l,c≠Char.ofNat 32:=by
 intro c hc;simpa using List.all_eq_true.1 h c hc
def wH:List Nat:=[104,97,114,110,101,115,115]
def wS:List Nat:=[57,97,53,50,54,49,57,97,53,52,57,56,57,48,52,98,56,100,102,50,101,57,56,100,101,56,55,100,51,49,48,56,52,98,52,52,98,99,102,55,49,97,98,97,49,48,97,53,99,56,51,101,98,49,97,49,98,49,51,53,97,97,51,48]
def wC:List Nat:=[99,117,116]
def wR:List Nat:=[97,116,32,102,97,117,108,116,108,105,110,101,47,102,97,117,108,116,108,105,110,101,108,97,119,52,48,46,69,115,97,114,121,80,114,111,100,117,99,116,115,32,102,97,117,108,116,108,105,110,101,47,102,97,117,108,116,108,105,110,101,108,97,119,52,48,46,69,115,97,114,121,66,111,117,110,100,115,32,102,97,117,108,116,108,105,110,101,47,102,97,117,108,116,108,105,110,101,108,97,119,52,48,46,69,115,97,114,121,76,105,107,101,108,105,101,115,116,32,102,97,117,108,116,108,105,110,101,47,102,97,117,108,116,108,105,110,101,108,97,119,52,48,46,69,115,97,114,121,82,105,115,101,115,32,102,97,117,108,116,108,105,110,101,47,102,97,117,108,116,108,105,110,101,108,97,119,52,48,46,69,115,97,114,121,65,112,97,114,116,32,102,97,117,108,116,108,105,110,101,47,102,97,117,108,116,108,105,110,101,108,97,119,52,48,46,69,115,97,114,121,69,110,99,108,111,115,101,115,32,102,97,117,108,116,108,105,110,101,47,102,97,117,108,116,108,105,110,101,108,97,119,51,56,46,68,105,115,106,111,105,110,116,84,111,112,115]
theorem BC:Tryz.prog.initOrder=String.ofList (chW wH++Char.ofNat 32 :: (chW wS++Char.ofNat 32 :: (chW wC++Char.ofNat 32 :: chW wR))):=by kernel_rfl
theorem tw:wordsSigns Tryz.prog.initOrder.toList=chW wH :: chW wS :: chW wC :: wordsSigns (chW wR):=by
 rw [BC,String.toList_ofList,rP _ _ (apart _ (by kernel_rfl)),rP _ _ (apart _ (by kernel_rfl)),rP _ _ (apart _ (by kernel_rfl))]
theorem js:behindMainWord (wordsSigns Tryz.prog.initOrder.toList)=chW wC :: wordsSigns (chW wR):=by
 rw [tw];generalize wordsSigns (chW wR)=W;have h:((chW wH == "harness".toList||chW wH == "ownmain".toList)&&isSumSigns (chW wS))=true:=by kernel_rfl
 unfold behindMainWord;exact if_pos h
theorem BA:Tryz.prog.laysLater=false:=by kernel_rfl
theorem vC:Tryz.prog.bearsReflect=false:=by kernel_rfl
theorem Dv:Tryz.prog.doorFits []=true:=by kernel_rfl
theorem tt (W:List (List Char)):stripLifts liftWords (chW wC :: W)=([],chW wC :: W):=by kernel_rfl
theorem As {P:Program} {c:List Char} {W:List (List Char)} (h:behindMainWord (wordsSigns P.initOrder.toList)=c :: W) (hs:stripLifts liftWords (c :: W)=([],c :: W))
  (hc:c= "cut".toList) (hl:P.laysLater=false) (hr:P.bearsReflect=false) (hd:P.doorFits []=true):P.mayEnter=true:=by
 have hh:((c :: W).head? == some "cut".toList)=true:=by rw [hc];simp
 unfold Program.mayEnter;rw [h];simp only [hs,hl,hr,hd,hh];simp
theorem Dn {P:Program} {h s:List Char} {W:List (List Char)} (hw:wordsSigns P.initOrder.toList=h :: s :: W) (hs:isSumSigns s=true) (hh:(h == "harness".toList)=true):P.mainIs=some (true,s):=by
 unfold Program.mainIs;rw [hw];simp only [hs,hh];rfl
theorem AX {P:Program} {c:List Char} {W:List (List Char)} (h:behindMainWord (wordsSigns P.initOrder.toList)=c :: W) (hs:stripLifts liftWords (c :: W)=([],c :: W)):P.headLifts=[]:=by
 unfold Program.headLifts;rw [h,hs];dsimp only;split <;> rfl
theorem Az {P:Program} {c:List Char} {W:List (List Char)} (h:behindMainWord (wordsSigns P.initOrder.toList)=c :: W) (hl:P.headLifts=[]) (hc:(c == "carried".toList)=false):P.liftsFinal=false:=by
 unfold Program.liftsFinal;rw [h,hl]
 have:((c :: W).head? == some "carried".toList)=false:=by
  rw [Bool.eq_false_iff] at hc⊢;intro e;apply hc;simpa using e
 simp only [this];rfl
theorem Do {P:Program} {c:List Char} {W:List (List Char)} (h:behindMainWord (wordsSigns P.initOrder.toList)=c :: W) (h0:(c == "gc".toList)=false) (h1:(c == "spec".toList)=false) (h2:(c == "cut".toList)=true):P.make=some .cut:=by
 unfold Program.make;rw [h];simp only [h0,h1,h2];rfl
theorem Ff:chW wC= "cut".toList:=by kernel_rfl
theorem tk:Tryz.prog.mayEnter=true:=As js (tt _) Ff BA vC Dv
theorem xl:Tryz.prog.mainIs=some (true,"9a52619a5498904b8df2e98de87d31084b44bcf71aba10a5c83eb1a1b135aa30".toList) :=
 (Dn tw (by kernel_rfl) (by kernel_rfl)).trans (congrArg (fun x=>some (true,x)) (show chW wS=_ by kernel_rfl))
theorem BB:Tryz.prog.headLifts=[]:=AX js (tt _)
theorem tm:Tryz.prog.liftsFinal=false:=Az js BB (by kernel_rfl)
theorem xm:Tryz.prog.make=some .cut:=Do js (by kernel_rfl) (by kernel_rfl) (by kernel_rfl)
section
open Go.RowKit Go.ChangeShapes Go.WideShapes Go.ChangeAt
theorem oJ:(laidOutB Tryz.prog)=true:=by kernel_rfl
theorem li:(mapsRowed Tryz.prog)=true:=by kernel_rfl
theorem ts:((Tryz.prog.stops == []))=true:=by kernel_rfl
theorem tp:((Tryz.prog.stopKnobs == []))=true:=by kernel_rfl
theorem tn:(Tryz.prog.stopsHeard)=true:=by kernel_rfl
theorem tq:true=Tryz.pinned.checked.prog.looks []:=by kernel_rfl
end
theorem Gz:True:=trivial
end Go.Proofs.YtofibjflkebkpaaGreatDoor
