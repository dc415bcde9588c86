import Derived.WalkKit
import Derived.WalkSpells
import Derived.WalkLawsBesides
import Derived.Deep.QuietTactic
import Derived.BigQuiet
import Derived.Lib.Hide
import Derived.Shelf.Abstract
import Derived.Deep.RegionWith
import Derived.Laws.AppendOwnNone
import Derived.Lib.AppendZerosOnto
import Derived.Lib.SliceRun
import Derived.Lib.SlicesCompact
import Derived.Shelf.SlSortCmp.NoneTotal
import Derived.Maps.OwnOps
import Derived.Maps.OwnSet
import Derived.Maps.Views
import Derived.Deep.MidRow
import Derived.Deep.RegionHeld3
import Derived.Deep.AppendLies
import Derived.Deep.RegionLaw
import Derived.IntWalk
import Derived.StillTailTactics
import Derived.RegionTactic
import Derived.BigRegion
import Derived.ChangeAlike
import Derived.Sort.LotD2
import Derived.Sort.LotA
import Derived.Shelf.SlSortCmp.PdqK
import Derived.Deep.DeepCutAuto
import Derived.Lib.ItoaNum
import Derived.Deep.LoopGhost
import Derived.ProofKit
import Derived.OpenShut
import Derived.SizedLaws
import Derived.Lib.SmallJoins
import Derived.Deep.Slices
import Derived.Deep.Fields
import Derived.Deep.Strs
import Derived.Carry
import Derived.Lib.BitFns
import Derived.Deep.CutBlock
import Derived.Laws.IdiomStrings
import Derived.Test.YtofibjflkebkpaaGreatDoorEX10
import Derived.Test.YtofibjflkebkpaaGreatDoorEX9
import Derived.Test.YtofibjflkebkpaaGreatDoorEX8
import Derived.Test.YtofibjflkebkpaaGreatDoorEX7
import Derived.Test.YtofibjflkebkpaaGreatDoorEX4
import Derived.Test.YtofibjflkebkpaaGreatDoorChecked
import Derived.Test.YtofibjflkebkpaaGreatDoorRows
import Derived.Lay
import Derived.Stop.Joined
import Derived.Test.YtofibjflkebkpaaGreatDoorCards
import Derived.Test.YtofibjflkebkpaaGreatDoorTie
import Derived.LaidMore
import Derived.SevenTiedAt
set_option maxRecDepth 100000
set_option maxHeartbeats 16000000
namespace Go.Proofs.YtofibjflkebkpaaGreatDoor
open Go.RowKit
def FZ (xs:List Int) (ps:List Rw) (k:Int):Rat:=if xT xs ps k=0 then EC ps (aC xs) k.toNat else 0
def Fy (xs:List Int) (ps:List Rw) (k:Int):Rat:=if xT xs ps k=0 then Dx ps (aC xs) k.toNat else 0
theorem RatCell.apart {w w':World} {p g:Nat} {r r':Rw} (h:RatCell w p r) (hne:p≠g) (hg:RatCell w g r') (ho:aw g w w'):RatCell w' p r:=by
 obtain ⟨b1,d1,b2,d2,_,hf,_,_⟩:=hg;obtain ⟨a1,c1,a2,c2,h1,h2,h3,h4⟩:=h;have hl:=h2.lt;obtain ⟨cur,e2,k1,k2⟩:=h2;exact ⟨a1,c1,a2,c2,ho.row h1 hne,⟨cur,e2,(ho.block p hl hne).trans k1,k2⟩,h3.apart hf (by simp) ho,h4.apart hf (by simp) ho⟩
def Gc (ps:List Rw) (l:List Nat):Nat->Rat
 | 0=>0
 | k+1=>Fu ps l k
def Gb (ps:List Rw) (l:List Nat):Nat->Rat
 | 0=>1
 | k+1=>Fq ps l k
def FJ (xs:List Int) (ps:List Rw) (k:Int):Rat × Rat:=if xT xs ps k=0 then (Fu ps (aC xs) k.toNat,Fq ps (aC xs) k.toNat) else (0,0)
theorem yW (v:Value) (a b:Rat) (w:World) (hv:SpanV w v (ai a) (ai b)) (ha:(ai a).Short 200000) (hb:(ai b).Short 200000) (hab:a<=b):Calls Tryz.prog 84 #[v] w fun e w'=>(∃ v',e=.returned v'/\SpanV w' v' (ai a) (ai b))/\ag w w':=by
 have HVA:Hid (∀ W u,SpanV W u (ai a) (ai b)->Calls Tryz.prog 37 #[u] W fun e w'=>e=.returned (.bool true)/\ag W w'):=af fun W u h=>vL u a b W h ha hb hab
 have HOF:Hid (∀ W g,ArrAt W g 29 [ai a,ai b]->Calls Tryz.prog 140 #[.slice (some ⟨g,0,none⟩) 2 2] W fun e w'=>(∃ v',e=.returned v'/\SpanV w' v' (ai a) (ai b))/\ag W w'):=af fun W g h=>CX g a b W h ha hb hab
 obtain ⟨lo,hlo⟩:∃ lo,lo=ai a:=⟨_,rfl⟩;obtain ⟨hi,hhi⟩:∃ hi,hi=ai b:=⟨_,rfl⟩;rw [<-hlo,<-hhi] at HVA HOF hv⊢;clear ha hb hab hlo hhi;obtain ⟨n1,l1,m1,n2,l2,m2,a1,c1,a2,c2,a3,c3,a4,c4,w1,rfl,hw1,hs1,hk1,hsv,hz1⟩:=hv.box;obtain ⟨w2,hw2⟩:∃ w2,w2=w1.alloc (.cells #[.bool false,.slice none 0 0,.slice none 0 0,.bool false,.slice none 0 0,.slice none 0 0] 44):=⟨_,rfl⟩;have HS2:Hid (SpnAt w2 (w.heap.size+1) ⟨false,[],[]⟩ ⟨false,[],[]⟩):=af (by rw [hw2,<-hz1];exact SpnAt.zero w1);have hk2:ag w1 w2:=by rw [hw2];exact (ag.refl _).alloc _
 have HSV:=af (hsv.kept hk2);have HA:=af (hs1.kept hk2);have HK2:=af (hk1.trans hk2);have HW2:Hid (w2=(w.alloc (.cells #[.bool n1,.slice a1 l1 c1,.slice a2 m1 c2,.bool n2,.slice a3 l2 c3,.slice a4 m2 c4] 44)).alloc (.cells #[.bool false,.slice none 0 0,.slice none 0 0,.bool false,.slice none 0 0,.slice none 0 0] 44)):=af (by rw [hw2,hw1]);clear hv hw1 hs1 hk1 hsv hz1 hw2 hk2;go_enter Tryz.func84,Tryz.ntmps84;go_wp2_with fail;rw [<-HW2.out];refine (HVA.out _ _ HSV.out).mono ?_;rintro e w3 ⟨rfl,hk3⟩;have HK3:=af (HK2.out.trans hk3);have HS3:=af (HS2.out.kept hk3);obtain ⟨n5,l5,m5,n6,l6,m6,a5,c5,a6,c6,a7,c7,a8,c8,x0,x1,x2,x3,x4,x5,hlx,HXL,HXH,_⟩:=(HA.out.kept hk3).read;obtain ⟨w4,hw4⟩:∃ w4,w4=w3.alloc (.cells #[.bool n5,.slice a5 l5 c5,.slice a6 m5 c6,.bool n6,.slice a7 l6 c7,.slice a8 m6 c8] 29):=⟨_,rfl⟩;have HAR:Hid (ArrAt w4 w3.heap.size 29 [lo,hi]):=af (by rw [hw4];exact ArrAt.two HXL.out HXH.out);have HK4:Hid (ag w3 w4):=af (by rw [hw4];exact (ag.refl _).alloc _);have HW4:=af hw4;clear hk3 hw4;go_wp2_with fail;rw [<-HW4.out];refine (HOF.out _ _ HAR.out).mono ?_;rintro e w5 ⟨⟨v5,rfl,hv5⟩,hk5⟩;have HK5:=af (HK3.out.trans (HK4.out.trans hk5));obtain ⟨q1,q2,q3,q4,q5,q6,r1,r2,r3,r4,r5,r6,r7,r8,w6,rfl,hw6,⟨⟨z0,p0⟩,⟨z1,p1⟩,⟨z2,p2⟩,⟨z3,p3⟩,⟨z4,p4⟩,⟨z5,p5⟩⟩,⟨f0,f1,f2,f3,f4,f5⟩,hl6,Y,HSP,_,_,HKP⟩:=(HS3.out.kept (HK4.out.trans hk5)).put hv5
 have HKE:=af (HKP.out _ HK5.out (by omega));rw [hw6] at Y HSP HKE;clear hv5 hk5 hw6 x0 x1 x2 x3 x4 x5 hlx HKP;go_wp2;refine bodyPost_ret (v:=.agg #[.bool q1,.slice r1 q2 r2,.slice r3 q3 r4,.bool q4,.slice r5 q5 r6,.slice r7 q6 r8]) ?_ rfl ⟨⟨_,rfl,HSP.out⟩,HKE.out⟩;simp [results,Tryz.results84,go_sem,Y.out.1,Y.out.2.1,Y.out.2.2.1,Y.out.2.2.2.1,Y.out.2.2.2.2.1,Y.out.2.2.2.2.2]
theorem yY (v:Value) (a b:Rat) (la lb:List UInt8) (w:World) (hv:SpanV w v (ai a) (ai b)) (hab:a<=b) (ha:(ai a).Short 200000) (hb:(ai b).Short 200000)
  (hta:∀ W u,RatAt W u (ai a)->Calls Tryz.prog 44 #[u] W fun e w'=>e=.returned (.string ⟨la.toArray⟩)/\ag W w') (htb:∀ W u,RatAt W u (ai b)->Calls Tryz.prog 44 #[u] W fun e w'=>e=.returned (.string ⟨lb.toArray⟩)/\ag W w') (hla:la.length<=100) (hlb:lb.length<=100) :
  Calls Tryz.prog 45 #[v] w fun e w'=>e=.returned (.string ⟨(la++[46,46]++lb).toArray⟩)/\ag w w':=by
 have HNO:Hid (∀ W u,SpanV W u (ai a) (ai b)->Calls Tryz.prog 84 #[u] W fun e w'=>(∃ v',e=.returned v'/\SpanV w' v' (ai a) (ai b))/\ag W w'):=af fun W u h=>yW u a b W h ha hb hab
 have HTA:=af hta;have HTB:=af htb;obtain ⟨lo,hlo⟩:∃ lo,lo=ai a:=⟨_,rfl⟩;obtain ⟨hi,hhi⟩:∃ hi,hi=ai b:=⟨_,rfl⟩;rw [<-hlo,<-hhi] at HNO hv;rw [<-hlo] at HTA;rw [<-hhi] at HTB
 have HS:Hid (((⟨la.toArray⟩:ByteArray)++(⟨#[46,46]⟩:ByteArray))++⟨lb.toArray⟩=⟨(la++[46,46]++lb).toArray⟩):=af (by
  apply ByteArray.ext;rw [ByteArray.data_append,ByteArray.data_append];apply Array.toList_inj.1;simp)
 have hz1:¬ 9223372036854775807<la.length+2:=by omega
 have hz2:¬ 9223372036854775807<la.length+2+lb.length:=by omega
 clear ha hb hab hlo hhi hta htb hla hlb;obtain ⟨n1,l1,m1,n2,l2,m2,a1,c1,a2,c2,a3,c3,a4,c4,w1,rfl,hw1,hs1,hk1,hsv,hz1⟩:=hv.box;have HSV:=af hsv;have HA:=af hs1;have HK2:=af hk1;have HW2:=af hw1;clear hv hw1 hs1 hk1 hsv hz1;go_enter Tryz.func45,Tryz.ntmps45;go_wp2_with fail;rw [<-HW2.out];refine (HNO.out _ _ HSV.out).mono ?_;rintro e w3 ⟨⟨v3,rfl,hv3⟩,hk3⟩;have HK3:=af (HK2.out.trans hk3);obtain ⟨q1,q2,q3,q4,q5,q6,r1,r2,r3,r4,r5,r6,r7,r8,w4,rfl,hw4,⟨⟨z0,p0⟩,⟨z1,p1⟩,⟨z2,p2⟩,⟨z3,p3⟩,⟨z4,p4⟩,⟨z5,p5⟩⟩,⟨f0,f1,f2,f3,f4,f5⟩,hl6,_,_,HS4,HO4,HKP⟩:=(HA.out.kept hk3).put hv3;have HK4:=af (HKP.out _ HK3.out (Nat.le_refl _));have HW4:=af hw4;clear hv3 hk3 hw4 HKP;go_upto_region 2 with fail
 rw [<-HW4.out];clear p0 p1 p2 p3 p4 p5 f0 f1 f2 f3 f4 f5 hl6;obtain ⟨g1,g2,g3,g4,g5,g6,s1,s2,s3,s4,s5,s6,s7,s8,x0,x1,x2,x3,x4,x5,hlx,HXL,HXH,_⟩:=HS4.out.read
 go_region_held3 (fun w'=>w'.cell? ⟨w.heap.size,0,none⟩=some (.bool g1)/\w'.cell? ⟨w.heap.size,1,none⟩=some (.slice s1 g2 s2)/\w'.cell? ⟨w.heap.size,2,none⟩=some (.slice s3 g3 s4)/\w'.cell? ⟨w.heap.size,3,none⟩=some (.bool g4)/\w'.cell? ⟨w.heap.size,4,none⟩=some (.slice s5 g5 s6)/\w'.cell? ⟨w.heap.size,5,none⟩=some (.slice s7 g6 s8))
  ((refine (fun hq:ag w4 _=>⟨hq.cell x0,hq.cell x1,hq.cell x2,hq.cell x3,hq.cell x4,hq.cell x5⟩) ?_;repeat (with_reducible first | exact HKB.out | exact HKA.out | exact ag.refl _ | apply ag.drew)))
  (first
  | (go_at_call 44;(with_reducible refine (HTA.out _ _ (HXL.out.kept (by repeat (with_reducible first | exact ag.refl _ | apply ag.drew)))).mono ?_);rintro e w5 ⟨rfl,hk5⟩;have HKA:Hid (ag w4 w5):=af ((ag.refl w4).drew.trans hk5);clear hk5)
  | (go_at_call 44;(with_reducible refine (HTB.out _ _ (HXH.out.kept (by repeat (with_reducible first | exact HKA.out | apply ag.drew)))).mono ?_);rintro e w6 ⟨rfl,hk6⟩;have HKB:Hid (ag w4 w6):=af (HKA.out.trans (by first | exact hk6 | exact (ag.refl _).drew.trans hk6));clear hk6))
 all_goals go_wp2
 all_goals go_ret
 all_goals exact ⟨by rw [<-HS.out];rfl,HK4.out.trans HKB.out⟩
def jI (n:Nat):Bool:=(decide (30<n)&&decide (n<=1024))||decide (3000<n)
theorem kF (a:Option Addr) (n c:Nat) (w:World):Calls Tryz.prog 11 #[.slice a n c] w fun e w'=>e=.returned (.bool (jI n))/\w'=w:=by
 obtain ⟨b,hb⟩:∃ b,b=jI n:=⟨_,rfl⟩;rw [<-hb];unfold jI at hb;by_cases h1:30<n
 ·have e1:(30:Int)<(n:Int):=by omega
  by_cases h2:n<=1024
  ·have e2:(n:Int)<=1024:=by omega
   rw [decide_eq_true h1,decide_eq_true h2] at hb;subst hb;clear h1 h2;go_enter Tryz.func11,Tryz.ntmps11;go_wp2;go_ret;exact ⟨rfl,rfl⟩
  ·have e2:¬ (n:Int)<=1024:=by omega
   rw [decide_eq_true h1,decide_eq_false h2] at hb;by_cases h3:3000<n
   ·have e3:(3000:Int)<(n:Int):=by omega
    rw [decide_eq_true h3] at hb;subst hb;clear h1 h2 h3;go_enter Tryz.func11,Tryz.ntmps11;go_wp2;go_ret;exact ⟨rfl,rfl⟩
   ·have e3:¬ (3000:Int)<(n:Int):=by omega
    rw [decide_eq_false h3] at hb;subst hb;clear h1 h2 h3;go_enter Tryz.func11,Tryz.ntmps11;go_wp2;go_ret;exact ⟨rfl,rfl⟩
 ·have e1:¬ (30:Int)<(n:Int):=by omega
  have e3:¬ (3000:Int)<(n:Int):=by omega
  rw [decide_eq_false h1,decide_eq_false (show ¬ 3000<n by omega)] at hb;subst hb;clear h1;go_enter Tryz.func11,Tryz.ntmps11;go_wp2;go_ret;exact ⟨rfl,rfl⟩
theorem yI {w:World} {r1 r2 r3:Rw} {b1 b2 b3:Bool} {u1 v1 u2 v2 u3 v3:Value} (h1:RatAt w (.agg #[.bool b1,u1,v1]) r1) (h2:RatAt w (.agg #[.bool b2,u2,v2]) r2) (h3:RatAt w (.agg #[.bool b3,u3,v3]) r3) :
  RatsAt (w.alloc (.cells #[.bool b1,u1,v1,.bool b2,u2,v2,.bool b3,u3,v3] 29)) (.slice (some ⟨w.heap.size,0,none⟩) 3 3) [r1,r2,r3]:=by
 obtain ⟨x1,x2,e1,k1,k2⟩:=h1;obtain ⟨x3,x4,e2,k3,k4⟩:=h2;obtain ⟨x5,x6,e3,k5,k6⟩:=h3;simp only [Value.agg.injEq,Array.mk.injEq,List.cons.injEq,Value.bool.injEq,and_true] at e1 e2 e3;obtain ⟨rfl,rfl,rfl⟩:=e1;obtain ⟨rfl,rfl,rfl⟩:=e2;obtain ⟨rfl,rfl,rfl⟩:=e3;exact vf k1 k2 k3 k4 k5 k6
theorem uX (w:World):Calls Tryz.prog 42 #[] w fun e w'=>(∃ a c,e=.returned (.slice a 3 c)/\RatsAt w' (.slice a 3 c) fK)/\ag w w':=by
 have HM1:Hid (∀ W,Calls Tryz.prog 85 #[.int .i64 1,.int .i64 10] W fun e w'=>(∃ v',e=.returned (.tuple #[v',.nilIface])/\RatAt w' v' (ai (mkRat 1 10)))/\ag W w'):=af fun W=>mL 1 10 W (by decide) (by decide) (by decide)
 have HM2:Hid (∀ W,Calls Tryz.prog 85 #[.int .i64 1,.int .i64 5] W fun e w'=>(∃ v',e=.returned (.tuple #[v',.nilIface])/\RatAt w' v' (ai (mkRat 1 5)))/\ag W w'):=af fun W=>mL 1 5 W (by decide) (by decide) (by decide)
 have HM3:Hid (∀ W,Calls Tryz.prog 85 #[.int .i64 1,.int .i64 4] W fun e w'=>(∃ v',e=.returned (.tuple #[v',.nilIface])/\RatAt w' v' (ai (mkRat 1 4)))/\ag W w'):=af fun W=>mL 1 4 W (by decide) (by decide) (by decide)
 go_enter Tryz.func42,Tryz.ntmps42;go_wp2_with fail;refine (HM1.out _).mono ?_;rintro e w1 ⟨⟨v,rfl,hv⟩,hk⟩;obtain ⟨n2,l2,m2,a2,c2,b2,d2,w2,rfl,hw,hc,hk2,hr,_⟩:=hv.box;have HC2:=af hc;have HW2:=af hw;have HK2:=af (hk.trans hk2);clear hv hk hw hc hk2 hr;go_wp2_with fail;rw [<-HW2.out];refine (HM2.out _).mono ?_;rintro e w3 ⟨⟨v,rfl,hv⟩,hk⟩;obtain ⟨n4,l4,m4,a4,c4,b4,d4,w4,rfl,hw,hc,hk2,hr,_⟩:=hv.box;have HC4:=af hc;have HW4:=af hw;have SK4:=af (hk.trans hk2);clear hv hk hw hc hk2 hr;go_wp2_with fail;rw [<-HW4.out];refine (HM3.out _).mono ?_;rintro e w5 ⟨⟨v,rfl,hv⟩,hk⟩;obtain ⟨n6,l6,m6,a6,c6,b6,d6,w6,rfl,hw,⟨z0,z1,z2⟩,hc,hk2,hr,_⟩:=hv.boxc;have HR6:=af hr;have HW6:=af hw;have SK5:=af hk;have SK6:=af (hk.trans hk2);have HK56:=af hk2;have HK6:=af (SK4.out.trans SK6.out);obtain ⟨p1,p2,p3,q1,r1,q2,r2,x0,x1,x2,hlx,HXA⟩:=(HC2.out.kept (SK4.out.trans SK5.out)).read;obtain ⟨p4,p5,p6,q3,r3,q4,r4,y0,y1,y2,hly,HYA⟩:=(HC4.out.kept SK5.out).read;have hs6:w6.heap.size=w5.heap.size+1:=by rw [HW6.out];simp
 have hrt:=yI (HXA.out.kept HK56.out) (HYA.out.kept HK56.out) HR6.out;obtain ⟨w7,hw7⟩:∃ w7,w7=w6.alloc (.cells #[.bool p1,.slice q1 p2 r1,.slice q2 p3 r2,.bool p4,.slice q3 p5 r3,.slice q4 p6 r4,.bool n6,.slice a6 l6 c6,.slice b6 m6 d6] 29):=⟨_,rfl⟩;rw [<-hw7,hs6] at hrt;have HRT:=af hrt;have HK7:Hid (ag w6 w7):=af (by rw [hw7];exact (ag.refl _).alloc _);have HW7:=af hw7;clear hv hk hw hc hk2 hr hw7 hrt hs6 z0 z1 z2;go_wp2_with fail;rw [<-HW6.out,<-HW7.out];go_ret;exact ⟨⟨_,_,rfl,HRT.out⟩,HK2.out.trans (HK6.out.trans HK7.out)⟩
set_option linter.unusedSimpArgs false in
theorem DG:c_ [3,5]=0:=by
 obtain ⟨h0,h1,h2,h3,h4,h5,h6,h7⟩:=EI;simp +decide [c_,aC,aQ,jl,dP,aP,gI,aG,h0,h1,h2,h3,h4,h5,h6,h7]
theorem Dj:dO [1,6] fK=0:=by
 unfold dO;rw [if_neg (by rw [DF];simp),if_neg (by decide +kernel),ro,if_neg (by simp)]
theorem Dk:dO [3,5] fK=0:=by
 unfold dO;rw [if_neg (by rw [DG];simp),if_neg (by decide +kernel),ro,if_neg (by simp)]
theorem DJ:fp [1,6] fK=mkRat 29 200:=by
 unfold fp;rw [if_pos Dj];decide +kernel
theorem DI:fo [3,5] fK=mkRat 91 1000:=by
 unfold fo;rw [if_pos Dk];decide +kernel
set_option linter.unusedSimpArgs false in
theorem AR:fd 3 5 rn=some [3,5]:=by
 have h:=qB Dq;rw [show Dl.nodes=rn from rfl] at h;rw [h,zJ];obtain ⟨h0,h1,h2,h3,h4,h5,h6,h7⟩:=EI;simp +decide [nL,eG,dd,dL,rn,cz,bO,bK,aM,aP,aQ,jl,dP,gI,aG,kr,eV,h0,h1,h2,h3,h4,h5,h6,h7]
theorem xK:tT 3 5 Dl fK=(0,mkRat 1 10,mkRat 29 200):=by
 unfold tT;rw [if_neg (by decide),ro,if_neg (by simp),Ek,if_neg (by simp),show Dl.nodes=rn from rfl,El];simp only [AR,Cg];have h1:gb (aO (gQ fK) [3,5]) (aA (fQ fK) [1,6])=mkRat 1 10:=by decide +kernel
 have h2:gJ (1 - aO (fQ fK) [1,6]) (1 - aA (gQ fK) [3,5])=mkRat 29 200:=by decide +kernel
 rw [h1,h2]
theorem Cv (w:World):am (w.alloc (.cells #[.int .i64 3,.int .i64 5] 3)) (.slice (some ⟨w.heap.size,0,none⟩) 2 2) [3,5] :=
 (aj.made w #[.int .i64 3,.int .i64 5] 3).ints (xs:=[3,5]) (c:=2) (by simp) (by simp)
theorem kv (w:World):Calls Tryz.prog 10 #[] w fun e w'=>e=.returned (.bool true)/\ag w w':=by
 have HPR:=af (fun W=>uX W);have HEX:=af (fun W=>uf W)
 have HUP:Hid (∀ (W W':World) (g:Nat) (v:Value),g=W.heap.size->ag (W.alloc (.cells #[.int .i64 1,.int .i64 6] 3)) W'->RatsAt W' v fK->Calls Tryz.prog 13 #[.slice (some ⟨g,0,none⟩) 2 2,v] W' fun e w'=>(∃ v',e=.returned (.tuple #[v',.nilIface])/\RatAt w' v' (ai (mkRat 29 200)))/\ag W' w'):=af fun W W' g v hg hk h2=>by
  subst hg;have h:=fC _ v [1,6] fK _ ((Cu W).kept hk) h2 mu (by decide);rw [DJ,Dj,aW] at h;exact h
 have HLO:Hid (∀ (W W':World) (g:Nat) (v:Value),g=W.heap.size->ag (W.alloc (.cells #[.int .i64 3,.int .i64 5] 3)) W'->RatsAt W' v fK->Calls Tryz.prog 15 #[.slice (some ⟨g,0,none⟩) 2 2,v] W' fun e w'=>(∃ v',e=.returned (.tuple #[v',.nilIface])/\RatAt w' v' (ai (mkRat 91 1000)))/\ag W' w'):=af fun W W' g v hg hk h2=>by
  subst hg;have h:=fA _ v [3,5] fK _ ((Cv W).kept hk) h2 mu (by decide);rw [DI,Dk,aW] at h;exact h
 have HBD:Hid (∀ W u v,bp W u rn->RatsAt W v fK->Calls Tryz.prog 20 #[.agg #[.int .i64 3,u,.int .i64 5],v] W fun e w'=>(∃ v',e=.returned (.tuple #[v',.nilIface])/\SpanV w' v' (ai (mkRat 1 10)) (ai (mkRat 29 200)))/\ag W w'):=af fun W u v h1 h2=>by
  have h:=rj u v Dl 3 5 fK W h1 Dq zP h2 mu (by decide);rw [xK,aW] at h;exact h
 have HTX:Hid (∀ W v,RatAt W v (ai (mkRat 29 200))->Calls Tryz.prog 44 #[v] W fun e w'=>e=.returned (.string ⟨#[50,57,47,50,48,48]⟩)/\ag W w'):=af fun W v h=>gU v _ 29 200 [50,57] [50,48,48] [50,57,47,50,48,48] W h (by decide +kernel) (by decide +kernel) (by decide) (by decide) (by decide) (by decide) (by decide) (by decide) (by decide) (by decide) (by decide)
 have HTY:Hid (∀ W v,RatAt W v (ai (mkRat 91 1000))->Calls Tryz.prog 44 #[v] W fun e w'=>e=.returned (.string ⟨#[57,49,47,49,48,48,48]⟩)/\ag W w'):=af fun W v h=>gU v _ 91 1000 [57,49] [49,48,48,48] [57,49,47,49,48,48,48] W h (by decide +kernel) (by decide +kernel) (by decide) (by decide) (by decide) (by decide) (by decide) (by decide) (by decide) (by decide) (by decide)
 have HSX:Hid (∀ W v,SpanV W v (ai (mkRat 1 10)) (ai (mkRat 29 200))->Calls Tryz.prog 45 #[v] W fun e w'=>e=.returned (.string ⟨#[49,47,49,48,46,46,50,57,47,50,48,48]⟩)/\ag W w'):=af fun W v h=>yY v (mkRat 1 10) (mkRat 29 200) [49,47,49,48] [50,57,47,50,48,48] W h (by decide +kernel) ⟨by decide +kernel,by decide +kernel⟩ ⟨by decide +kernel,by decide +kernel⟩
  (fun W u hu=>gU u _ 1 10 [49] [49,48] [49,47,49,48] W hu (by decide +kernel) (by decide +kernel) (by decide) (by decide) (by decide) (by decide) (by decide) (by decide) (by decide) (by decide) (by decide))
  (fun W u hu=>gU u _ 29 200 [50,57] [50,48,48] [50,57,47,50,48,48] W hu (by decide +kernel) (by decide +kernel) (by decide) (by decide) (by decide) (by decide) (by decide) (by decide) (by decide) (by decide) (by decide)) (by decide) (by decide)
 have HKI:Hid (∀ (W:World) (cs:Array Value) (t:TypeId),ag W (W.alloc (.cells cs t))):=af fun W cs t=>(ag.refl W).alloc _
 go_enter Tryz.func10,Tryz.ntmps10;go_wp2_with fail;refine (HPR.out _).mono ?_;rintro e w1 ⟨⟨a1,c1,rfl,hr1⟩,hk1⟩;have HR1:=af hr1;have HK1:=af hk1;clear hr1 hk1;go_wp2_with fail;refine (HUP.out w _ _ _ rfl HK1.out HR1.out).mono ?_;rintro e w2 ⟨⟨v,rfl,hv⟩,hk⟩;obtain ⟨n3,l3,m3,a3,c3,b3,d3,w3,rfl,hw,hc,hk2,hr,hz3⟩:=hv.box;have HZ3:=af hz3.symm;clear hz3;have HC3:=af hc;have HW3:=af hw;have HK3:=af ((HKI.out w _ _).trans (HK1.out.trans (hk.trans hk2)));clear hv hk hw hc hk2 hr;go_wp2_with fail;rw [<-HW3.out];refine (HPR.out _).mono ?_;rintro e w4 ⟨⟨a4,c4,rfl,hr4⟩,hk4⟩;have HR4:=af hr4;have HK4:=af hk4;clear hr4 hk4;go_wp2_with fail;refine (HLO.out w3 _ _ _ HZ3.out HK4.out HR4.out).mono ?_;rintro e w5 ⟨⟨v,rfl,hv⟩,hk⟩;obtain ⟨n6,l6,m6,a6,c6,b6,d6,w6,rfl,hw,hc,hk2,hr,_⟩:=hv.box;have HC6:=af hc;have HW6:=af hw;have SK6:=af ((HKI.out w3 _ _).trans (HK4.out.trans (hk.trans hk2)));clear hv hk hw hc hk2 hr;go_wp2_with fail;rw [<-HW6.out];refine (HEX.out _).mono ?_;rintro e w7 ⟨⟨v7,rfl,⟨a7,n7,c7,rfl⟩,hn7⟩,hk7⟩;have HN7:=af hn7;have HK7:=af hk7;clear hn7 hk7;go_wp2_with fail;refine (HPR.out _).mono ?_;rintro e w8 ⟨⟨a8,c8,rfl,hr8⟩,hk8⟩;have HR8:=af hr8;have HK8:=af hk8;clear hr8 hk8;go_wp2_with fail;refine (HBD.out _ _ _ (HN7.out.kept HK8.out) HR8.out).mono ?_;rintro e w9 ⟨⟨v,rfl,hv⟩,hk⟩
 obtain ⟨s1,s2,s3,s4,s5,s6,t1,t2,t3,t4,t5,t6,t7,t8,w10,rfl,hw,hc,hk2,hr,_⟩:=hv.box;have HC10:=af hc;have HW10:=af hw;have SK9:=af (HK7.out.trans (HK8.out.trans hk));have KB:=af hk2;have SK10:=af (HK7.out.trans (HK8.out.trans (hk.trans hk2)));clear hv hk hw hc hk2 hr;obtain ⟨p1,p2,p3,q1,r1,q2,r2,x0,x1,x2,hlx,HXT⟩:=(HC3.out.kept (SK6.out.trans SK9.out)).read;go_wp2_with fail;rw [<-HW10.out];refine (HTX.out _ _ (HXT.out.kept KB.out)).mono ?_;rintro e w11 ⟨rfl,hk11⟩;have HK11:=af (SK10.out.trans hk11);have HS11:=af (HC10.out.kept hk11);clear x0 x1 x2 hlx hk11;obtain ⟨p4,p5,p6,q3,r3,q4,r4,y0,y1,y2,hly,HYT⟩:=(HC6.out.kept HK11.out).read;go_wp2_with fail;refine (HTY.out _ _ HYT.out).mono ?_;rintro e w12 ⟨rfl,hk12⟩;have HK12:=af (HK11.out.trans hk12);clear y0 y1 y2 hly;obtain ⟨f1,f2,f3,f4,f5,f6,q5,r5,q6,r6,q7,r7,q8,r8,z0,z1,z2,z3,z4,z5,hlz,_,_,HZT⟩:=(HS11.out.kept hk12).read;clear hk12;go_wp2_with fail;refine (HSX.out _ _ HZT.out).mono ?_;rintro e w13 ⟨rfl,hk13⟩;go_wp2;go_ret;exact ⟨rfl,HK3.out.trans (SK6.out.trans (HK12.out.trans hk13))⟩
theorem nO (xv v:Value) (xs:List Int) (ps:List Rw) (w:World) (hx:am w xv xs) (hv:cI w v ps):Calls Tryz.prog 3 #[xv,v] w fun e w'=>e=.returned (.bool true)/\ag w w':=by
 have HA:Hid (∀ W,Calls Tryz.prog 10 #[] W fun e w'=>e=.returned (.bool true)/\ag W w'):=af fun W=>kv W
 have HL:=af (fun W (h:ag w W)=>jG v ps W (hv.kept h));obtain ⟨xa,xc,hxs,_⟩:=id hx;obtain ⟨n,hn⟩:∃ n,n=xs.length:=⟨_,rfl⟩;rw [<-hn] at hxs;obtain ⟨pa,pc,hps,_⟩:=id hv;obtain ⟨pn,hpn⟩:∃ pn,pn=ps.length:=⟨_,rfl⟩;rw [<-hpn] at hps;subst hxs hps;have HX:=af hx;have HRV:=af hv;have HNN:=af hn;have HPN:=af hpn;clear hx hv hn hpn;obtain ⟨mb,hmb⟩:∃ mb,mb=jI n:=⟨_,rfl⟩;have HMN:Hid (∀ W,Calls Tryz.prog 11 #[.slice xa n xc] W fun e w'=>e=.returned (.bool mb)/\w'=W):=af fun W=>by rw [hmb];exact kF xa n xc W
 clear hmb;go_enter Tryz.func3,Tryz.ntmps3;go_wp2_with fail;refine (HA.out _).mono ?_;rintro e w1 ⟨rfl,hk1⟩;have HK1:=af hk1;clear hk1;go_wp2_with fail;refine (HMN.out _).mono ?_;rintro e w2 ⟨rfl,h2⟩;rw [h2];clear h2;cases mb with
 | true =>
  go_wp2_with fail;refine (HA.out _).mono ?_;rintro e w3 ⟨rfl,hk3⟩;go_wp2;go_ret;exact ⟨rfl,HK1.out.trans hk3⟩
 | false =>
  go_wp2_with fail;refine (HL.out _ HK1.out).mono ?_;rintro e w2 ⟨⟨u2,rfl,bb,rfl,hbb⟩,hk2⟩;have HK2:=af (HK1.out.trans hk2);have HBB:=af hbb;clear hk2 hbb;cases bb with
  | true =>
   go_wp2_with fail;refine (HA.out _).mono ?_;rintro e w3 ⟨rfl,hk3⟩;go_wp2;go_ret;exact ⟨rfl,HK2.out.trans hk3⟩
  | false =>
   obtain ⟨h30,hs3⟩:=HBB.out rfl;have HPV:=af (HRV.out.small fun r hr=>⟨Nat.le_trans (hs3 r hr).1 (by omega),Nat.le_trans (hs3 r hr).2 (by omega)⟩);have HS3:=af hs3;have H30:=af h30;clear h30 hs3;obtain ⟨Q,hQ⟩:∃ Q,Q=dO xs ps:=⟨_,rfl⟩;obtain ⟨R,hR⟩:∃ R,R=ai (fp xs ps):=⟨_,rfl⟩;obtain ⟨P,hP⟩:∃ P,P=ai (fo xs ps):=⟨_,rfl⟩;have HNU:Hid (∀ W,Calls Tryz.prog 17 #[aY Q] W fun e w'=>e=.returned (.int .i64 Q)/\W=w'):=af fun W=>AF Q W (by have:=zY xs ps;omega)
   have HSU:Hid (∀ W,ag w W->Calls Tryz.prog 13 #[.slice xa n xc,.slice pa pn pc] W fun e w'=>(∃ v',e=.returned (.tuple #[v',aY Q])/\RatAt w' v' R)/\ag W w'):=af fun W h=>by
    rw [hQ,hR];exact fC _ _ xs ps W (HX.out.kept h) (HPV.out.kept h) HS3.out H30.out
   have HRS:Hid (∀ W,ag w W->Calls Tryz.prog 14 #[.slice xa n xc,.slice pa pn pc] W fun e w'=>(∃ v',e=.returned (.tuple #[v',.int .i64 (Q:Nat)])/\RatAt w' v' R)/\ag W w'):=af fun W h=>by
    rw [hQ,hR];exact pr _ _ xs ps W (HX.out.kept h) (HPV.out.kept h) HS3.out H30.out
   have HPA:Hid (∀ W,ag w W->Calls Tryz.prog 15 #[.slice xa n xc,.slice pa pn pc] W fun e w'=>(∃ v',e=.returned (.tuple #[v',aY Q])/\RatAt w' v' P)/\ag W w'):=af fun W h=>by
    rw [hQ,hP];exact fA _ _ xs ps W (HX.out.kept h) (HPV.out.kept h) HS3.out H30.out
   have HRP:Hid (∀ W,ag w W->Calls Tryz.prog 16 #[.slice xa n xc,.slice pa pn pc] W fun e w'=>(∃ v',e=.returned (.tuple #[v',.int .i64 (Q:Nat)])/\RatAt w' v' P)/\ag W w'):=af fun W h=>by
    rw [hQ,hP];exact pq _ _ xs ps W (HX.out.kept h) (HPV.out.kept h) HS3.out H30.out
   clear hQ hR hP;go_wp2_with fail;refine (HSU.out _ HK2.out).mono ?_;rintro e w3 ⟨⟨v,rfl,hv⟩,hk⟩;obtain ⟨n3,l3,m3,a3,c3,b3,d3,w4,rfl,hw,hc,hk2,hr,_⟩:=hv.box;have HC4:=af hc;have HW4:=af hw;have HV4:=af hr;have SK3:=af hk;have KB4:=af hk2;have SK4:=af (hk.trans hk2);have HK4:=af (HK2.out.trans SK4.out);clear hv hk hw hc hk2 hr;go_wp2_with fail;rw [<-HW4.out];refine (HRS.out _ HK4.out).mono ?_;rintro e w5 ⟨⟨v,rfl,hv⟩,hk⟩;obtain ⟨n5,l5,m5,a5,c5,b5,d5,w6,rfl,hw,hc,hk2,hr,_⟩:=hv.box;have HC6:=af hc;have HW6:=af hw;have HV6:=af hr;have SK5:=af hk;have KB6:=af hk2;have SK6:=af (hk.trans hk2);have HK6:=af (HK4.out.trans SK6.out);clear hv hk hw hc hk2 hr;go_wp2_with fail;rw [<-HW6.out];refine (HPA.out _ HK6.out).mono ?_;rintro e w7 ⟨⟨v,rfl,hv⟩,hk⟩;obtain ⟨n7,l7,m7,a7,c7,b7,d7,w8,rfl,hw,hc,hk2,hr,_⟩:=hv.box;have HC8:=af hc;have HW8:=af hw;have HV8:=af hr;have SK7:=af hk;have KB8:=af hk2;have SK8:=af (hk.trans hk2);have HK8:=af (HK6.out.trans SK8.out);clear hv hk hw hc hk2 hr;go_wp2_with fail;rw [<-HW8.out];refine (HRP.out _ HK8.out).mono ?_;rintro e w9 ⟨⟨v,rfl,hv⟩,hk⟩;obtain ⟨n9,l9,m9,a9,c9,b9,d9,w10,rfl,hw,hc,hk2,hr,_⟩:=hv.box;have HC10:=af hc;have HW10:=af hw;have HV10:=af hr;have SK9:=af hk
   have KB10:=af hk2;have SK10:=af (hk.trans hk2);have HK10:=af (HK8.out.trans SK10.out);clear hv hk hw hc hk2 hr;obtain ⟨p1,p2,p3,q1,r1,q2,r2,x0,x1,x2,hlx,HXA⟩:=(HC4.out.kept (SK6.out.trans (SK8.out.trans SK10.out))).read;obtain ⟨p4,p5,p6,q3,r3,q4,r4,y0,y1,y2,hly,HYA⟩:=(HC6.out.kept (SK8.out.trans SK10.out)).read;go_wp2_with fail;rw [<-HW10.out];refine (HNU.out _).mono ?_;rintro e w11 ⟨rfl,rfl⟩;go_wp2_with fail;refine (lM _ _ R _ HXA.out HYA.out).mono ?_;rintro e w12 ⟨rfl,hk12⟩;clear x0 x1 x2 y0 y1 y2 hlx hly;obtain ⟨p7,p8,p9,q5,r5,q6,r6,x0,x1,x2,hlx,HZA⟩:=(HC8.out.kept (SK10.out.trans hk12)).read;obtain ⟨s1,s2,s3,q7,r7,q8,r8,y0,y1,y2,hly,HTA⟩:=(HC10.out.kept hk12).read;have HK12:=af (HK10.out.trans hk12);clear hk12;go_wp2_with fail;refine (HNU.out _).mono ?_;rintro e w13 ⟨rfl,rfl⟩;go_wp2_with fail;refine (lM _ _ P _ HZA.out HTA.out).mono ?_;rintro e w14 ⟨rfl,hk14⟩;go_wp2;go_ret;exact ⟨rfl,HK12.out.trans hk14⟩
theorem mr (xv v:Value) (xs:List Int) (ps:List Rw) (w:World) (hx:am w xv xs) (hv:cI w v ps):Calls Tryz.prog 5 #[xv,v] w fun e w'=>e=.returned (.bool true)/\ag w w':=by
 have HA:Hid (∀ W,Calls Tryz.prog 10 #[] W fun e w'=>e=.returned (.bool true)/\ag W w'):=af fun W=>kv W
 have HL:=af (fun W (h:ag w W)=>jG v ps W (hv.kept h));obtain ⟨xa,xc,hxs,_⟩:=id hx;obtain ⟨n,hn⟩:∃ n,n=xs.length:=⟨_,rfl⟩;rw [<-hn] at hxs;obtain ⟨pa,pc,hps,_⟩:=id hv;obtain ⟨pn,hpn⟩:∃ pn,pn=ps.length:=⟨_,rfl⟩;rw [<-hpn] at hps;subst hxs hps;have HX:=af hx;have HRV:=af hv;have HNN:=af hn;have HPN:=af hpn;clear hx hv hn hpn;obtain ⟨mb,hmb⟩:∃ mb,mb=jI n:=⟨_,rfl⟩;have HMN:Hid (∀ W,Calls Tryz.prog 11 #[.slice xa n xc] W fun e w'=>e=.returned (.bool mb)/\w'=W):=af fun W=>by rw [hmb];exact kF xa n xc W
 clear hmb;go_enter Tryz.func5,Tryz.ntmps5;go_wp2_with fail;refine (HA.out _).mono ?_;rintro e w1 ⟨rfl,hk1⟩;have HK1:=af hk1;clear hk1;go_wp2_with fail;refine (HMN.out _).mono ?_;rintro e w2 ⟨rfl,h2⟩;rw [h2];clear h2;cases mb with
 | true =>
  go_wp2_with fail;refine (HA.out _).mono ?_;rintro e w3 ⟨rfl,hk3⟩;go_wp2;go_ret;exact ⟨rfl,HK1.out.trans hk3⟩
 | false =>
  go_wp2_with fail;refine (HL.out _ HK1.out).mono ?_;rintro e w2 ⟨⟨u2,rfl,bb,rfl,hbb⟩,hk2⟩;have HK2:=af (HK1.out.trans hk2);have HBB:=af hbb;clear hk2 hbb;cases bb with
  | true =>
   go_wp2_with fail;refine (HA.out _).mono ?_;rintro e w3 ⟨rfl,hk3⟩;go_wp2;go_ret;exact ⟨rfl,HK2.out.trans hk3⟩
  | false =>
   obtain ⟨h30,hs3⟩:=HBB.out rfl;have HPV:=af (HRV.out.small fun r hr=>⟨Nat.le_trans (hs3 r hr).1 (by omega),Nat.le_trans (hs3 r hr).2 (by omega)⟩);have HS3:=af hs3;have H30:=af h30;clear h30 hs3;obtain ⟨Q,hQ⟩:∃ Q,Q=dO xs ps:=⟨_,rfl⟩;obtain ⟨R,hR⟩:∃ R,R=ai (f' xs ps):=⟨_,rfl⟩;obtain ⟨P,hP⟩:∃ P,P=ai (gf xs ps):=⟨_,rfl⟩;have HNU:Hid (∀ W,Calls Tryz.prog 17 #[aY Q] W fun e w'=>e=.returned (.int .i64 Q)/\W=w'):=af fun W=>AF Q W (by have:=zY xs ps;omega)
   have HSU:Hid (∀ W,ag w W->Calls Tryz.prog 24 #[.slice xa n xc,.slice pa pn pc] W fun e w'=>(∃ v',e=.returned (.tuple #[v',aY Q])/\RatAt w' v' R)/\ag W w'):=af fun W h=>by
    rw [hQ,hR];exact je _ _ xs ps W (HX.out.kept h) (HPV.out.kept h) HS3.out H30.out
   have HRS:Hid (∀ W,ag w W->Calls Tryz.prog 25 #[.slice xa n xc,.slice pa pn pc] W fun e w'=>(∃ v',e=.returned (.tuple #[v',.int .i64 (Q:Nat)])/\RatAt w' v' R)/\ag W w'):=af fun W h=>by
    rw [hQ,hR];exact pp _ _ xs ps W (HX.out.kept h) (HPV.out.kept h) HS3.out H30.out
   have HPA:Hid (∀ W,ag w W->Calls Tryz.prog 26 #[.slice xa n xc,.slice pa pn pc] W fun e w'=>(∃ v',e=.returned (.tuple #[v',aY Q])/\RatAt w' v' P)/\ag W w'):=af fun W h=>by
    rw [hQ,hP];exact kC _ _ xs ps W (HX.out.kept h) (HPV.out.kept h) HS3.out H30.out
   have HRP:Hid (∀ W,ag w W->Calls Tryz.prog 27 #[.slice xa n xc,.slice pa pn pc] W fun e w'=>(∃ v',e=.returned (.tuple #[v',.int .i64 (Q:Nat)])/\RatAt w' v' P)/\ag W w'):=af fun W h=>by
    rw [hQ,hP];exact p_ _ _ xs ps W (HX.out.kept h) (HPV.out.kept h) HS3.out H30.out
   clear hQ hR hP;go_wp2_with fail;refine (HSU.out _ HK2.out).mono ?_;rintro e w3 ⟨⟨v,rfl,hv⟩,hk⟩;obtain ⟨n3,l3,m3,a3,c3,b3,d3,w4,rfl,hw,hc,hk2,hr,_⟩:=hv.box;have HC4:=af hc;have HW4:=af hw;have HV4:=af hr;have SK3:=af hk;have KB4:=af hk2;have SK4:=af (hk.trans hk2);have HK4:=af (HK2.out.trans SK4.out);clear hv hk hw hc hk2 hr;go_wp2_with fail;rw [<-HW4.out];refine (HRS.out _ HK4.out).mono ?_;rintro e w5 ⟨⟨v,rfl,hv⟩,hk⟩;obtain ⟨n5,l5,m5,a5,c5,b5,d5,w6,rfl,hw,hc,hk2,hr,_⟩:=hv.box;have HC6:=af hc;have HW6:=af hw;have HV6:=af hr;have SK5:=af hk;have KB6:=af hk2;have SK6:=af (hk.trans hk2);have HK6:=af (HK4.out.trans SK6.out);clear hv hk hw hc hk2 hr;go_wp2_with fail;rw [<-HW6.out];refine (HPA.out _ HK6.out).mono ?_;rintro e w7 ⟨⟨v,rfl,hv⟩,hk⟩;obtain ⟨n7,l7,m7,a7,c7,b7,d7,w8,rfl,hw,hc,hk2,hr,_⟩:=hv.box;have HC8:=af hc;have HW8:=af hw;have HV8:=af hr;have SK7:=af hk;have KB8:=af hk2;have SK8:=af (hk.trans hk2);have HK8:=af (HK6.out.trans SK8.out);clear hv hk hw hc hk2 hr;go_wp2_with fail;rw [<-HW8.out];refine (HRP.out _ HK8.out).mono ?_;rintro e w9 ⟨⟨v,rfl,hv⟩,hk⟩;obtain ⟨n9,l9,m9,a9,c9,b9,d9,w10,rfl,hw,hc,hk2,hr,_⟩:=hv.box;have HC10:=af hc;have HW10:=af hw;have HV10:=af hr;have SK9:=af hk
   have KB10:=af hk2;have SK10:=af (hk.trans hk2);have HK10:=af (HK8.out.trans SK10.out);clear hv hk hw hc hk2 hr;obtain ⟨p1,p2,p3,q1,r1,q2,r2,x0,x1,x2,hlx,HXA⟩:=(HC4.out.kept (SK6.out.trans (SK8.out.trans SK10.out))).read;obtain ⟨p4,p5,p6,q3,r3,q4,r4,y0,y1,y2,hly,HYA⟩:=(HC6.out.kept (SK8.out.trans SK10.out)).read;go_wp2_with fail;rw [<-HW10.out];refine (HNU.out _).mono ?_;rintro e w11 ⟨rfl,rfl⟩;go_wp2_with fail;refine (lM _ _ R _ HXA.out HYA.out).mono ?_;rintro e w12 ⟨rfl,hk12⟩;clear x0 x1 x2 y0 y1 y2 hlx hly;obtain ⟨p7,p8,p9,q5,r5,q6,r6,x0,x1,x2,hlx,HZA⟩:=(HC8.out.kept (SK10.out.trans hk12)).read;obtain ⟨s1,s2,s3,q7,r7,q8,r8,y0,y1,y2,hly,HTA⟩:=(HC10.out.kept hk12).read;have HK12:=af (HK10.out.trans hk12);clear hk12;go_wp2_with fail;refine (HNU.out _).mono ?_;rintro e w13 ⟨rfl,rfl⟩;go_wp2_with fail;refine (lM _ _ P _ HZA.out HTA.out).mono ?_;rintro e w14 ⟨rfl,hk14⟩;go_wp2;go_ret;exact ⟨rfl,HK12.out.trans hk14⟩
theorem uj (ps:List Rw):fQ ps=eT (jp ps) ps.length:=funext fun s=>Ez ps s
theorem ut (ps:List Rw):gQ ps=gr (jp ps) ps.length:=funext fun s=>EB ps s
section
variable {xs:List Int} {ps:List Rw} {r:Rw} {i:Nat}
theorem wJ (hb:cK ps=false) (hr:bB r=true):cK (ps.set i r)=false:=by
 unfold cK at hb⊢;rw [List.any_eq_false] at hb⊢;intro x hx;rcases List.mem_or_eq_of_mem_set hx with h | rfl
 ·exact hb x h
 ·rw [hr];simp
theorem eE (h:dO xs ps=0) (hr:bB r=true):dO xs (ps.set i r)=0:=by
 have hb:=(cD h).2.2.2;unfold dO at h⊢;rw [List.length_set,wJ hb hr];rw [hb] at h;exact h
theorem yQ (hok:∀ x∈ps,x.Ok) (hro:r.Ok) (hb:cK ps=false) (hr:bB r=true) (hle:al (ps.getD i default)<=al r):wh ps.length (jp ps) (jp (ps.set i r)):=by
 intro k hk;have h1:=pl hok hb k hk
 have h2:=pl (ps:=ps.set i r) (fun x hx=>by
  rcases List.mem_or_eq_of_mem_set hx with h | rfl
  ·exact hok x h
  ·exact hro) (wJ hb hr) k (by rw [List.length_set];exact hk)
 refine ⟨h1.1,?_,h2.2⟩;unfold jp;by_cases e:k=i
 ·subst e;have e2:(ps.set k r).getD k default=r:=by simp [List.getD_eq_getElem?_getD,hk]
  rw [e2];exact hle
 ·have e2:(ps.set i r).getD k default=ps.getD k default:=by simp [List.getD_eq_getElem?_getD,List.getElem?_set_ne (Ne.symm e)]
  rw [e2];exact Rat.le_refl
theorem jC (hok:∀ x∈ps,x.Ok) (hro:r.Ok) (h:dO xs ps=0) (hr:bB r=true) (hle:al (ps.getD i default)<=al r) :
  (fp xs ps<=fp xs (ps.set i r)/\fo xs ps<=fo xs (ps.set i r))/\f' xs ps<=f' xs (ps.set i r)/\gf xs ps<=gf xs (ps.set i r):=by
 have hR:=yQ hok hro (cD h).2.2.2 hr hle;have e2:=eE (i:=i) h hr;unfold fp fo f' gf;rw [if_pos h,if_pos e2,if_pos h,if_pos e2,if_pos h,if_pos e2,if_pos h,if_pos e2];rw [uj,uj,ut,ut,gh,gh,gh,gh,eM,eM,eM,eM,List.length_set];have f1:lG (eT (jp (ps.set i r)) ps.length) (aC xs)<=lG (eT (jp ps) ps.length) (aC xs):=oP fun t _=>dm t hR
 have f2:lG (gr (jp ps) ps.length) (aC xs)<=lG (gr (jp (ps.set i r)) ps.length) (aC xs):=oP fun t _=>dU t hR
 have f3:np (eT (jp ps) ps.length) (aC xs)<=np (eT (jp (ps.set i r)) ps.length) (aC xs):=oM (fun t _=>(dm t hR).2.1) Rat.le_refl;have f4:np (gr (jp (ps.set i r)) ps.length) (aC xs)<=np (gr (jp ps) ps.length) (aC xs):=oM (fun t _=>(dU t hR).2.1) Rat.le_refl;refine ⟨⟨?_,f2⟩,f3,?_⟩ <;> grind
theorem dr (hok:∀ x∈ps,x.Ok) (h:dO xs ps=0):(bB (ai (fp xs ps))=true/\bB (ai (fo xs ps))=true)/\bB (ai (f' xs ps))=true/\bB (ai (gf xs ps))=true:=by
 have hR:wh ps.length (jp ps) (jp ps):=fun k hk=>by
  have h1:=pl hok (cD h).2.2.2 k hk;exact ⟨h1.1,Rat.le_refl,h1.2⟩
 have f1:=oQ (l:=aC xs) fun t _=>⟨(dm t hR).1,(dm t hR).2.2⟩
 have f2:=oQ (l:=aC xs) fun t _=>⟨(dU t hR).1,(dU t hR).2.2⟩
 have f3:=oN (l:=aC xs) fun t _=>⟨(dm t hR).1,(dm t hR).2.2⟩
 have f4:=oN (l:=aC xs) fun t _=>⟨(dU t hR).1,(dU t hR).2.2⟩
 unfold fp fo f' gf;rw [if_pos h,if_pos h,if_pos h,if_pos h,uj,ut,gh,gh,eM,eM];obtain ⟨f1,g1⟩:=f1;obtain ⟨f2,g2⟩:=f2;obtain ⟨f3,g3⟩:=f3;obtain ⟨f4,g4⟩:=f4;refine ⟨⟨fe ?_ ?_,fe f2 g2⟩,fe f3 g3,fe ?_ ?_⟩ <;> grind
end
theorem qZ {w:World} {g:Nat} {e:TypeId} {x y z u:Value} (h:aj w g e [x,y,z,u]):w.cell? ⟨g,0,none⟩=some x/\w.cell? ⟨g,1,none⟩=some y/\w.cell? ⟨g,2,none⟩=some z/\w.cell? ⟨g,3,none⟩=some u:=by
 have h0:=h.cell (i:=0) (by simp);have h1:=h.cell (i:=1) (by simp);have h2:=h.cell (i:=2) (by simp);have h3:=h.cell (i:=3) (by simp);exact ⟨by simpa using h0,by simpa using h1,by simpa using h2,by simpa using h3⟩
theorem yK {w:World} {u1 u2:Value} {r:Rw} (h1:cL w u1 r.num) (h2:cL w u2 r.den):cI (w.alloc (.cells #[.bool r.neg,u1,u2] 29)) (.slice (some ⟨w.heap.size,0,none⟩) 1 1) [r]:=by
 have hR:=aj.made w #[.bool r.neg,u1,u2] 29;have hk:ag w (w.alloc (.cells #[.bool r.neg,u1,u2] 29)):=(ag.refl _).alloc _;refine ⟨some ⟨w.heap.size,0,none⟩,1,rfl,⟨by simp,fun h=>by cases h⟩,by simp,fun i hi=>?_⟩;have hi0:i=0:=by simp at hi;omega
 subst hi0;refine ⟨w.heap.size,0,u1,u2,rfl,?_,h1.kept hk,h2.kept hk⟩;intro j v hj
 match j,hj with
 | 0,hj=>simp at hj;subst hj;exact hR.cell (i:=0) (by simp)
 | 1,hj=>simp at hj;subst hj;exact hR.cell (i:=1) (by simp)
 | 2,hj=>simp at hj;subst hj;exact hR.cell (i:=2) (by simp)
section
variable {xs:List Int} {ps:List Rw}
theorem cP (hok:∀ r∈ps,r.Ok) (h3:∀ r∈ps,r.Short 3) (h30:ps.length<=30) (h:dO xs ps=0) :
  ((ai (fp xs ps)).Short 100000/\(ai (fo xs ps)).Short 100000)/\(ai (f' xs ps)).Short 100000/\(ai (gf xs ps)).Short 100000:=by
 obtain ⟨_,hl,_,hb⟩:=cD h;have hF91:∀ s∈aC xs,(ai (fQ ps s)).Short 91:=fun s _=>gA hok h3 h30 s
 have hG91:∀ s∈aC xs,(ai (gQ ps s)).Short 91:=fun s _=>jD hok hb h3 h30 s
 have sF:=cq hl hF91;have sG:=cq hl hG91;have gF:=bQ hF91;have gG:=bQ hG91;have sF2:=cX sF (by decide);have gG2:=cX gG (by decide);unfold fp fo f' gf;rw [if_pos h,if_pos h,if_pos h,if_pos h];exact ⟨⟨⟨Nat.le_trans sF2.1 (by omega),Nat.le_trans sF2.2 (by omega)⟩,⟨Nat.le_trans sG.1 (by omega),Nat.le_trans sG.2 (by omega)⟩⟩,⟨Nat.le_trans gF.1 (by omega),Nat.le_trans gF.2 (by omega)⟩,⟨Nat.le_trans gG2.1 (by omega),Nat.le_trans gG2.2 (by omega)⟩⟩
end
def RiseK (F:FuncId) (w w9:World) (xv pv qv:Value) (Q:Nat):Prop :=
 ∃ (A B:Rw) (Q2:Nat) (S:Int),(Q=0->Q2=0/\S<=0) /\
  (∀ W,ag w W->Calls Tryz.prog F #[xv,pv] W fun e w'=>(∃ v',e=.returned (.tuple #[v',aY Q])/\RatAt w' v' A)/\ag W w') /\
  (∀ W,ag w9 W->Calls Tryz.prog F #[xv,qv] W fun e w'=>(∃ v',e=.returned (.tuple #[v',aY Q2])/\RatAt w' v' B)/\ag W w') /\
  (Q=0->(∀ W u1 u2,RatAt W u1 A->RatAt W u2 B->Calls Tryz.prog 29 #[u1,u2] W fun e w'=>e=.returned (.int .i64 S)/\ag W w') /\
   (∀ W u,RatAt W u A->Calls Tryz.prog 28 #[u] W fun e w'=>e=.returned (.bool true)/\ag W w') /\
   ∀ W u,RatAt W u B->Calls Tryz.prog 28 #[u] W fun e w'=>e=.returned (.bool true)/\ag W w')
theorem lT {x y:Rat} (hx:(ai x).Short 100000) (hy:(ai y).Short 100000) (W:World) (u1 u2:Value) (h1:RatAt W u1 (ai x)) (h2:RatAt W u2 (ai y)):Calls Tryz.prog 29 #[u1,u2] W fun e w'=>e=.returned (.int .i64 (bT (x - y)))/\ag W w':=by
 have h:=jq u1 u2 _ _ W h1 h2 ⟨Nat.le_trans hx.1 (by omega),Nat.le_trans hx.2 (by omega)⟩ ⟨Nat.le_trans hy.1 (by omega),Nat.le_trans hy.2 (by omega)⟩;rw [ap,ap] at h;exact h
theorem dz {x:Rat} (hx:(ai x).Short 100000) (hp:bB (ai x)=true) (W:World) (u:Value) (h1:RatAt W u (ai x)):Calls Tryz.prog 28 #[u] W fun e w'=>e=.returned (.bool true)/\ag W w':=by
 have h:=mM u _ W h1 ⟨Nat.le_trans hx.1 (by omega),Nat.le_trans hx.2 (by omega)⟩;rw [hp] at h;exact h
theorem vt {w w9:World} {xv pv qv:Value} {xs:List Int} {ps:List Rw} {r:Rw} {i:Nat} (hx:am w xv xs) (hp:RatsAt w pv ps) (h9:ag w w9) (hq:RatsAt w9 qv (ps.set i r)) (h3:∀ x∈ps,x.Short 3) (h30:ps.length<=30) (hr3:r.Short 3) (hro:r.Ok) (hr:bB r=true) (hle:al (ps.getD i default)<=al r) :
  RiseK 13 w w9 xv pv qv (dO xs ps):=by
 have hs3:∀ x∈ps.set i r,x.Short 3:=fun x hx=>by
  rcases List.mem_or_eq_of_mem_set hx with h | rfl
  ·exact h3 x h
  ·exact hr3
 have hs30:(ps.set i r).length<=30:=by rw [List.length_set];exact h30
 refine ⟨_,_,_,bT (fp xs ps - fp xs (ps.set i r)),fun h=>⟨eE h hr,(eJ _ _).2 (jC hp.ok hro h hr hle).1.1⟩,fun W hk=>fC xv pv xs ps W (hx.kept hk) (hp.kept hk) h3 h30,fun W hk=>fC xv qv xs (ps.set i r) W (hx.kept (h9.trans hk)) (hq.kept hk) hs3 hs30,fun h=>?_⟩;have e2:=eE (i:=i) h hr;have k1:=(cP hp.ok h3 h30 h).1.1;have k2:=(cP hq.ok hs3 hs30 e2).1.1;exact ⟨lT k1 k2,dz k1 (dr hp.ok h).1.1,dz k2 (dr hq.ok e2).1.1⟩
theorem vq {w w9:World} {xv pv qv:Value} {xs:List Int} {ps:List Rw} {r:Rw} {i:Nat} (hx:am w xv xs) (hp:RatsAt w pv ps) (h9:ag w w9) (hq:RatsAt w9 qv (ps.set i r)) (h3:∀ x∈ps,x.Short 3) (h30:ps.length<=30) (hr3:r.Short 3) (hro:r.Ok) (hr:bB r=true) (hle:al (ps.getD i default)<=al r) :
  RiseK 15 w w9 xv pv qv (dO xs ps):=by
 have hs3:∀ x∈ps.set i r,x.Short 3:=fun x hx=>by
  rcases List.mem_or_eq_of_mem_set hx with h | rfl
  ·exact h3 x h
  ·exact hr3
 have hs30:(ps.set i r).length<=30:=by rw [List.length_set];exact h30
 refine ⟨_,_,_,bT (fo xs ps - fo xs (ps.set i r)),fun h=>⟨eE h hr,(eJ _ _).2 (jC hp.ok hro h hr hle).1.2⟩,fun W hk=>fA xv pv xs ps W (hx.kept hk) (hp.kept hk) h3 h30,fun W hk=>fA xv qv xs (ps.set i r) W (hx.kept (h9.trans hk)) (hq.kept hk) hs3 hs30,fun h=>?_⟩;have e2:=eE (i:=i) h hr;have k1:=(cP hp.ok h3 h30 h).1.2;have k2:=(cP hq.ok hs3 hs30 e2).1.2;exact ⟨lT k1 k2,dz k1 (dr hp.ok h).1.2,dz k2 (dr hq.ok e2).1.2⟩
theorem vp {w w9:World} {xv pv qv:Value} {xs:List Int} {ps:List Rw} {r:Rw} {i:Nat} (hx:am w xv xs) (hp:RatsAt w pv ps) (h9:ag w w9) (hq:RatsAt w9 qv (ps.set i r)) (h3:∀ x∈ps,x.Short 3) (h30:ps.length<=30) (hr3:r.Short 3) (hro:r.Ok) (hr:bB r=true) (hle:al (ps.getD i default)<=al r) :
  RiseK 24 w w9 xv pv qv (dO xs ps):=by
 have hs3:∀ x∈ps.set i r,x.Short 3:=fun x hx=>by
  rcases List.mem_or_eq_of_mem_set hx with h | rfl
  ·exact h3 x h
  ·exact hr3
 have hs30:(ps.set i r).length<=30:=by rw [List.length_set];exact h30
 refine ⟨_,_,_,bT (f' xs ps - f' xs (ps.set i r)),fun h=>⟨eE h hr,(eJ _ _).2 (jC hp.ok hro h hr hle).2.1⟩,fun W hk=>je xv pv xs ps W (hx.kept hk) (hp.kept hk) h3 h30,fun W hk=>je xv qv xs (ps.set i r) W (hx.kept (h9.trans hk)) (hq.kept hk) hs3 hs30,fun h=>?_⟩;have e2:=eE (i:=i) h hr;have k1:=(cP hp.ok h3 h30 h).2.1;have k2:=(cP hq.ok hs3 hs30 e2).2.1;exact ⟨lT k1 k2,dz k1 (dr hp.ok h).2.1,dz k2 (dr hq.ok e2).2.1⟩
theorem yO {w w9:World} {xv pv qv:Value} {xs:List Int} {ps:List Rw} {r:Rw} {i:Nat} (hx:am w xv xs) (hp:RatsAt w pv ps) (h9:ag w w9) (hq:RatsAt w9 qv (ps.set i r)) (h3:∀ x∈ps,x.Short 3) (h30:ps.length<=30) (hr3:r.Short 3) (hro:r.Ok) (hr:bB r=true) (hle:al (ps.getD i default)<=al r) :
  RiseK 26 w w9 xv pv qv (dO xs ps):=by
 have hs3:∀ x∈ps.set i r,x.Short 3:=fun x hx=>by
  rcases List.mem_or_eq_of_mem_set hx with h | rfl
  ·exact h3 x h
  ·exact hr3
 have hs30:(ps.set i r).length<=30:=by rw [List.length_set];exact h30
 refine ⟨_,_,_,bT (gf xs ps - gf xs (ps.set i r)),fun h=>⟨eE h hr,(eJ _ _).2 (jC hp.ok hro h hr hle).2.2⟩,fun W hk=>kC xv pv xs ps W (hx.kept hk) (hp.kept hk) h3 h30,fun W hk=>kC xv qv xs (ps.set i r) W (hx.kept (h9.trans hk)) (hq.kept hk) hs3 hs30,fun h=>?_⟩;have e2:=eE (i:=i) h hr;have k1:=(cP hp.ok h3 h30 h).2.2;have k2:=(cP hq.ok hs3 hs30 e2).2.2;exact ⟨lT k1 k2,dz k1 (dr hp.ok h).2.2,dz k2 (dr hq.ok e2).2.2⟩
theorem rm (xv v u1 u2:Value) (xs:List Int) (ps:List Rw) (x:Nat) (r:Rw) (w:World) (hx:am w xv xs) (hv:cI w v ps) (hx8:x<256) (hu1:cL w u1 r.num) (hu2:cL w u2 r.den) :
  Calls Tryz.prog 6 #[xv,v,.agg #[.int .u8 x,.bool r.neg,u1,u2]] w fun e w'=>e=.returned (.bool true)/\ag w w':=by
 have HA:Hid (∀ W,Calls Tryz.prog 10 #[] W fun e w'=>e=.returned (.bool true)/\ag W w'):=af fun W=>kv W
 have HL:=af (fun W (h:ag w W)=>jG v ps W (hv.kept h))
 have HL2:Hid (∀ W W',ag w W->W'=W.alloc (.cells #[.bool r.neg,u1,u2] 29)->Calls Tryz.prog 12 #[.slice (some ⟨W.heap.size,0,none⟩) 1 1] W' fun e w'=>(∃ u,e=.returned u/\zv u [r])/\ag W' w'):=af fun W W' h e=>by
  rw [e];exact jG _ [r] _ (yK (hu1.kept h) (hu2.kept h))
 have HRV1:Hid (r.Short 3->RatAt w (.agg #[.bool r.neg,u1,u2]) r):=af fun h=>⟨u1,u2,rfl,hu1.small (Nat.le_trans h.1 (by omega)),hu2.small (Nat.le_trans h.2 (by omega))⟩
 have HW12:Hid (r.Short 3->WdsAt w u1 r.num/\WdsAt w u2 r.den):=af fun h=>⟨hu1.small (Nat.le_trans h.1 (by omega)),hu2.small (Nat.le_trans h.2 (by omega))⟩
 obtain ⟨a1,c1,rfl,_⟩:=hu1.shape;obtain ⟨a2,c2,rfl,_⟩:=hu2.shape;obtain ⟨xa,xc,hxs,_⟩:=id hx;obtain ⟨n,hn⟩:∃ n,n=xs.length:=⟨_,rfl⟩;rw [<-hn] at hxs;obtain ⟨pa,pc,hps,_⟩:=id hv;obtain ⟨pn,hpn⟩:∃ pn,pn=ps.length:=⟨_,rfl⟩;rw [<-hpn] at hps;subst hxs hps;have HX:=af hx;have HRV:=af hv;have HPN:=af hpn;obtain ⟨ng,hng⟩:∃ ng,ng=r.neg:=⟨_,rfl⟩;obtain ⟨l1,hl1⟩:∃ l,l=r.num.length:=⟨_,rfl⟩;obtain ⟨l2,hl2⟩:∃ l,l=r.den.length:=⟨_,rfl⟩;rw [<-hng,<-hl1,<-hl2] at HL2 HRV1;rw [<-hl1,<-hl2] at HW12;rw [<-hng,<-hl1,<-hl2];have HNG:=af hng;have HL1:=af hl1;have HL3:=af hl2;obtain ⟨mb,hmb⟩:∃ mb,mb=jI n:=⟨_,rfl⟩;have HMN:Hid (∀ W,Calls Tryz.prog 11 #[.slice xa n xc] W fun e w'=>e=.returned (.bool mb)/\w'=W):=af fun W=>by rw [hmb];exact kF xa n xc W
 obtain ⟨w0,hw0⟩:∃ w0,w0=w.alloc (.cells #[.int .u8 x,.bool ng,.slice a1 l1 c1,.slice a2 l2 c2] 53):=⟨_,rfl⟩;have HX0:Hid (aj w0 w.heap.size 53 [.int .u8 x,.bool ng,.slice a1 l1 c1,.slice a2 l2 c2]):=af (by rw [hw0];exact aj.made w #[.int .u8 x,.bool ng,.slice a1 l1 c1,.slice a2 l2 c2] 53);have HK0:Hid (ag w w0):=af (by rw [hw0];exact (ag.refl _).alloc _);have HW0:=af hw0;clear hmb hx hv hn hpn hng hl1 hl2 hu1 hu2 hw0;go_enter Tryz.func6,Tryz.ntmps6;go_wp2_with fail;rw [<-HW0.out];refine (HA.out _).mono ?_;rintro e w1 ⟨rfl,hk1⟩;have HX1:=af (HX0.out.kept hk1);have HK1:=af (HK0.out.trans hk1);clear hk1;go_wp2_with fail;refine (HMN.out _).mono ?_;rintro e w2 ⟨rfl,h2⟩;rw [h2];clear h2;cases mb with
 | true =>
  go_wp2_with fail;refine (HA.out _).mono ?_;rintro e w3 ⟨rfl,hk3⟩;go_wp2;go_ret;exact ⟨rfl,HK1.out.trans hk3⟩
 | false =>
  go_wp2_with fail;refine (HL.out _ HK1.out).mono ?_;rintro e w2 ⟨⟨u2,rfl,bb,rfl,hbb⟩,hk2⟩;have HK2:=af (HK1.out.trans hk2);have HX2:=af (HX1.out.kept hk2);have HBB:=af hbb;clear hk2 hbb;cases bb with
  | true =>
   go_wp2_with fail;refine (HA.out _).mono ?_;rintro e w3 ⟨rfl,hk3⟩;go_wp2;go_ret;exact ⟨rfl,HK2.out.trans hk3⟩
  | false =>
   obtain ⟨h30,hs3⟩:=HBB.out rfl;have HPV:=af (HRV.out.small fun r hr=>⟨Nat.le_trans (hs3 r hr).1 (by omega),Nat.le_trans (hs3 r hr).2 (by omega)⟩);have HS3:=af hs3;have H30:=af h30;clear h30 hs3;obtain ⟨x0,x1,x2,x3⟩:=qZ HX2.out;obtain ⟨w3,hw3⟩:∃ w3,w3=w2.alloc (.cells #[.bool ng,.slice a1 l1 c1,.slice a2 l2 c2] 29):=⟨_,rfl⟩;have HW3:=af hw3;have hk3:ag w2 w3:=by rw [hw3];exact (ag.refl _).alloc _
   have HK3:=af (HK2.out.trans hk3);have HX3:=af (HX2.out.kept hk3);clear hw3 hk3;go_wp2_with fail;rw [<-HW3.out];refine (HL2.out _ _ HK2.out HW3.out).mono ?_;rintro e w4 ⟨⟨u2,rfl,bb,rfl,hbb⟩,hk4⟩;have HK4:=af (HK3.out.trans hk4);have HX4:=af (HX3.out.kept hk4);have HBC:=af hbb;clear hk4 hbb x0 x1 x2 x3;cases bb with
   | true =>
    go_wp2_with fail;refine (HA.out _).mono ?_;rintro e w5 ⟨rfl,hk5⟩;go_wp2;go_ret;exact ⟨rfl,HK4.out.trans hk5⟩
   | false =>
    have HR3:Hid (r.Short 3):=af ((HBC.out rfl).2 r List.mem_cons_self);have HRA:=af (HRV1.out HR3.out);have HRW:=af (HW12.out HR3.out);have h30:=H30.out;rw [<-HPN.out] at h30;by_cases hp0:pn=0
    ·have hpb:((pn:Int) == 0)=true:=by rw [hp0];rfl
     go_wp2_with fail;refine (HA.out _).mono ?_;rintro e w5 ⟨rfl,hk5⟩;go_wp2;go_ret;exact ⟨rfl,HK4.out.trans hk5⟩
    ·have hpb:((pn:Int) == 0)=false:=by rw [beq_eq_false_iff_ne];omega
     have hpi:¬ (pn:Int)=0:=by omega
     obtain ⟨w6,hw6⟩:∃ w6,w6=w4.alloc (.cells #[] 29):=⟨_,rfl⟩;have HO6:Hid (OwnRats w6 w4.heap.size (.slice (some ⟨w4.heap.size,0,none⟩) 0 0) []):=af (by rw [hw6];exact OwnRats.new w4 _ (Nat.le_refl _));have HK46:Hid (ag w4 w6):=af (by rw [hw6];exact (ag.refl w4).alloc _);have HW6:=af hw6;clear hw6;obtain ⟨k,hk⟩:∃ k,k=x % pn:=⟨_,rfl⟩;have hkn:k<pn:=by rw [hk];exact Nat.mod_lt _ (by omega)
     have hmod:Int.tmod (x:Int) (pn:Int)=(k:Int):=by rw [hk,Int.ofNat_tmod]
     have hmod2:(x:Int) % (pn:Int)=(k:Int):=by rw [hk,Int.natCast_emod]
     have hx7:(x:Int)<256:=by omega
     have hpb3:(0:Int)<(pn:Int):=by omega
     have hkni:(k:Int)<(pn:Int):=by omega
     clear hk;go_upto_region 5 with (rw [<-HW6.out];at_builtin;refine nY rfl _ _ rfl w4.heap.size _ [] rfl HO6.out _ ps rfl (HPV.out.kept (HK4.out.trans HK46.out)) (by have:=HPN.out;simp;omega) HK46.out.size ?_;intro qv w7 hown7 hb7;rw [List.nil_append] at hown7;have HK7:=af (HK46.out.app hb7);obtain ⟨g,qc,he7,hg7,hgl7,hcap7⟩:=hown7.shape (by intro e;rw [e] at HPN;exact hp0 HPN.out);subst he7;rw [<-HPN.out] at hown7⊢;have HO7:=af hown7;have HG7:=af hg7;have HX7:=af (HX4.out.kept HK7.out);clear hown7 hb7 hg7 hgl7 hcap7;obtain ⟨x0,x1,x2,x3⟩:=qZ HX7.out)
     obtain ⟨a6,c6,a7,c7,z0,z1,z2,hq⟩:=HO7.out.at3 k (by rw [<-HPN.out];exact hkn);obtain ⟨y,hy⟩:∃ y,y=ps.getD k default:=⟨_,rfl⟩;rw [<-hy] at z0 z1 z2 hq;have HY:=af hy;have HQ:=af hq
     have hy3:y.Short 3:=by
      have hkl:k<ps.length:=by rw [<-HPN.out];exact hkn
      have e:y=ps[k]:=by rw [hy];simp [List.getD_eq_getElem?_getD,hkl]
      rw [e];exact HS3.out _ (List.getElem_mem _)
     obtain ⟨S,hS⟩:∃ S,S=bT (al r - al y):=⟨_,rfl⟩;obtain ⟨pb,hpbe⟩:∃ pb,pb=bB r:=⟨_,rfl⟩
     have HPB:Hid (∀ W u,RatAt W u r->Calls Tryz.prog 28 #[u] W fun e w'=>e=.returned (.bool pb)/\ag W w'):=af fun W u hu=>by
      rw [hpbe];exact mM u r W hu ⟨Nat.le_trans HR3.out.1 (by omega),Nat.le_trans HR3.out.2 (by omega)⟩
     have HCM:Hid (∀ W u1 u2,RatAt W u1 r->RatAt W u2 y->Calls Tryz.prog 29 #[u1,u2] W fun e w'=>e=.returned (.int .i64 S)/\ag W w'):=af fun W u1 u2 k1 k2=>by
      rw [hS];exact jq u1 u2 r y W k1 k2 ⟨Nat.le_trans HR3.out.1 (by omega),Nat.le_trans HR3.out.2 (by omega)⟩ ⟨Nat.le_trans hy3.1 (by omega),Nat.le_trans hy3.2 (by omega)⟩
     have HSE:Hid (S=-1\/S=0\/S=1):=af (by
      rw [hS];unfold bT;split
      ·exact .inr (.inl rfl)
      ·split
       ·exact .inl rfl
       ·exact .inr (.inr rfl))
     have HSL:Hid (¬ S<0->al y<=al r):=af fun h=>by
      rw [hS] at h;unfold bT at h;split at h
      ·grind
      ·split at h
       ·exact absurd (by decide) h
       ·grind
     have HPE:=af hpbe;obtain ⟨Bv,hBv⟩:∃ Bv,Bv=(!pb||decide (S<0)):=⟨_,rfl⟩;have HBv:=af hBv;have HRA7:Hid (RatAt w7 (.agg #[.bool ng,.slice a1 l1 c1,.slice a2 l2 c2]) r):=af (HRA.out.kept (HK4.out.trans HK7.out));clear hS hpbe hBv hq hy hy3;generalize y.neg=y0 at *;generalize y.num.length=y1 at *;generalize y.den.length=y2 at *;go_cut [58] (fun p wx=>p=.bool Bv/\Hid (ag w7 wx))
     case first =>
      cases pb with
      | false =>
       first
        | (go_region_with (first
         | (go_at_call 28;(with_reducible refine (HPB.out _ _ (HRA7.out.kept (by repeat (with_reducible first | exact ag.refl _ | apply ag.drew)))).mono ?_);rintro e w8 ⟨rfl,hk8⟩;have HKB:Hid (ag w7 w8):=af ((ag.refl w7).drew.trans hk8);clear hk8)))
        | fail
       all_goals go_wp2_with fail
       all_goals go_meet
       all_goals exact ⟨by rw [HBv.out];rfl,af (by repeat (with_reducible first | exact HKB.out | exact ag.refl _ | apply ag.drew))⟩
      | true =>
       rcases HSE.out with hs | hs | hs <;> subst hs
       all_goals
        go_region_with (first
         | (go_at_call 28;(with_reducible refine (HPB.out _ _ (HRA7.out.kept (by repeat (with_reducible first | exact ag.refl _ | apply ag.drew)))).mono ?_);rintro e w8 ⟨rfl,hk8⟩;have HKB:Hid (ag w7 w8):=af ((ag.refl w7).drew.trans hk8);have k0:=HKB.out.cell x1;have k1:=HKB.out.cell x2;have k2:=HKB.out.cell x3;have k3:=HKB.out.cell z0;have k4:=HKB.out.cell z1;have k5:=HKB.out.cell z2;clear hk8)
         | (go_at_call 29;(with_reducible refine (HCM.out _ _ _ (HRA7.out.kept HKB.out) (HQ.out.kept HKB.out)).mono ?_);rintro e w9 ⟨rfl,hk9⟩;have HKC:Hid (ag w7 w9):=af (HKB.out.trans hk9);clear hk9))
       all_goals go_wp2_with fail
       all_goals go_meet
       all_goals exact ⟨by rw [HBv.out];rfl,af (by repeat (with_reducible first | exact HKC.out | exact HKB.out | exact ag.refl _ | apply ag.drew))⟩
     case rest =>
      obtain ⟨rfl,HKx⟩:=hcut;obtain ⟨wz,rfl⟩:∃ wz:World,wz=wc:=⟨_,rfl⟩;cases Bv with
      | true =>
       go_wp2;go_ret;exact ⟨rfl,HK4.out.trans (HK7.out.trans HKx.out)⟩
      | false =>
       have hbb:=HBv.out
       have hpt:bB r=true:=by
        rw [<-HPE.out];cases pb
        ·simp at hbb
        ·rfl
       have hle:al y<=al r:=HSL.out (by
        intro h;rw [decide_eq_true h] at hbb;simp at hbb)
       rw [HY.out] at hle;have ho:=HO7.out.kept HKx.out;have f0:=ho.free (k*3);have f1:=ho.free (k*3+1);have f2:=ho.free (k*3+2);have HXz:=HX7.out.kept HKx.out;have z3:=HKx.out.cell z0;have z4:=HKx.out.cell z1;have z5:=HKx.out.cell z2;have hs:=ho.set HPN.out k (by rw [<-HPN.out];exact hkn) (HRW.out.1.kept (HK4.out.trans (HK7.out.trans HKx.out))) (HRW.out.2.kept (HK4.out.trans (HK7.out.trans HKx.out)));rw [<-HNG.out] at hs;obtain ⟨w9,hw9⟩:∃ w9,w9=((wz.setCell ⟨g,k*3,none⟩ (.bool ng)).setCell ⟨g,k*3+1,none⟩ (.slice a1 l1 c1)).setCell ⟨g,k*3+2,none⟩ (.slice a2 l2 c2):=⟨_,rfl⟩;rw [<-hw9] at hs;have HK9:Hid (ag w w9):=af (HK4.out.trans (by rw [hw9];exact (((HK7.out.trans HKx.out).store HG7.out _ _).store HG7.out _ _).store HG7.out _ _));have HW9:=af hw9;obtain ⟨Q,hQ⟩:∃ Q,Q=dO xs ps:=⟨_,rfl⟩;have RU:=af (vt HX.out HPV.out HK9.out hs.at HS3.out H30.out HR3.out HRA.out.ok hpt hle);have RL:=af (vq HX.out HPV.out HK9.out hs.at HS3.out H30.out HR3.out HRA.out.ok hpt hle);have RE:=af (vp HX.out HPV.out HK9.out hs.at HS3.out H30.out HR3.out HRA.out.ok hpt hle);have RM:=af (yO HX.out HPV.out HK9.out hs.at HS3.out H30.out HR3.out HRA.out.ok hpt hle);rw [<-hQ] at RU RL RE RM;clear hs hw9 ho hle hpt hbb HSL HSE HPB HCM HBv HRA7 HO7 HQ hQ x0 x1 x2 x3;obtain ⟨x0,x1,x2,x3⟩:=qZ HXz;go_wp2_with fail;rw [<-HW9.out];clear x0 x1 x2 x3 z0 z1 z2 z3 z4 z5 f0 f1 f2 HXz
       go_loopg [64] 4 (fun kx s64 wr=>∃ j:Nat,j<=4/\s64=.int .i64 j/\4 - j<=kx/\Hid (ag w9 wr))
       case atStart=>exact ⟨0,Nat.zero_le _,rfl,by omega,af (ag.refl _)⟩
       case round =>
        obtain ⟨j,hj,rfl,hjx,HKr⟩:=hrel;obtain ⟨wi,rfl⟩:∃ wi:World,wi=wr:=⟨_,rfl⟩;by_cases hlt:j<4
        ·have hji:(j:Int)<4:=by omega
         obtain ⟨wA,hwA⟩:∃ wA,wA=wi.alloc (.cells #[.bool false,.slice none 0 0,.slice none 0 0] 29):=⟨_,rfl⟩;obtain ⟨wB,hwB⟩:∃ wB,wB=wA.alloc (.cells #[.bool false,.slice none 0 0,.slice none 0 0] 29):=⟨_,rfl⟩;have hsA:wA.heap.size=wi.heap.size+1:=by rw [hwA];simp
         have HCA:Hid (RatCell wB wi.heap.size ⟨false,[],[]⟩):=af (RatCell.kept (w:=wA) (by rw [hwA];exact RatCell.zero wi) (by rw [hwB];exact (ag.refl _).alloc _));have HCB:Hid (RatCell wB (wi.heap.size+1) ⟨false,[],[]⟩):=af (by rw [<-hsA,hwB];exact RatCell.zero wA);have HKB:Hid (ag w9 wB):=af (HKr.out.trans (by rw [hwB,hwA];exact ((ag.refl _).alloc _).alloc _));rw [hwA] at hwB;have HWB:=af hwB;have HZ:Hid (w9.heap.size<=wi.heap.size):=af HKr.out.size;clear hwA hwB hsA;have hj4:j=0\/j=1\/j=2\/j=3:=by omega
         rcases hj4 with e | e | e | e
         ·have d0:((j:Int) == 0)=true:=by rw [e];rfl
          clear e;obtain ⟨A,B,Q2,S,hQS,hF,hG,hR⟩:=RU.out;have HQS:=af hQS;have HR:=af hR;have HG:=af hG;clear hQS hR hG;by_cases hQ:Q=0
          ·obtain ⟨hQ2,hS⟩:=HQS.out hQ;obtain ⟨hC,hPa,hPb⟩:=HR.out hQ;rw [hQ,aW] at hF;subst hQ2;rw [aW] at HG;have HF:=af hF;have HCQ:=af hC;have HPA:=af hPa;have HPQ:=af hPb;have hSn:¬ (0:Int)<S:=by omega
           clear hF hC hPa hPb HQS HR hQ;go_wp2_with fail;rw [<-HWB.out];refine (HF.out _ (HK9.out.trans HKB.out)).mono ?_;rintro e wC ⟨⟨v,rfl,hv⟩,hkC⟩;obtain ⟨n5,l5,m5,g1,h1,g2,h2,wD,rfl,hwD,⟨⟨t0,p0⟩,⟨t1,q1⟩,⟨t2,q2⟩⟩,⟨f0,f1,f2⟩,hl6,_,_,HSA,HKP⟩:=(HCA.out.kept hkC).save hv;have HKD:=af (HKP.out w9 (HKB.out.trans hkC) HZ.out);have HCD:Hid (RatCell wD (wi.heap.size+1) ⟨false,[],[]⟩):=af ((HCB.out.kept hkC).apart (by omega) (HCA.out.kept hkC) (by rw [hwD];exact (((aw.refl _ _).store 0 _).store 1 _).store 2 _));have HWD:=af hwD;clear hv hkC hwD HKP;go_wp2_with fail;rw [<-HWD.out];refine (HG.out _ HKD.out).mono ?_;rintro e wE ⟨⟨v,rfl,hv⟩,hkE⟩;clear p0 q1 q2 f0 f1 f2 hl6;obtain ⟨n6,l6,m6,g3,h3,g4,h4,wF,rfl,hwF,⟨⟨t3,p0⟩,⟨t4,q1⟩,⟨t5,q2⟩⟩,⟨f0,f1,f2⟩,hl6,_,_,HSB,HKP⟩:=(HCD.out.kept hkE).save hv;have HKF:=af (HKP.out w9 (HKD.out.trans hkE) (Nat.le_trans HZ.out (Nat.le_succ _)));have HAF:=af ((HSA.out.kept hkE).apart (by omega) (HCD.out.kept hkE) (w':=wF) (by rw [hwF];exact (((aw.refl _ _).store 0 _).store 1 _).store 2 _));have HWF:=af hwF;clear hv hkE HKP;clear hwF;go_upto_region 25 with fail
           rw [<-HWF.out];clear p0 q1 q2 f0 f1 f2 hl6;obtain ⟨a1,a2,a3,ea1,ea2,ea3,ea4,ya0,ya1,ya2,hla,HRa⟩:=(HAF.out).read;obtain ⟨b1,b2,b3,eb1,eb2,eb3,eb4,yb0,yb1,yb2,hlb,HRb⟩:=(HSB.out).read;go_wp2_with fail;refine (HCQ.out _ _ _ HRa.out HRb.out).mono ?_;rintro e wG ⟨rfl,hkG⟩;have HKG:=af (HKF.out.trans hkG);clear ya0 ya1 ya2 hla HRa;clear yb0 yb1 yb2 hlb HRb;obtain ⟨a1,a2,a3,ea1,ea2,ea3,ea4,ya0,ya1,ya2,hla,HRa⟩:=(HAF.out.kept hkG).read;go_wp2_with fail;refine (HPA.out _ _ HRa.out).mono ?_;rintro e wH ⟨rfl,hkH⟩;have HKH:=af (HKG.out.trans hkH);clear ya0 ya1 ya2 hla HRa;obtain ⟨b1,b2,b3,eb1,eb2,eb3,eb4,yb0,yb1,yb2,hlb,HRb⟩:=(HSB.out.kept (hkG.trans hkH)).read;clear hkG hkH;go_wp2_with fail;refine (HPQ.out _ _ HRb.out).mono ?_;rintro e wI ⟨rfl,hkI⟩;have HKI:=af (HKH.out.trans hkI);clear yb0 yb1 yb2 hlb HRb;clear hkI;go_wp2_with fail;go_roundg (4 - (j+1))
           case measure=>omega
           case rel=>exact ⟨j+1,by omega,by go_num,Nat.le_refl _,HKI⟩
          ·rw [aN hQ] at hF;have HF:=af hF;obtain ⟨er,her⟩:∃ er,er=aY Q2:=⟨_,rfl⟩;rw [<-her] at HG;clear hF HQS HR her;go_wp2_with fail;rw [<-HWB.out];refine (HF.out _ (HK9.out.trans HKB.out)).mono ?_;rintro e wC ⟨⟨v,rfl,hv⟩,hkC⟩;obtain ⟨n5,l5,m5,g1,h1,g2,h2,wD,rfl,hwD,⟨⟨t0,p0⟩,⟨t1,q1⟩,⟨t2,q2⟩⟩,⟨f0,f1,f2⟩,hl6,_,_,HSA,HKP⟩:=(HCA.out.kept hkC).save hv;have HKD:=af (HKP.out w9 (HKB.out.trans hkC) HZ.out);have HCD:Hid (RatCell wD (wi.heap.size+1) ⟨false,[],[]⟩):=af ((HCB.out.kept hkC).apart (by omega) (HCA.out.kept hkC) (by rw [hwD];exact (((aw.refl _ _).store 0 _).store 1 _).store 2 _));have HWD:=af hwD;clear hv hkC hwD HKP;go_wp2_with fail;rw [<-HWD.out];refine (HG.out _ HKD.out).mono ?_;rintro e wE ⟨⟨v,rfl,hv⟩,hkE⟩;clear p0 q1 q2 f0 f1 f2 hl6;obtain ⟨n6,l6,m6,g3,h3,g4,h4,wF,rfl,hwF,⟨⟨t3,p0⟩,⟨t4,q1⟩,⟨t5,q2⟩⟩,⟨f0,f1,f2⟩,hl6,_,_,HSB,HKP⟩:=(HCD.out.kept hkE).save hv;have HKF:=af (HKP.out w9 (HKD.out.trans hkE) (Nat.le_trans HZ.out (Nat.le_succ _)));have HAF:=af ((HSA.out.kept hkE).apart (by omega) (HCD.out.kept hkE) (w':=wF) (by rw [hwF];exact (((aw.refl _ _).store 0 _).store 1 _).store 2 _));have HWF:=af hwF;clear hv hkE HKP;rw [hwF] at HKF;clear hwF;go_wp2_with fail;go_roundg (4 - (j+1))
           case measure=>omega
           case rel=>exact ⟨j+1,by omega,by go_num,Nat.le_refl _,HKF⟩
         ·have d0:((j:Int) == 0)=false:=by rw [e];rfl
          have d1:((j:Int) == 1)=true:=by rw [e];rfl
          clear e;obtain ⟨A,B,Q2,S,hQS,hF,hG,hR⟩:=RL.out;have HQS:=af hQS;have HR:=af hR;have HG:=af hG;clear hQS hR hG;by_cases hQ:Q=0
          ·obtain ⟨hQ2,hS⟩:=HQS.out hQ;obtain ⟨hC,hPa,hPb⟩:=HR.out hQ;rw [hQ,aW] at hF;subst hQ2;rw [aW] at HG;have HF:=af hF;have HCQ:=af hC;have HPA:=af hPa;have HPQ:=af hPb;have hSn:¬ (0:Int)<S:=by omega
           clear hF hC hPa hPb HQS HR hQ;go_wp2_with fail;rw [<-HWB.out];refine (HF.out _ (HK9.out.trans HKB.out)).mono ?_;rintro e wC ⟨⟨v,rfl,hv⟩,hkC⟩;obtain ⟨n5,l5,m5,g1,h1,g2,h2,wD,rfl,hwD,⟨⟨t0,p0⟩,⟨t1,q1⟩,⟨t2,q2⟩⟩,⟨f0,f1,f2⟩,hl6,_,_,HSA,HKP⟩:=(HCA.out.kept hkC).save hv;have HKD:=af (HKP.out w9 (HKB.out.trans hkC) HZ.out);have HCD:Hid (RatCell wD (wi.heap.size+1) ⟨false,[],[]⟩):=af ((HCB.out.kept hkC).apart (by omega) (HCA.out.kept hkC) (by rw [hwD];exact (((aw.refl _ _).store 0 _).store 1 _).store 2 _));have HWD:=af hwD;clear hv hkC hwD HKP;go_wp2_with fail;rw [<-HWD.out];refine (HG.out _ HKD.out).mono ?_;rintro e wE ⟨⟨v,rfl,hv⟩,hkE⟩;clear p0 q1 q2 f0 f1 f2 hl6;obtain ⟨n6,l6,m6,g3,h3,g4,h4,wF,rfl,hwF,⟨⟨t3,p0⟩,⟨t4,q1⟩,⟨t5,q2⟩⟩,⟨f0,f1,f2⟩,hl6,_,_,HSB,HKP⟩:=(HCD.out.kept hkE).save hv;have HKF:=af (HKP.out w9 (HKD.out.trans hkE) (Nat.le_trans HZ.out (Nat.le_succ _)));have HAF:=af ((HSA.out.kept hkE).apart (by omega) (HCD.out.kept hkE) (w':=wF) (by rw [hwF];exact (((aw.refl _ _).store 0 _).store 1 _).store 2 _));have HWF:=af hwF;clear hv hkE HKP;clear hwF;go_upto_region 25 with fail
           rw [<-HWF.out];clear p0 q1 q2 f0 f1 f2 hl6;obtain ⟨a1,a2,a3,ea1,ea2,ea3,ea4,ya0,ya1,ya2,hla,HRa⟩:=(HAF.out).read;obtain ⟨b1,b2,b3,eb1,eb2,eb3,eb4,yb0,yb1,yb2,hlb,HRb⟩:=(HSB.out).read;go_wp2_with fail;refine (HCQ.out _ _ _ HRa.out HRb.out).mono ?_;rintro e wG ⟨rfl,hkG⟩;have HKG:=af (HKF.out.trans hkG);clear ya0 ya1 ya2 hla HRa;clear yb0 yb1 yb2 hlb HRb;obtain ⟨a1,a2,a3,ea1,ea2,ea3,ea4,ya0,ya1,ya2,hla,HRa⟩:=(HAF.out.kept hkG).read;go_wp2_with fail;refine (HPA.out _ _ HRa.out).mono ?_;rintro e wH ⟨rfl,hkH⟩;have HKH:=af (HKG.out.trans hkH);clear ya0 ya1 ya2 hla HRa;obtain ⟨b1,b2,b3,eb1,eb2,eb3,eb4,yb0,yb1,yb2,hlb,HRb⟩:=(HSB.out.kept (hkG.trans hkH)).read;clear hkG hkH;go_wp2_with fail;refine (HPQ.out _ _ HRb.out).mono ?_;rintro e wI ⟨rfl,hkI⟩;have HKI:=af (HKH.out.trans hkI);clear yb0 yb1 yb2 hlb HRb;clear hkI;go_wp2_with fail;go_roundg (4 - (j+1))
           case measure=>omega
           case rel=>exact ⟨j+1,by omega,by go_num,Nat.le_refl _,HKI⟩
          ·rw [aN hQ] at hF;have HF:=af hF;obtain ⟨er,her⟩:∃ er,er=aY Q2:=⟨_,rfl⟩;rw [<-her] at HG;clear hF HQS HR her;go_wp2_with fail;rw [<-HWB.out];refine (HF.out _ (HK9.out.trans HKB.out)).mono ?_;rintro e wC ⟨⟨v,rfl,hv⟩,hkC⟩;obtain ⟨n5,l5,m5,g1,h1,g2,h2,wD,rfl,hwD,⟨⟨t0,p0⟩,⟨t1,q1⟩,⟨t2,q2⟩⟩,⟨f0,f1,f2⟩,hl6,_,_,HSA,HKP⟩:=(HCA.out.kept hkC).save hv;have HKD:=af (HKP.out w9 (HKB.out.trans hkC) HZ.out);have HCD:Hid (RatCell wD (wi.heap.size+1) ⟨false,[],[]⟩):=af ((HCB.out.kept hkC).apart (by omega) (HCA.out.kept hkC) (by rw [hwD];exact (((aw.refl _ _).store 0 _).store 1 _).store 2 _));have HWD:=af hwD;clear hv hkC hwD HKP;go_wp2_with fail;rw [<-HWD.out];refine (HG.out _ HKD.out).mono ?_;rintro e wE ⟨⟨v,rfl,hv⟩,hkE⟩;clear p0 q1 q2 f0 f1 f2 hl6;obtain ⟨n6,l6,m6,g3,h3,g4,h4,wF,rfl,hwF,⟨⟨t3,p0⟩,⟨t4,q1⟩,⟨t5,q2⟩⟩,⟨f0,f1,f2⟩,hl6,_,_,HSB,HKP⟩:=(HCD.out.kept hkE).save hv;have HKF:=af (HKP.out w9 (HKD.out.trans hkE) (Nat.le_trans HZ.out (Nat.le_succ _)));have HAF:=af ((HSA.out.kept hkE).apart (by omega) (HCD.out.kept hkE) (w':=wF) (by rw [hwF];exact (((aw.refl _ _).store 0 _).store 1 _).store 2 _));have HWF:=af hwF;clear hv hkE HKP;rw [hwF] at HKF;clear hwF;go_wp2_with fail;go_roundg (4 - (j+1))
           case measure=>omega
           case rel=>exact ⟨j+1,by omega,by go_num,Nat.le_refl _,HKF⟩
         ·have d0:((j:Int) == 0)=false:=by rw [e];rfl
          have d1:((j:Int) == 1)=false:=by rw [e];rfl
          have d2:((j:Int) == 2)=true:=by rw [e];rfl
          clear e;obtain ⟨A,B,Q2,S,hQS,hF,hG,hR⟩:=RE.out;have HQS:=af hQS;have HR:=af hR;have HG:=af hG;clear hQS hR hG;by_cases hQ:Q=0
          ·obtain ⟨hQ2,hS⟩:=HQS.out hQ;obtain ⟨hC,hPa,hPb⟩:=HR.out hQ;rw [hQ,aW] at hF;subst hQ2;rw [aW] at HG;have HF:=af hF;have HCQ:=af hC;have HPA:=af hPa;have HPQ:=af hPb;have hSn:¬ (0:Int)<S:=by omega
           clear hF hC hPa hPb HQS HR hQ;go_wp2_with fail;rw [<-HWB.out];refine (HF.out _ (HK9.out.trans HKB.out)).mono ?_;rintro e wC ⟨⟨v,rfl,hv⟩,hkC⟩;obtain ⟨n5,l5,m5,g1,h1,g2,h2,wD,rfl,hwD,⟨⟨t0,p0⟩,⟨t1,q1⟩,⟨t2,q2⟩⟩,⟨f0,f1,f2⟩,hl6,_,_,HSA,HKP⟩:=(HCA.out.kept hkC).save hv;have HKD:=af (HKP.out w9 (HKB.out.trans hkC) HZ.out);have HCD:Hid (RatCell wD (wi.heap.size+1) ⟨false,[],[]⟩):=af ((HCB.out.kept hkC).apart (by omega) (HCA.out.kept hkC) (by rw [hwD];exact (((aw.refl _ _).store 0 _).store 1 _).store 2 _));have HWD:=af hwD;clear hv hkC hwD HKP;go_wp2_with fail;rw [<-HWD.out];refine (HG.out _ HKD.out).mono ?_;rintro e wE ⟨⟨v,rfl,hv⟩,hkE⟩;clear p0 q1 q2 f0 f1 f2 hl6;obtain ⟨n6,l6,m6,g3,h3,g4,h4,wF,rfl,hwF,⟨⟨t3,p0⟩,⟨t4,q1⟩,⟨t5,q2⟩⟩,⟨f0,f1,f2⟩,hl6,_,_,HSB,HKP⟩:=(HCD.out.kept hkE).save hv;have HKF:=af (HKP.out w9 (HKD.out.trans hkE) (Nat.le_trans HZ.out (Nat.le_succ _)));have HAF:=af ((HSA.out.kept hkE).apart (by omega) (HCD.out.kept hkE) (w':=wF) (by rw [hwF];exact (((aw.refl _ _).store 0 _).store 1 _).store 2 _));have HWF:=af hwF;clear hv hkE HKP;clear hwF;go_upto_region 25 with fail
           rw [<-HWF.out];clear p0 q1 q2 f0 f1 f2 hl6;obtain ⟨a1,a2,a3,ea1,ea2,ea3,ea4,ya0,ya1,ya2,hla,HRa⟩:=(HAF.out).read;obtain ⟨b1,b2,b3,eb1,eb2,eb3,eb4,yb0,yb1,yb2,hlb,HRb⟩:=(HSB.out).read;go_wp2_with fail;refine (HCQ.out _ _ _ HRa.out HRb.out).mono ?_;rintro e wG ⟨rfl,hkG⟩;have HKG:=af (HKF.out.trans hkG);clear ya0 ya1 ya2 hla HRa;clear yb0 yb1 yb2 hlb HRb;obtain ⟨a1,a2,a3,ea1,ea2,ea3,ea4,ya0,ya1,ya2,hla,HRa⟩:=(HAF.out.kept hkG).read;go_wp2_with fail;refine (HPA.out _ _ HRa.out).mono ?_;rintro e wH ⟨rfl,hkH⟩;have HKH:=af (HKG.out.trans hkH);clear ya0 ya1 ya2 hla HRa;obtain ⟨b1,b2,b3,eb1,eb2,eb3,eb4,yb0,yb1,yb2,hlb,HRb⟩:=(HSB.out.kept (hkG.trans hkH)).read;clear hkG hkH;go_wp2_with fail;refine (HPQ.out _ _ HRb.out).mono ?_;rintro e wI ⟨rfl,hkI⟩;have HKI:=af (HKH.out.trans hkI);clear yb0 yb1 yb2 hlb HRb;clear hkI;go_wp2_with fail;go_roundg (4 - (j+1))
           case measure=>omega
           case rel=>exact ⟨j+1,by omega,by go_num,Nat.le_refl _,HKI⟩
          ·rw [aN hQ] at hF;have HF:=af hF;obtain ⟨er,her⟩:∃ er,er=aY Q2:=⟨_,rfl⟩;rw [<-her] at HG;clear hF HQS HR her;go_wp2_with fail;rw [<-HWB.out];refine (HF.out _ (HK9.out.trans HKB.out)).mono ?_;rintro e wC ⟨⟨v,rfl,hv⟩,hkC⟩;obtain ⟨n5,l5,m5,g1,h1,g2,h2,wD,rfl,hwD,⟨⟨t0,p0⟩,⟨t1,q1⟩,⟨t2,q2⟩⟩,⟨f0,f1,f2⟩,hl6,_,_,HSA,HKP⟩:=(HCA.out.kept hkC).save hv;have HKD:=af (HKP.out w9 (HKB.out.trans hkC) HZ.out);have HCD:Hid (RatCell wD (wi.heap.size+1) ⟨false,[],[]⟩):=af ((HCB.out.kept hkC).apart (by omega) (HCA.out.kept hkC) (by rw [hwD];exact (((aw.refl _ _).store 0 _).store 1 _).store 2 _));have HWD:=af hwD;clear hv hkC hwD HKP;go_wp2_with fail;rw [<-HWD.out];refine (HG.out _ HKD.out).mono ?_;rintro e wE ⟨⟨v,rfl,hv⟩,hkE⟩;clear p0 q1 q2 f0 f1 f2 hl6;obtain ⟨n6,l6,m6,g3,h3,g4,h4,wF,rfl,hwF,⟨⟨t3,p0⟩,⟨t4,q1⟩,⟨t5,q2⟩⟩,⟨f0,f1,f2⟩,hl6,_,_,HSB,HKP⟩:=(HCD.out.kept hkE).save hv;have HKF:=af (HKP.out w9 (HKD.out.trans hkE) (Nat.le_trans HZ.out (Nat.le_succ _)));have HAF:=af ((HSA.out.kept hkE).apart (by omega) (HCD.out.kept hkE) (w':=wF) (by rw [hwF];exact (((aw.refl _ _).store 0 _).store 1 _).store 2 _));have HWF:=af hwF;clear hv hkE HKP;rw [hwF] at HKF;clear hwF;go_wp2_with fail;go_roundg (4 - (j+1))
           case measure=>omega
           case rel=>exact ⟨j+1,by omega,by go_num,Nat.le_refl _,HKF⟩
         ·have d0:((j:Int) == 0)=false:=by rw [e];rfl
          have d1:((j:Int) == 1)=false:=by rw [e];rfl
          have d2:((j:Int) == 2)=false:=by rw [e];rfl
          clear e;obtain ⟨A,B,Q2,S,hQS,hF,hG,hR⟩:=RM.out;have HQS:=af hQS;have HR:=af hR;have HG:=af hG;clear hQS hR hG;by_cases hQ:Q=0
          ·obtain ⟨hQ2,hS⟩:=HQS.out hQ;obtain ⟨hC,hPa,hPb⟩:=HR.out hQ;rw [hQ,aW] at hF;subst hQ2;rw [aW] at HG;have HF:=af hF;have HCQ:=af hC;have HPA:=af hPa;have HPQ:=af hPb;have hSn:¬ (0:Int)<S:=by omega
           clear hF hC hPa hPb HQS HR hQ;go_wp2_with fail;rw [<-HWB.out];refine (HF.out _ (HK9.out.trans HKB.out)).mono ?_;rintro e wC ⟨⟨v,rfl,hv⟩,hkC⟩;obtain ⟨n5,l5,m5,g1,h1,g2,h2,wD,rfl,hwD,⟨⟨t0,p0⟩,⟨t1,q1⟩,⟨t2,q2⟩⟩,⟨f0,f1,f2⟩,hl6,_,_,HSA,HKP⟩:=(HCA.out.kept hkC).save hv;have HKD:=af (HKP.out w9 (HKB.out.trans hkC) HZ.out);have HCD:Hid (RatCell wD (wi.heap.size+1) ⟨false,[],[]⟩):=af ((HCB.out.kept hkC).apart (by omega) (HCA.out.kept hkC) (by rw [hwD];exact (((aw.refl _ _).store 0 _).store 1 _).store 2 _));have HWD:=af hwD;clear hv hkC hwD HKP;go_wp2_with fail;rw [<-HWD.out];refine (HG.out _ HKD.out).mono ?_;rintro e wE ⟨⟨v,rfl,hv⟩,hkE⟩;clear p0 q1 q2 f0 f1 f2 hl6;obtain ⟨n6,l6,m6,g3,h3,g4,h4,wF,rfl,hwF,⟨⟨t3,p0⟩,⟨t4,q1⟩,⟨t5,q2⟩⟩,⟨f0,f1,f2⟩,hl6,_,_,HSB,HKP⟩:=(HCD.out.kept hkE).save hv;have HKF:=af (HKP.out w9 (HKD.out.trans hkE) (Nat.le_trans HZ.out (Nat.le_succ _)));have HAF:=af ((HSA.out.kept hkE).apart (by omega) (HCD.out.kept hkE) (w':=wF) (by rw [hwF];exact (((aw.refl _ _).store 0 _).store 1 _).store 2 _));have HWF:=af hwF;clear hv hkE HKP;clear hwF;go_upto_region 25 with fail
           rw [<-HWF.out];clear p0 q1 q2 f0 f1 f2 hl6;obtain ⟨a1,a2,a3,ea1,ea2,ea3,ea4,ya0,ya1,ya2,hla,HRa⟩:=(HAF.out).read;obtain ⟨b1,b2,b3,eb1,eb2,eb3,eb4,yb0,yb1,yb2,hlb,HRb⟩:=(HSB.out).read;go_wp2_with fail;refine (HCQ.out _ _ _ HRa.out HRb.out).mono ?_;rintro e wG ⟨rfl,hkG⟩;have HKG:=af (HKF.out.trans hkG);clear ya0 ya1 ya2 hla HRa;clear yb0 yb1 yb2 hlb HRb;obtain ⟨a1,a2,a3,ea1,ea2,ea3,ea4,ya0,ya1,ya2,hla,HRa⟩:=(HAF.out.kept hkG).read;go_wp2_with fail;refine (HPA.out _ _ HRa.out).mono ?_;rintro e wH ⟨rfl,hkH⟩;have HKH:=af (HKG.out.trans hkH);clear ya0 ya1 ya2 hla HRa;obtain ⟨b1,b2,b3,eb1,eb2,eb3,eb4,yb0,yb1,yb2,hlb,HRb⟩:=(HSB.out.kept (hkG.trans hkH)).read;clear hkG hkH;go_wp2_with fail;refine (HPQ.out _ _ HRb.out).mono ?_;rintro e wI ⟨rfl,hkI⟩;have HKI:=af (HKH.out.trans hkI);clear yb0 yb1 yb2 hlb HRb;clear hkI;go_wp2_with fail;go_roundg (4 - (j+1))
           case measure=>omega
           case rel=>exact ⟨j+1,by omega,by go_num,Nat.le_refl _,HKI⟩
          ·rw [aN hQ] at hF;have HF:=af hF;obtain ⟨er,her⟩:∃ er,er=aY Q2:=⟨_,rfl⟩;rw [<-her] at HG;clear hF HQS HR her;go_wp2_with fail;rw [<-HWB.out];refine (HF.out _ (HK9.out.trans HKB.out)).mono ?_;rintro e wC ⟨⟨v,rfl,hv⟩,hkC⟩;obtain ⟨n5,l5,m5,g1,h1,g2,h2,wD,rfl,hwD,⟨⟨t0,p0⟩,⟨t1,q1⟩,⟨t2,q2⟩⟩,⟨f0,f1,f2⟩,hl6,_,_,HSA,HKP⟩:=(HCA.out.kept hkC).save hv;have HKD:=af (HKP.out w9 (HKB.out.trans hkC) HZ.out);have HCD:Hid (RatCell wD (wi.heap.size+1) ⟨false,[],[]⟩):=af ((HCB.out.kept hkC).apart (by omega) (HCA.out.kept hkC) (by rw [hwD];exact (((aw.refl _ _).store 0 _).store 1 _).store 2 _));have HWD:=af hwD;clear hv hkC hwD HKP;go_wp2_with fail;rw [<-HWD.out];refine (HG.out _ HKD.out).mono ?_;rintro e wE ⟨⟨v,rfl,hv⟩,hkE⟩;clear p0 q1 q2 f0 f1 f2 hl6;obtain ⟨n6,l6,m6,g3,h3,g4,h4,wF,rfl,hwF,⟨⟨t3,p0⟩,⟨t4,q1⟩,⟨t5,q2⟩⟩,⟨f0,f1,f2⟩,hl6,_,_,HSB,HKP⟩:=(HCD.out.kept hkE).save hv;have HKF:=af (HKP.out w9 (HKD.out.trans hkE) (Nat.le_trans HZ.out (Nat.le_succ _)));have HAF:=af ((HSA.out.kept hkE).apart (by omega) (HCD.out.kept hkE) (w':=wF) (by rw [hwF];exact (((aw.refl _ _).store 0 _).store 1 _).store 2 _));have HWF:=af hwF;clear hv hkE HKP;rw [hwF] at HKF;clear hwF;go_wp2_with fail;go_roundg (4 - (j+1))
           case measure=>omega
           case rel=>exact ⟨j+1,by omega,by go_num,Nat.le_refl _,HKF⟩
        ·have hje:¬ (j:Int)<4:=by omega
         go_wp2;go_ret;exact ⟨rfl,HK9.out.trans HKr.out⟩
section
open Go.RowKit Go.ChangeShapes Go.WideShapes Go.ChangeAt Go.Joins Go.Deep
def EV (w:World) (v:Value) (L:List (Int × Int)):Prop :=
 ∃ (a:Option Addr) (c:Nat),v=.slice a L.length c/\(L.length<=c/\(a=none->c=0))/\L.length<=140737488355328 /\
  ∀ i (h:i<L.length),∃ b o,a=some ⟨b,o,none⟩/\w.rangeAt b (o+i*2) (tV L[i])
section
variable {H:Type} {enc:TypeId × Value->H} {W:World} {base:Nat}
theorem oC {v:Value} {d:DataW H} {p:List MemPlace} (hv:Value.okWide Tryz.prog W .any base 22 v) (hb:∀ n∈d.weights Tryz.prog 22,n<=reachBytes)
  (h:DataW.Trod enc Tryz.prog W 0 (fun _=>true) true 22 v d p):∃ xs:List Int,am W v xs:=by
 obtain ⟨fuel,h1f⟩:=h;obtain ⟨u,xs,e3,hps,_⟩:=xW hb h1f;obtain ⟨a,c,rfl,_⟩:=id hps;obtain ⟨a2,n2,c2,h5⟩:=okWide_slice Tryz.underlying22 hv;subst h5;have e4:Value.slice a xs.length c=.slice a2 n2 c2:=by simpa [Value.cells] using e3.symm
 rw [<-e4];exact ⟨xs,hps⟩
theorem th {v:Value} {d:DataW H} {p:List MemPlace} (hv:Value.okWide Tryz.prog W .any base 23 v) (hb:∀ n∈d.weights Tryz.prog 23,n<=reachBytes)
  (h:DataW.Trod enc Tryz.prog W 0 (fun _=>true) true 23 v d p):∃ xs:List Rw,cI W v xs:=by
 obtain ⟨fuel,h1f⟩:=h;obtain ⟨u,xs,e3,hps⟩:=yJ hb h1f;obtain ⟨a,c,rfl,_⟩:=id hps;obtain ⟨a2,n2,c2,h5⟩:=okWide_slice Tryz.underlying23 hv;subst h5;have e4:Value.slice a xs.length c=.slice a2 n2 c2:=by simpa [Value.cells] using e3.symm
 rw [<-e4];exact ⟨xs,hps⟩
end
theorem Ft {s:ChangeSpec} (F:FuncId) (fn:Func) (hs1:s.vars=[]) (hs2:∀ (H:Type) (d:DataW H),s.fn H [d]={ results:=[.lit (.bool true)],args:=[d] })
  (hp:fn.params=#[22]) (hr:fn.resultTypes=#[4])
  (walk:∀ (W:World) (v:Value) (xs:List Int),am W v xs->Calls Tryz.prog F #[v] W fun e w'=>e=.returned (.bool true)/\ag W w')
  {H:Type} {enc:TypeId × Value->H} (W:World) (base:Nat) (args:Array Value) (ds gs:List (DataW H)) (before:List MemPlace)
  (hval:∀ (j:Nat) t v,fn.params[j]?=some t->args[j]?=some v->Value.okWide Tryz.prog W .any base t v)
  (hW:DataW.Whole enc Tryz.prog fn.params.toList s.vars false W args.toList ds gs before)
  (hsz:(DataW.weightsEach Tryz.prog (fn.params.toList++s.plain.varTypes Tryz.prog) (ds++gs)).all (·<=reachBytes)=true) :
  Calls Tryz.prog F args W fun e W'=>∃ v,e=.returned v/\s.post enc Tryz.prog fn false true false false W args v W':=by
 have hW':=hW;obtain ⟨p,q,hA,hV,rfl,hfz,_⟩:=hW;rw [hs1] at hV;obtain ⟨rfl,rfl⟩:=trodVars_none hV;rw [hp] at hA hval hsz;obtain ⟨v0,d0,rfl,rfl,h0⟩:=trodAll_one hA;have h0k:=h0
 obtain ⟨xs,hx⟩:=oC (hval 0 _ _ rfl rfl) (fun n hn=>by
  have:=List.all_eq_true.1 hsz n (DataW.weights_mem_each (j:=0) rfl rfl n hn);simpa using this) h0
 have hlt:∀ x∈p,x.block<W.heap.size:=fun x hx=>hW'.lt x (by simp [hx])
 refine (walk W v0 xs hx).mono fun e W' ⟨he,hk⟩=>?_
 subst he;refine ⟨_,rfl,[d0],[],p++[],[],p,[],hW',?_,?_,?_,Below.frame hk _,fun h=>by cases h⟩
 ·rw [hr];simp only [List.append_nil,hs2];exact trodAll_mk1 (shut_bool Tryz.underlying4 _)
 ·rw [hp];simp only [List.append_nil,hs2];exact trodAll_mk1 (Below.trod f_ (by kernel_rfl) (of_decide_eq_true (by kernel_rfl)) h0k hk hlt)
 ·rw [hs1];simp only [List.append_nil,hs2];rfl
theorem Ap {s:ChangeSpec} (F:FuncId) (fn:Func) (hs1:s.vars=[]) (hs2:∀ (H:Type) (d1 d2:DataW H),s.fn H [d1,d2]={ results:=[.lit (.bool true)],args:=[d1,d2] })
  (hp:fn.params=#[22,23]) (hr:fn.resultTypes=#[4])
  (walk:∀ (W:World) (cv v:Value) (xs:List Int) (ps:List Rw),am W cv xs->cI W v ps->Calls Tryz.prog F #[cv,v] W fun e w'=>e=.returned (.bool true)/\ag W w')
  {H:Type} {enc:TypeId × Value->H} (W:World) (base:Nat) (args:Array Value) (ds gs:List (DataW H)) (before:List MemPlace)
  (hval:∀ (j:Nat) t v,fn.params[j]?=some t->args[j]?=some v->Value.okWide Tryz.prog W .any base t v)
  (hW:DataW.Whole enc Tryz.prog fn.params.toList s.vars false W args.toList ds gs before)
  (hsz:(DataW.weightsEach Tryz.prog (fn.params.toList++s.plain.varTypes Tryz.prog) (ds++gs)).all (·<=reachBytes)=true) :
  Calls Tryz.prog F args W fun e W'=>∃ v,e=.returned v/\s.post enc Tryz.prog fn false true false false W args v W':=by
 have hW':=hW;obtain ⟨p,q,hA,hV,rfl,hfz,_⟩:=hW;rw [hs1] at hV;obtain ⟨rfl,rfl⟩:=trodVars_none hV;rw [hp] at hA hval hsz;obtain ⟨v0,v1,d0,d1,p0,p1,rfl,rfl,rfl,h0,h1⟩:=trodAll_two hA;have h0k:=h0;have h1k:=h1
 obtain ⟨xs,hx⟩:=oC (hval 0 _ _ rfl rfl) (fun n hn=>by
  have:=List.all_eq_true.1 hsz n (DataW.weights_mem_each (j:=0) rfl rfl n hn);simpa using this) h0
 obtain ⟨ps,hps⟩:=th (hval 1 _ _ rfl rfl) (fun n hn=>by
  have:=List.all_eq_true.1 hsz n (DataW.weights_mem_each (j:=1) rfl rfl n hn);simpa using this) h1
 have hlt:∀ x∈p0++p1,x.block<W.heap.size:=fun x hx=>hW'.lt x (by simpa using hx)
 refine (walk W v0 v1 xs ps hx hps).mono fun e W' ⟨he,hk⟩=>?_
 subst he;refine ⟨_,rfl,[d0,d1],[],(p0++p1)++[],[],p0++p1,[],hW',?_,?_,?_,Below.frame hk _,fun h=>by cases h⟩
 ·rw [hr];simp only [List.append_nil,hs2];exact trodAll_mk1 (shut_bool Tryz.underlying4 _)
 ·rw [hp];simp only [List.append_nil,hs2];exact trodAll_mk2 (Below.trod f_ (by kernel_rfl) (of_decide_eq_true (by kernel_rfl)) h0k hk (fun x hx=>hlt x (by simp [hx]))) (Below.trod f_ (by kernel_rfl) (of_decide_eq_true (by kernel_rfl)) h1k hk (fun x hx=>hlt x (by simp [hx])))
 ·rw [hs1];simp only [List.append_nil,hs2];rfl
end
section
open Go.RowKit Go.ChangeShapes Go.WideShapes Go.ChangeAt Go.Joins Go.Deep
theorem tW:Tryz.prog.cellsOf 53=4:=by kernel_rfl
theorem xD:Tryz.prog.cellsOf 5=1:=by kernel_rfl
theorem yP {H:Type} {enc:TypeId × Value->H} {W:World} {base:Nat} {v:Value} {d:DataW H} {p:List MemPlace} (hv:Value.okWide Tryz.prog W .any base 53 v) (hb:∀ n∈d.weights Tryz.prog 53,n<=reachBytes)
  (h:DataW.Trod enc Tryz.prog W 0 (fun _=>true) true 53 v d p):∃ (x:Nat) (n:Bool) (u1 u2:Value) (xs ys:List Nat),v=.agg #[.int .u8 x,.bool n,u1,u2]/\x<256/\cL W u1 xs/\cL W u2 ys:=by
 obtain ⟨cs,rfl,hsz⟩:=okWide_struct Tryz.underlying53 hv;obtain ⟨c0,c1,c2,c3,rfl⟩:=Go.Joins.array4 (hsz.trans tW);obtain ⟨fuel,hf⟩:=h;obtain ⟨y0,y1,n,hx,_,h0,h1⟩:=trod_struct2 Tryz.underlying53 hf;simp only [Prod.mk.injEq] at hx;simp only [Value.cells,xD,l',List.drop_zero,List.drop_succ_cons,List.take_succ_cons,List.take_zero] at h0 h1;obtain ⟨x,e0,_,wx⟩:=DataW.trod_int Tryz.underlying5 h0;obtain ⟨z0,z1,z2,n',hz,_,g0,g1,g2⟩:=trod_struct3 Tryz.underlying29 h1;simp only [oj,nd,List.drop_zero,List.drop_succ_cons,List.take_succ_cons,List.take_zero] at g0 g1 g2;obtain ⟨ng,e1,_⟩:=DataW.trod_bool Tryz.underlying4 g0;have hd1:y1.1=.agg [z0.1,z1.1,z2.1]:=by rw [hz]
 obtain ⟨u1,xs1,e2,hu1⟩:=gY (fun n hn=>hb n (by
  rw [hx.1,hd1];simp only [DataW.weights,Tryz.underlying53];simp only [List.map_cons,DataW.weightsEach,List.mem_append];refine .inr (.inl ?_);simp only [DataW.weights,Tryz.underlying29];simp only [List.map_cons,DataW.weightsEach,List.mem_append];exact .inr (.inl hn))) g1
 obtain ⟨u2,xs2,e3,hu2⟩:=gY (fun n hn=>hb n (by
  rw [hx.1,hd1];simp only [DataW.weights,Tryz.underlying53];simp only [List.map_cons,DataW.weightsEach,List.mem_append];refine .inr (.inl ?_);simp only [DataW.weights,Tryz.underlying29];simp only [List.map_cons,DataW.weightsEach,List.mem_append];exact .inr (.inr (.inl hn)))) g2
 simp at e0 e1 e2 e3;subst e0 e1 e2 e3
 have hx9:0<=x/\x<256:=by
  simp [Lit.wf,IntKind.min,IntKind.max,IntKind.signed,IntKind.bits] at wx;omega
 refine ⟨x.toNat,ng,_,_,xs1,xs2,?_,by omega,hu1,hu2⟩;rw [Int.toNat_of_nonneg hx9.1]
theorem Cz {s:ChangeSpec} (F:FuncId) (fn:Func) (hs1:s.vars=[]) (hs2:∀ (H:Type) (d1 d2 d3:DataW H),s.fn H [d1,d2,d3]={ results:=[.lit (.bool true)],args:=[d1,d2,d3] })
  (hp:fn.params=#[22,23,53]) (hr:fn.resultTypes=#[4])
  (walk:∀ (W:World) (cv v u1 u2:Value) (xs:List Int) (ps:List Rw) (x:Nat) (r:Rw),am W cv xs->cI W v ps->x<256->cL W u1 r.num->cL W u2 r.den->Calls Tryz.prog F #[cv,v,.agg #[.int .u8 x,.bool r.neg,u1,u2]] W fun e w'=>e=.returned (.bool true)/\ag W w')
  {H:Type} {enc:TypeId × Value->H} (W:World) (base:Nat) (args:Array Value) (ds gs:List (DataW H)) (before:List MemPlace)
  (hval:∀ (j:Nat) t v,fn.params[j]?=some t->args[j]?=some v->Value.okWide Tryz.prog W .any base t v)
  (hW:DataW.Whole enc Tryz.prog fn.params.toList s.vars false W args.toList ds gs before)
  (hsz:(DataW.weightsEach Tryz.prog (fn.params.toList++s.plain.varTypes Tryz.prog) (ds++gs)).all (·<=reachBytes)=true) :
  Calls Tryz.prog F args W fun e W'=>∃ v,e=.returned v/\s.post enc Tryz.prog fn false true false false W args v W':=by
 have hW':=hW;obtain ⟨p,q,hA,hV,rfl,hfz,_⟩:=hW;rw [hs1] at hV;obtain ⟨rfl,rfl⟩:=trodVars_none hV;rw [hp] at hA hval hsz;obtain ⟨v0,v1,v2,d0,d1,d2,p0,p1,p2,rfl,rfl,rfl,h0,h1,h2⟩:=trodAll_three hA;have h0k:=h0;have h1k:=h1;have h2k:=h2
 obtain ⟨xs,hx⟩:=oC (hval 0 _ _ rfl rfl) (fun n hn=>by
  have:=List.all_eq_true.1 hsz n (DataW.weights_mem_each (j:=0) rfl rfl n hn);simpa using this) h0
 obtain ⟨ps,hps⟩:=th (hval 1 _ _ rfl rfl) (fun n hn=>by
  have:=List.all_eq_true.1 hsz n (DataW.weights_mem_each (j:=1) rfl rfl n hn);simpa using this) h1
 obtain ⟨x,ng,u1,u2,n1,n2,rfl,hx8,hu1,hu2⟩:=yP (hval 2 _ _ rfl rfl) (fun n hn=>by
  have:=List.all_eq_true.1 hsz n (DataW.weights_mem_each (j:=2) rfl rfl n hn);simpa using this) h2
 have hlt:∀ x∈p0++p1++p2,x.block<W.heap.size:=fun x hx=>hW'.lt x (by simpa using hx)
 refine (walk W v0 v1 u1 u2 xs ps x ⟨ng,n1,n2⟩ hx hps hx8 hu1 hu2).mono fun e W' ⟨he,hk⟩=>?_
 subst he;refine ⟨_,rfl,[d0,d1,d2],[],(p0++p1++p2)++[],[],p0++p1++p2,[],hW',?_,?_,?_,Below.frame hk _,fun h=>by cases h⟩
 ·rw [hr];simp only [List.append_nil,hs2];exact trodAll_mk1 (shut_bool Tryz.underlying4 _)
 ·rw [hp];simp only [List.append_nil,hs2];have:=trodAll_mk3 (Below.trod f_ (by kernel_rfl) (of_decide_eq_true (by kernel_rfl)) h0k hk (fun x hx=>hlt x (by simp [hx]))) (Below.trod f_ (by kernel_rfl) (of_decide_eq_true (by kernel_rfl)) h1k hk (fun x hx=>hlt x (by simp [hx]))) (Below.trod f_ (by kernel_rfl) (of_decide_eq_true (by kernel_rfl)) h2k hk (fun x hx=>hlt x (by simp [hx])));simpa using this
 ·rw [hs1];simp only [List.append_nil,hs2];rfl
end
def chW (l:List Nat):List Char:=l.map Char.ofNat
theorem rX (w r:List Char) (h:∀ c∈w,c≠Char.ofNat 32):wordsSigns (w++Char.ofNat 32 :: r)=w :: wordsSigns r:=by
 induction w with
 | nil=>rfl
 | cons c w ih =>
  have hc:c≠Char.ofNat 32:=h c (by simp);have ih':=ih fun d hd=>h d (List.mem_cons_of_mem _ hd)
  show wordsSigns (c :: (w++Char.ofNat 32 :: r))=_;rw [wordsSigns.eq_3 _ _ (by intro e;exact hc e),ih']
theorem apart (l:List Nat) (h:((chW l).all fun c=>c != Char.ofNat 32)=true):∀ c∈chW l,c≠Char.ofNat 32:=by
 intro c hc;simpa using List.all_eq_true.1 h c hc
def wH:List Nat:=[104,97,114,110,101,115,115]
def wS:List Nat:=[57,97,53,50,54,49,57,97,53,52,57,56,57,48,52,98,56,100,102,50,101,57,56,100,101,56,55,100,51,49,48,56,52,98,52,52,98,99,102,55,49,97,98,97,49,48,97,53,99,56,51,101,98,49,97,49,98,49,51,53,97,97,51,48]
def wC:List Nat:=[99,117,116]
def wR:List Nat:=[97,116,32,102,97,117,108,116,108,105,110,101,47,102,97,117,108,116,108,105,110,101,108,97,119,52,48,46,69,115,97,114,121,80,114,111,100,117,99,116,115,32,102,97,117,108,116,108,105,110,101,47,102,97,117,108,116,108,105,110,101,108,97,119,52,48,46,69,115,97,114,121,66,111,117,110,100,115,32,102,97,117,108,116,108,105,110,101,47,102,97,117,108,116,108,105,110,101,108,97,119,52,48,46,69,115,97,114,121,76,105,107,101,108,105,101,115,116,32,102,97,117,108,116,108,105,110,101,47,102,97,117,108,116,108,105,110,101,108,97,119,52,48,46,69,115,97,114,121,82,105,115,101,115,32,102,97,117,108,116,108,105,110,101,47,102,97,117,108,116,108,105,110,101,108,97,119,52,48,46,69,115,97,114,121,65,112,97,114,116,32,102,97,117,108,116,108,105,110,101,47,102,97,117,108,116,108,105,110,101,108,97,119,52,48,46,69,115,97,114,121,69,110,99,108,111,115,101,115,32,102,97,117,108,116,108,105,110,101,47,102,97,117,108,116,108,105,110,101,108,97,119,51,56,46,68,105,115,106,111,105,110,116,84,111,112,115]
theorem AY:Tryz.prog.initOrder=String.ofList (chW wH++Char.ofNat 32 :: (chW wS++Char.ofNat 32 :: (chW wC++Char.ofNat 32 :: chW wR))):=by kernel_rfl
theorem s':wordsSigns Tryz.prog.initOrder.toList=chW wH :: chW wS :: chW wC :: wordsSigns (chW wR):=by
 rw [AY,String.toList_ofList,rX _ _ (apart _ (by kernel_rfl)),rX _ _ (apart _ (by kernel_rfl)),rX _ _ (apart _ (by kernel_rfl))]
theorem jL:behindMainWord (wordsSigns Tryz.prog.initOrder.toList)=chW wC :: wordsSigns (chW wR):=by
 rw [s'];generalize wordsSigns (chW wR)=W;have h:((chW wH == "harness".toList||chW wH == "ownmain".toList)&&isSumSigns (chW wS))=true:=by kernel_rfl
 unfold behindMainWord;exact if_pos h
theorem AW:Tryz.prog.laysLater=false:=by kernel_rfl
theorem uU:Tryz.prog.bearsReflect=false:=by kernel_rfl
theorem CO:Tryz.prog.doorFits []=true:=by kernel_rfl
theorem s_ (W:List (List Char)):stripLifts liftWords (chW wC :: W)=([],chW wC :: W):=by kernel_rfl
theorem zX {P:Program} {c:List Char} {W:List (List Char)} (h:behindMainWord (wordsSigns P.initOrder.toList)=c :: W) (hs:stripLifts liftWords (c :: W)=([],c :: W))
  (hc:c= "cut".toList) (hl:P.laysLater=false) (hr:P.bearsReflect=false) (hd:P.doorFits []=true):P.mayEnter=true:=by
 have hh:((c :: W).head? == some "cut".toList)=true:=by rw [hc];simp
 unfold Program.mayEnter;rw [h];simp only [hs,hl,hr,hd,hh];simp
theorem CD {P:Program} {h s:List Char} {W:List (List Char)} (hw:wordsSigns P.initOrder.toList=h :: s :: W) (hs:isSumSigns s=true) (hh:(h == "harness".toList)=true):P.mainIs=some (true,s):=by
 unfold Program.mainIs;rw [hw];simp only [hs,hh];rfl
theorem Aq {P:Program} {c:List Char} {W:List (List Char)} (h:behindMainWord (wordsSigns P.initOrder.toList)=c :: W) (hs:stripLifts liftWords (c :: W)=([],c :: W)):P.headLifts=[]:=by
 unfold Program.headLifts;rw [h,hs];dsimp only;split <;> rfl
theorem Aa {P:Program} {c:List Char} {W:List (List Char)} (h:behindMainWord (wordsSigns P.initOrder.toList)=c :: W) (hl:P.headLifts=[]) (hc:(c == "carried".toList)=false):P.liftsFinal=false:=by
 unfold Program.liftsFinal;rw [h,hl]
 have:((c :: W).head? == some "carried".toList)=false:=by
  rw [Bool.eq_false_iff] at hc⊢;intro e;apply hc;simpa using e
 simp only [this];rfl
theorem CE {P:Program} {c:List Char} {W:List (List Char)} (h:behindMainWord (wordsSigns P.initOrder.toList)=c :: W) (h0:(c == "gc".toList)=false) (h1:(c == "spec".toList)=false) (h2:(c == "cut".toList)=true):P.make=some .cut:=by
 unfold Program.make;rw [h];simp only [h0,h1,h2];rfl
theorem Eo:chW wC= "cut".toList:=by kernel_rfl
theorem oX:Tryz.prog.mayEnter=true:=zX jL (s_ _) Eo AW uU CO
theorem rF:Tryz.prog.mainIs=some (true,"9a52619a5498904b8df2e98de87d31084b44bcf71aba10a5c83eb1a1b135aa30".toList) :=
 (CD s' (by kernel_rfl) (by kernel_rfl)).trans (congrArg (fun x=>some (true,x)) (show chW wS=_ by kernel_rfl))
theorem AX:Tryz.prog.headLifts=[]:=Aq jL (s_ _)
theorem oY:Tryz.prog.liftsFinal=false:=Aa jL AX (by kernel_rfl)
theorem rG:Tryz.prog.make=some .cut:=CE jL (by kernel_rfl) (by kernel_rfl) (by kernel_rfl)
section
open Go.RowKit Go.ChangeShapes Go.WideShapes Go.ChangeAt
theorem kK:(laidOutB Tryz.prog)=true:=by kernel_rfl
theorem gM:(mapsRowed Tryz.prog)=true:=by kernel_rfl
theorem pe:((Tryz.prog.stops == []))=true:=by kernel_rfl
theorem o_:((Tryz.prog.stopKnobs == []))=true:=by kernel_rfl
theorem oZ:(Tryz.prog.stopsHeard)=true:=by kernel_rfl
theorem pd:true=Tryz.pinned.checked.prog.looks []:=by kernel_rfl
end
theorem FS:True:=trivial
end Go.Proofs.YtofibjflkebkpaaGreatDoor
