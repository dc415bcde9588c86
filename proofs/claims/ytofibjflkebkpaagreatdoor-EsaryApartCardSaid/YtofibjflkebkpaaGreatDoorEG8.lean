import Derived.WalkKit
import Derived.WalkSpells
import Derived.WalkLawsBesides
import Derived.Deep.QuietTactic
import Derived.BigQuiet
import Derived.Lib.Hide
import Derived.Shelf.Abstract
import Derived.Deep.RegionWith
import Derived.Laws.AppendOwnNone
import Derived.Lib.AppendZerosOnto
import Derived.Lib.SliceRun
import Derived.Lib.SlicesCompact
import Derived.Shelf.SlSortCmp.NoneTotal
import Derived.Maps.OwnOps
import Derived.Maps.OwnSet
import Derived.Maps.Views
import Derived.Deep.MidRow
import Derived.Deep.RegionHeld3
import Derived.Deep.AppendLies
import Derived.Deep.RegionLaw
import Derived.IntWalk
import Derived.StillTailTactics
import Derived.RegionTactic
import Derived.BigRegion
import Derived.ChangeAlike
import Derived.Sort.LotD2
import Derived.Sort.LotA
import Derived.Shelf.SlSortCmp.PdqK
import Derived.Deep.DeepCutAuto
import Derived.Lib.ItoaNum
import Derived.Deep.LoopGhost
import Derived.ProofKit
import Derived.OpenShut
import Derived.SizedLaws
import Derived.Lib.SmallJoins
import Derived.Deep.Slices
import Derived.Deep.Fields
import Derived.Deep.Strs
import Derived.Carry
import Derived.Lib.BitFns
import Derived.Deep.CutBlock
import Derived.Test.YtofibjflkebkpaaGreatDoorEG7
import Derived.Test.YtofibjflkebkpaaGreatDoorEG2
import Derived.Test.YtofibjflkebkpaaGreatDoorEG1
import Derived.Test.YtofibjflkebkpaaGreatDoorShelf
import Derived.Laws.IdiomStrings
import Derived.Test.YtofibjflkebkpaaGreatDoorEG5
import Derived.Test.YtofibjflkebkpaaGreatDoorEG6
import Derived.Test.YtofibjflkebkpaaGreatDoorEG4
set_option maxRecDepth 100000
set_option maxHeartbeats 16000000
namespace Go.Proofs.YtofibjflkebkpaaGreatDoor
open Go.RowKit
theorem qu {ps:List Rw} (hs:∀ r∈ps,r.Short 3) {k:Nat} (hk:k<ps.length):(ps.getD k default).Short 3:=by
 have e:ps.getD k default=ps[k]:=by simp [List.getD_eq_getElem?_getD,hk]
 rw [e];exact hs _ (List.getElem_mem hk)
theorem BJ {ps:List Rw} (hs:∀ r∈ps,r.Ok) {k:Nat} (hk:k<ps.length):(ps.getD k default).Ok:=by
 have e:ps.getD k default=ps[k]:=by simp [List.getD_eq_getElem?_getD,hk]
 rw [e];exact hs _ (List.getElem_mem hk)
theorem qw:aj (ah ((1:Int):Rat))=1:=by rw [al];rfl
theorem yI {ps:List Rw} (hs:∀ r∈ps,r.Short 3) (hok:∀ r∈ps,r.Ok) {k:Nat} (hk:k<ps.length):(ah (1 - eP ps k)).Short 6:=by
 have h1:=eh (BJ hok hk) (qu hs hk) (by omega);have h:=fi (bD ((1:Int):Rat)) (bD (- aj (ps.getD k default))) dI h1 (by omega) (by omega);rw [qw,al,<-Rat.sub_eq_add_neg] at h;exact ⟨Nat.le_trans h.1 (by omega),Nat.le_trans h.2 (by omega)⟩
theorem si (y n:Nat) (v:Value) (ps:List Rw) (w:World) (hy:y<16777216) (hn:n<16777216) (hv:RatsAt w v ps) (hp3:∀ r∈ps,r.Short 3) (hp30:ps.length<=30) :
  Calls Tryz.prog 123 #[.agg #[.int .i64 y,.int .i64 n],v] w fun e w'=>(∃ v',e=.returned v'/\RatAt w' v' (ah (i' ps (y,n) ps.length)))/\af w w':=by
 have HOF:Hid (∀ W,Calls Tryz.prog 96 #[.int .i64 1] W fun e w'=>(∃ v',e=.returned v'/\RatAt w' v' (ah ((1:Int):Rat)))/\af W w'):=ae fun W=>nF 1 W (by omega) (by omega)
 have HHY:=ae (fun (i:Nat) W=>kW y i hy W);have HHN:=ae (fun (i:Nat) W=>kW n i hn W);have HSH:=ae (fun k hk=>po (c:=(y,n)) hp3 hv.ok k hk);have HP3:=ae hp3;have HOK:=ae hv.ok;have HV:=ae hv;obtain ⟨a,c,rfl⟩:=hv.shape;obtain ⟨m,hm⟩:∃ m,m=ps.length:=⟨_,rfl⟩;rw [<-hm] at HV hp30⊢;have HN:=ae hm;obtain ⟨R,hR⟩:∃ R,R=ah (i' ps (y,n) m):=⟨_,rfl⟩;rw [<-hR];have HRR:=ae hR;obtain ⟨w2,hw2⟩:∃ w2,w2=(w.alloc (.cells #[.int .i64 y,.int .i64 n] 114)).alloc (.cells #[.bool false,.slice none 0 0,.slice none 0 0] 29):=⟨_,rfl⟩;have hbx:=(ai.made w #[.int .i64 (y:Int),.int .i64 (n:Int)] 114).kept ((af.refl _).alloc (.cells #[.bool false,.slice none 0 0,.slice none 0 0] 29));have HMD:=ae (lv w (.cells #[.int .i64 y,.int .i64 n] 114));rw [<-hw2] at hbx HMD;have HW2:=ae hw2;have b0:=hbx.cell (i:=0) (by simp);have b1:=hbx.cell (i:=1) (by simp);simp only [List.getElem_cons_succ,List.getElem_cons_zero] at b0 b1;have HBB:=ae (And.intro b0 b1);clear hm hv hp3 hy hn hw2 hbx hR b0 b1;go_enter Tryz.func123,Tryz.ntmps123;go_wp2_with fail;rw [<-HW2.out];refine (HOF.out _).mono ?_;rintro e w3 ⟨⟨v3,rfl,hv3⟩,hk3⟩;have HR3:=ae (HMD.out.1.kept hk3);have HF3:=ae (HMD.out.2.1.kept hk3);have HK3:=ae (HMD.out.2.2.trans hk3);have HC3:=ae (And.intro (hk3.cell HBB.out.1) (hk3.cell HBB.out.2))
 obtain ⟨u1,u2,rfl,h1,h2⟩:=hv3;obtain ⟨a1,c1,rfl⟩:=h1.shape;obtain ⟨a2,c2,rfl⟩:=h2.shape;have HC:Hid (RatCell (w3.alloc (.cells #[.bool (ah ((1:Int):Rat)).neg,.slice a1 (ah ((1:Int):Rat)).num.length c1,.slice a2 (ah ((1:Int):Rat)).den.length c2] 29)) w3.heap.size (ah (i' ps (y,n) 0))):=ae (RatCell.made h1 h2);obtain ⟨w4,hw4⟩:∃ w4,w4=w3.alloc (.cells #[.bool (ah ((1:Int):Rat)).neg,.slice a1 (ah ((1:Int):Rat)).num.length c1,.slice a2 (ah ((1:Int):Rat)).den.length c2] 29):=⟨_,rfl⟩;have HW4:=ae hw4;rw [<-hw4] at HC;have HK4:Hid (af w3 w4):=ae (by rw [hw4];exact (af.refl _).alloc _);generalize hg1:(ah ((1:Int):Rat)).neg=o1 at HW4⊢;generalize hg2:(ah ((1:Int):Rat)).num.length=o2 at HW4⊢;generalize hg3:(ah ((1:Int):Rat)).den.length=o3 at HW4⊢;clear h1 h2 hk3 hw4 hg1 hg2 hg3;go_wp2_with fail;rw [<-HW4.out];go_loopg [11] m (fun kx s11 wr=>∃ k:Nat,k<=m/\s11=.int .i64 k/\m - k<=kx/\Hid (RatCell wr w3.heap.size (ah (i' ps (y,n) k)))/\Hid (af w3 wr))
 case atStart=>exact ⟨0,Nat.zero_le _,rfl,by omega,HC,HK4⟩
 case round =>
  obtain ⟨k,hk,rfl,hkx,HX,HKr⟩:=hrel;by_cases hlt:k<m
  ·have hkn:(k:Int)<(m:Int):=by omega
   have hkl:k<ps.length:=by have:=HN.out;omega
   have HQS:=ae (qu HP3.out hkl);have HNS:=ae (yI HP3.out HOK.out hkl);have HXS:=ae (HSH.out k (by omega));obtain ⟨b,o,u1,u2,rfl,hrg,hw1,hw2⟩:=HV.out.get k hkl;obtain ⟨a3,c3,rfl⟩:=hw1.shape;obtain ⟨a4,c4,rfl⟩:=hw2.shape;have HKw:=ae (HK3.out.trans HKr.out);have hrg2:=cJ hrg HKw.out;have y0:=hrg2 0 _ rfl;have y1:=hrg2 1 _ rfl;have y2:=hrg2 2 _ rfl;rw [Nat.add_zero] at y0;obtain ⟨qn,hqn⟩:∃ qn,qn=(ps.getD k default).neg:=⟨_,rfl⟩;obtain ⟨ql1,hql1⟩:∃ ql1,ql1=(ps.getD k default).num.length:=⟨_,rfl⟩;obtain ⟨ql2,hql2⟩:∃ ql2,ql2=(ps.getD k default).den.length:=⟨_,rfl⟩;have HQV:Hid (∀ W,af w3 W->RatAt W (.agg #[.bool qn,.slice a3 ql1 c3,.slice a4 ql2 c4]) (ps.getD k default)):=ae fun W h=>⟨_,_,by rw [hqn,hql1,hql2],hw1.kept (HK3.out.trans h),hw2.kept (HK3.out.trans h)⟩
   rw [<-hqn] at y0;rw [<-hql1] at y1;rw [<-hql2] at y2
   have HSB:Hid (∀ W u1 u2,RatAt W u1 (ah ((1:Int):Rat))->RatAt W u2 (ps.getD k default)->Calls Tryz.prog 70 #[u1,u2] W fun e w'=>(∃ v',e=.returned v'/\RatAt w' v' (ah (1 - eP ps k)))/\af W w'):=ae fun W u1 u2 h1 h2=>by
    have h:=o_ u1 u2 _ _ W h1 h2 ⟨Nat.le_trans dI.1 (by omega),Nat.le_trans dI.2 (by omega)⟩ ⟨Nat.le_trans HQS.out.1 (by omega),Nat.le_trans HQS.out.2 (by omega)⟩;rw [qw] at h;exact h
   have k0:=HKr.out.cell HC3.out.1;obtain ⟨wo,rfl⟩:∃ wo:World,wo=wr:=⟨_,rfl⟩;obtain ⟨w5,hw5⟩:∃ w5,w5=wo.alloc (.cells #[.bool qn,.slice a3 ql1 c3,.slice a4 ql2 c4] 29):=⟨_,rfl⟩;have HK5:Hid (af wo w5):=ae (by rw [hw5];exact (af.refl _).alloc _);have HX5:=ae (HX.out.kept HK5.out);have HQ5:Hid (ai w5 wo.heap.size 29 [.bool qn,.slice a3 ql1 c3,.slice a4 ql2 c4]):=ae (by rw [hw5];exact ai.made wo #[.bool qn,.slice a3 ql1 c3,.slice a4 ql2 c4] 29);have HK35:=ae (HKr.out.trans HK5.out);have HNE:Hid (wo.heap.size≠w3.heap.size):=ae (by have:=HX.out;obtain ⟨_,_,_,_,h,_⟩:=this;have:=h.lt;omega);have k01:=HKr.out.cell HC3.out.2;have k05:=HK5.out.cell k0;have k15:=HK5.out.cell k01;have hc3:=World.block_lt_of_cell? _ _ HC3.out.1;have hcl5:=World.block_lt_of_cell? _ _ k05;have HW5:=ae hw5;clear hrg hrg2 hw1 hw2 hqn hql1 hql2 hw5;have hcl0:=World.block_lt_of_cell? _ _ k0;cases hb1:y.testBit k with
   | false =>
    have HCH1:Hid (∀ W,Calls Tryz.prog 98 #[.int .i64 y,.int .i64 k] W fun e w'=>e=.returned (.bool false)/\w'=W):=ae fun W=>by have h:=HHY.out k W;rw [hb1] at h;exact h
    obtain ⟨Yk,hYk⟩:∃ Yk,Yk=i' ps (y,n) k:=⟨_,rfl⟩
    have HS2:Hid (i' ps (y,n) (k+1)=Yk*if n.testBit k=true then 1 - eP ps k else 1):=ae (by
     rw [hYk];show (wQ (eP ps) (y,n) k*(if y.testBit k=true then eP ps k else 1))*_=_;rw [if_neg (by rw [hb1];simp),Rat.mul_one];rfl)
    have HYS:Hid ((ah Yk).Short (12*k+7)):=ae (by rw [hYk];exact ⟨Nat.le_trans HXS.out.1 (by omega),Nat.le_trans HXS.out.2 (by omega)⟩);rw [<-hYk] at HX5;have HXW:=HX5;have HKX:=HK35;have HQW:=HQ5;clear hb1 hYk;go_wp2_with (go_at_call 98;(with_reducible refine (HCH1.out _).mono ?_);rintro e w6 ⟨rfl,h6⟩;rw [h6,<-HW5.out];clear h6);obtain ⟨a5,c5,a6,c6,⟨x0,x1,x2⟩,⟨f0,f1,f2⟩,hgl,hxa⟩:=HXW.out.at;have HXA:=ae hxa;have q0:=HQW.out.cell (i:=0) (by simp);have q1:=HQW.out.cell (i:=1) (by simp);have q2:=HQW.out.cell (i:=2) (by simp);simp only [List.getElem_cons_succ,List.getElem_cons_zero] at q0 q1 q2;have hql:=HQW.out.lt;have k1:=HKX.out.cell HC3.out.2;have hcl:=World.block_lt_of_cell? _ _ k1;generalize (ah Yk).neg=z3 at *;generalize (ah Yk).num.length=z4 at *;generalize (ah Yk).den.length=z5 at *;clear hxa;cases hb2:n.testBit k with
    | false =>
     have HCH2:Hid (∀ W,Calls Tryz.prog 98 #[.int .i64 n,.int .i64 k] W fun e w'=>e=.returned (.bool false)/\w'=W):=ae fun W=>by have h:=HHN.out k W;rw [hb2] at h;exact h
     have HE:Hid (ah (i' ps (y,n) (k+1))=ah Yk):=ae (by rw [HS2.out,if_neg (by rw [hb2];simp),Rat.mul_one]);clear hb2;refine (HCH2.out _).mono ?_;rintro e w8 ⟨rfl,h8⟩;rw [h8];clear h8;go_wp2_with fail;go_roundg (m - (k+1))
     case measure=>omega
     case rel=>exact ⟨k+1,by omega,by go_num,Nat.le_refl _,ae (by rw [HE.out];exact HXW.out),HKX⟩
    | true =>
     have HCH2:Hid (∀ W,Calls Tryz.prog 98 #[.int .i64 n,.int .i64 k] W fun e w'=>e=.returned (.bool true)/\w'=W):=ae fun W=>by have h:=HHN.out k W;rw [hb2] at h;exact h
     have HE:Hid (ah (i' ps (y,n) (k+1))=ah (aj (ah Yk)*aj (ah (1 - eP ps k)))):=ae (by rw [HS2.out,if_pos hb2,al,al])
     have HM2:Hid (∀ W u1 u2,RatAt W u1 (ah Yk)->RatAt W u2 (ah (1 - eP ps k))->Calls Tryz.prog 97 #[u1,u2] W fun e w'=>(∃ v',e=.returned v'/\RatAt w' v' (ah (i' ps (y,n) (k+1))))/\af W w'):=ae fun W u1 u2 h1 h2=>by
      rw [HE.out];exact iX u1 u2 _ _ W h1 h2 ⟨Nat.le_trans HYS.out.1 (by omega),Nat.le_trans HYS.out.2 (by omega)⟩ ⟨Nat.le_trans HNS.out.1 (by omega),Nat.le_trans HNS.out.2 (by omega)⟩
     clear hb2;have HQR:Hid (∀ W,af w5 W->RatAt W (.agg #[.bool qn,.slice a3 ql1 c3,.slice a4 ql2 c4]) (ps.getD k default)):=ae fun W h=>HQV.out W (HKX.out.trans h)
     refine (HCH2.out _).mono ?_;rintro e w8 ⟨rfl,h8⟩;rw [h8];clear h8;go_wp2_with fail
     go_region_with (first
      | (go_at_call 96;(with_reducible refine (HOF.out _).mono ?_);rintro e w8 ⟨⟨v8,rfl,hv8⟩,hk8⟩;have hkd:=(af.refl w5).drew.trans hk8;have i0:=hkd.cell x0;have i1:=hkd.cell x1;have i2:=hkd.cell x2;have j0:=hkd.cell q0;have j1:=hkd.cell q1;have j2:=hkd.cell q2;have HX8:=ae (HXW.out.kept hkd);have HXA8:=ae (HXA.out.kept hkd);have HQ8:=ae (HQR.out _ hkd);have HK8:=ae (HKX.out.trans hkd);have HV8:=ae hv8;clear hk8 hkd hv8)
      | (go_at_call 70;(with_reducible refine (HSB.out _ _ _ HV8.out HQ8.out).mono ?_);rintro e w9 ⟨⟨v9,rfl,hv9⟩,hk9⟩;have l0:=hk9.cell i0;have l1:=hk9.cell i1;have l2:=hk9.cell i2;have HX9:=ae (HX8.out.kept hk9);have HXA9:=ae (HXA8.out.kept hk9);have HK9:=ae (HK8.out.trans hk9);have HV9:=ae hv9;clear hk9 hv9)
      | (go_at_call 97;(with_reducible refine (HM2.out _ _ _ HXA9.out HV9.out).mono ?_);rintro e w7 ⟨⟨v7,rfl,hv7⟩,hk7⟩;have HX7:=ae (HX9.out.kept hk7);have HK7:=ae (HK9.out.trans hk7);obtain ⟨u7,u8,rfl,k7,k8⟩:=hv7;obtain ⟨a7,c7,rfl⟩:=k7.shape;obtain ⟨a8,c8,rfl⟩:=k8.shape;have K7:=ae k7;have K8:=ae k8;obtain ⟨_,_,_,_,⟨t0,t1,t2⟩,⟨j0,j1,j2⟩,hgl6,_⟩:=HX7.out.at;clear k7 k8 hk7))
     all_goals
      have HS:=ae (HX7.out.store K7.out K8.out);generalize (ah (i' ps (y,n) (k+1))).num.length=n7 at *;generalize (ah (i' ps (y,n) (k+1))).den.length=n8 at *;go_wp2_with fail;go_roundg (m - (k+1))
      case measure=>omega
      case rel=>exact ⟨k+1,by omega,by go_num,Nat.le_refl _,HS,ae (((HK7.out.store (Nat.le_refl _) _ _).store (Nat.le_refl _) _ _).store (Nat.le_refl _) _ _)⟩
   | true =>
    have HCH1:Hid (∀ W,Calls Tryz.prog 98 #[.int .i64 y,.int .i64 k] W fun e w'=>e=.returned (.bool true)/\w'=W):=ae fun W=>by have h:=HHY.out k W;rw [hb1] at h;exact h
    obtain ⟨Yk,hYk⟩:∃ Yk,Yk=i' ps (y,n) k*eP ps k:=⟨_,rfl⟩
    have HS2:Hid (i' ps (y,n) (k+1)=Yk*if n.testBit k=true then 1 - eP ps k else 1):=ae (by
     rw [hYk];show (wQ (eP ps) (y,n) k*(if y.testBit k=true then eP ps k else 1))*_=_;rw [if_pos hb1];rfl)
    have HYS:Hid ((ah Yk).Short (12*k+7)):=ae (by
     have h:=gE (bD (i' ps (y,n) k)) (BJ HOK.out hkl) HXS.out HQS.out (by omega) (by omega);rw [al] at h;rw [hYk];exact ⟨Nat.le_trans h.1 (by omega),Nat.le_trans h.2 (by omega)⟩)
    have HM1:Hid (∀ W u1 u2,RatAt W u1 (ah (i' ps (y,n) k))->RatAt W u2 (ps.getD k default)->Calls Tryz.prog 97 #[u1,u2] W fun e w'=>(∃ v',e=.returned v'/\RatAt w' v' (ah Yk))/\af W w'):=ae fun W u1 u2 h1 h2=>by
     have h:=iX u1 u2 _ _ W h1 h2 ⟨Nat.le_trans HXS.out.1 (by omega),Nat.le_trans HXS.out.2 (by omega)⟩ ⟨Nat.le_trans HQS.out.1 (by omega),Nat.le_trans HQS.out.2 (by omega)⟩;rw [al] at h;rw [hYk];exact h
    obtain ⟨a5,c5,a6,c6,⟨x0,x1,x2⟩,⟨f0,f1,f2⟩,hgl,hxa⟩:=HX5.out.at;have HXA:=ae hxa;have q0:=HQ5.out.cell (i:=0) (by simp);have q1:=HQ5.out.cell (i:=1) (by simp);have q2:=HQ5.out.cell (i:=2) (by simp);simp only [List.getElem_cons_succ,List.getElem_cons_zero] at q0 q1 q2;have HQR:=ae (HQV.out w5 HK35.out);generalize (ah (i' ps (y,n) k)).neg=z0 at *;generalize (ah (i' ps (y,n) k)).num.length=z1 at *;generalize (ah (i' ps (y,n) k)).den.length=z2 at *;clear hb1 hYk hxa;go_wp2_with (go_at_call 98;(with_reducible refine (HCH1.out _).mono ?_);rintro e w6 ⟨rfl,h6⟩;rw [h6,<-HW5.out];clear h6);refine (HM1.out _ _ _ HXA.out HQR.out).mono ?_;rintro e w6 ⟨⟨v6,rfl,hv6⟩,hk6⟩;have HX6:=ae (HX5.out.kept hk6);have HK6:=ae (HK35.out.trans hk6);have HQ6:=ae (HQ5.out.kept hk6);have k06:=hk6.cell k05;have k16:=hk6.cell k15;have hn3:¬ w.heap.size=w3.heap.size:=by omega
    obtain ⟨u7,u8,rfl,k7,k8⟩:=hv6;obtain ⟨a7,c7,rfl⟩:=k7.shape;obtain ⟨a8,c8,rfl⟩:=k8.shape;obtain ⟨_,_,_,_,⟨i0,i1,i2⟩,⟨j0,j1,j2⟩,hgl6,_⟩:=HX6.out.at;have HS:=ae (HX6.out.store k7 k8);have HKS:=ae (((HK6.out.store (Nat.le_refl _) 0 (.bool (ah Yk).neg)).store (Nat.le_refl _) 1 (.slice a7 (ah Yk).num.length c7)).store (Nat.le_refl _) 2 (.slice a8 (ah Yk).den.length c8));have HQS6:=ae ((az.row ((((az.refl w3.heap.size w6).store 0 (.bool (ah Yk).neg)).store 1 (.slice a7 (ah Yk).num.length c7)).store 2 (.slice a8 (ah Yk).den.length c8)) HQ6.out HNE.out));obtain ⟨w7,hw7⟩:∃ w7,w7=((w6.setCell ⟨w3.heap.size,0,none⟩ (.bool (ah Yk).neg)).setCell ⟨w3.heap.size,1,none⟩ (.slice a7 (ah Yk).num.length c7)).setCell ⟨w3.heap.size,2,none⟩ (.slice a8 (ah Yk).den.length c8):=⟨_,rfl⟩;rw [<-hw7] at HS HKS HQS6;have HW7:=ae hw7;have HXW:=HS;have HKX:=HKS;have HQW:=HQS6;generalize (ah Yk).neg=z6 at HW7⊢;generalize (ah Yk).num.length=z7 at HW7⊢;generalize (ah Yk).den.length=z8 at HW7⊢;clear k7 k8 hk6 hw7 x0 x1 x2 f0 f1 f2 hgl q0 q1 q2;go_wp2_with fail;rw [<-HW7.out];obtain ⟨a5,c5,a6,c6,⟨x0,x1,x2⟩,⟨f0,f1,f2⟩,hgl,hxa⟩:=HXW.out.at;have HXA:=ae hxa;have q0:=HQW.out.cell (i:=0) (by simp);have q1:=HQW.out.cell (i:=1) (by simp);have q2:=HQW.out.cell (i:=2) (by simp);simp only [List.getElem_cons_succ,List.getElem_cons_zero] at q0 q1 q2
    have hql:=HQW.out.lt;have k1:=HKX.out.cell HC3.out.2;have hcl:=World.block_lt_of_cell? _ _ k1;generalize (ah Yk).neg=z3 at *;generalize (ah Yk).num.length=z4 at *;generalize (ah Yk).den.length=z5 at *;clear hxa;cases hb2:n.testBit k with
    | false =>
     have HCH2:Hid (∀ W,Calls Tryz.prog 98 #[.int .i64 n,.int .i64 k] W fun e w'=>e=.returned (.bool false)/\w'=W):=ae fun W=>by have h:=HHN.out k W;rw [hb2] at h;exact h
     have HE:Hid (ah (i' ps (y,n) (k+1))=ah Yk):=ae (by rw [HS2.out,if_neg (by rw [hb2];simp),Rat.mul_one]);clear hb2;refine (HCH2.out _).mono ?_;rintro e w8 ⟨rfl,h8⟩;rw [h8];clear h8;go_wp2_with fail;go_roundg (m - (k+1))
     case measure=>omega
     case rel=>exact ⟨k+1,by omega,by go_num,Nat.le_refl _,ae (by rw [HE.out];exact HXW.out),HKX⟩
    | true =>
     have HCH2:Hid (∀ W,Calls Tryz.prog 98 #[.int .i64 n,.int .i64 k] W fun e w'=>e=.returned (.bool true)/\w'=W):=ae fun W=>by have h:=HHN.out k W;rw [hb2] at h;exact h
     have HE:Hid (ah (i' ps (y,n) (k+1))=ah (aj (ah Yk)*aj (ah (1 - eP ps k)))):=ae (by rw [HS2.out,if_pos hb2,al,al])
     have HM2:Hid (∀ W u1 u2,RatAt W u1 (ah Yk)->RatAt W u2 (ah (1 - eP ps k))->Calls Tryz.prog 97 #[u1,u2] W fun e w'=>(∃ v',e=.returned v'/\RatAt w' v' (ah (i' ps (y,n) (k+1))))/\af W w'):=ae fun W u1 u2 h1 h2=>by
      rw [HE.out];exact iX u1 u2 _ _ W h1 h2 ⟨Nat.le_trans HYS.out.1 (by omega),Nat.le_trans HYS.out.2 (by omega)⟩ ⟨Nat.le_trans HNS.out.1 (by omega),Nat.le_trans HNS.out.2 (by omega)⟩
     clear hb2;have HQR:Hid (∀ W,af w7 W->RatAt W (.agg #[.bool qn,.slice a3 ql1 c3,.slice a4 ql2 c4]) (ps.getD k default)):=ae fun W h=>HQV.out W (HKX.out.trans h)
     refine (HCH2.out _).mono ?_;rintro e w8 ⟨rfl,h8⟩;rw [h8];clear h8;go_wp2_with fail
     go_region_with (first
      | (go_at_call 96;(with_reducible refine (HOF.out _).mono ?_);rintro e w8 ⟨⟨v8,rfl,hv8⟩,hk8⟩;have hkd:=(af.refl w7).drew.trans hk8;have i0:=hkd.cell x0;have i1:=hkd.cell x1;have i2:=hkd.cell x2;have j0:=hkd.cell q0;have j1:=hkd.cell q1;have j2:=hkd.cell q2;have HX8:=ae (HXW.out.kept hkd);have HXA8:=ae (HXA.out.kept hkd);have HQ8:=ae (HQR.out _ hkd);have HK8:=ae (HKX.out.trans hkd);have HV8:=ae hv8;clear hk8 hkd hv8)
      | (go_at_call 70;(with_reducible refine (HSB.out _ _ _ HV8.out HQ8.out).mono ?_);rintro e w9 ⟨⟨v9,rfl,hv9⟩,hk9⟩;have l0:=hk9.cell i0;have l1:=hk9.cell i1;have l2:=hk9.cell i2;have HX9:=ae (HX8.out.kept hk9);have HXA9:=ae (HXA8.out.kept hk9);have HK9:=ae (HK8.out.trans hk9);have HV9:=ae hv9;clear hk9 hv9)
      | (go_at_call 97;(with_reducible refine (HM2.out _ _ _ HXA9.out HV9.out).mono ?_);rintro e w7 ⟨⟨v7,rfl,hv7⟩,hk7⟩;have HX7:=ae (HX9.out.kept hk7);have HK7:=ae (HK9.out.trans hk7);obtain ⟨u7,u8,rfl,k7,k8⟩:=hv7;obtain ⟨a7,c7,rfl⟩:=k7.shape;obtain ⟨a8,c8,rfl⟩:=k8.shape;have K7:=ae k7;have K8:=ae k8;obtain ⟨_,_,_,_,⟨t0,t1,t2⟩,⟨j0,j1,j2⟩,hgl6,_⟩:=HX7.out.at;clear k7 k8 hk7))
     all_goals
      have HS:=ae (HX7.out.store K7.out K8.out);generalize (ah (i' ps (y,n) (k+1))).num.length=n7 at *;generalize (ah (i' ps (y,n) (k+1))).den.length=n8 at *;go_wp2_with fail;go_roundg (m - (k+1))
      case measure=>omega
      case rel=>exact ⟨k+1,by omega,by go_num,Nat.le_refl _,HS,ae (((HK7.out.store (Nat.le_refl _) _ _).store (Nat.le_refl _) _ _).store (Nat.le_refl _) _ _)⟩
  ·have hke:k=m:=by omega
   have hkn:¬ (k:Int)<(m:Int):=by omega
   have HX2:Hid (RatCell wr w3.heap.size R):=ae (by rw [HRR.out,<-hke];exact HX.out);have hrr:=HR3.out.kept HKr.out;have HFF:=ae (HF3.out.kept HKr.out);obtain ⟨a5,c5,a6,c6,⟨x0,x1,x2⟩,_,hgl,u7,u8,e9,k7,k8⟩:=HX2.out.at;simp only [Value.agg.injEq] at e9;have e9':=congrArg Array.toList e9;simp at e9';obtain ⟨rfl,rfl⟩:=e9';obtain ⟨y0,y1,y2,hra⟩:=aL hrr HFF.out k7 k8;have g0:=hrr.cell (i:=0) (by simp);have g1:=hrr.cell (i:=1) (by simp);have g2:=hrr.cell (i:=2) (by simp);have f0:=hrr.free 0;have f1:=hrr.free 1;have f2:=hrr.free 2;have hlt5:=hrr.lt;have HRA:=ae hra;have Y0:=ae y0;have Y1:=ae y1;have Y2:=ae y2;have HKw:=ae (HK3.out.trans HKr.out);clear hra y0 y1 y2 k7 k8 hrr e9 hke;generalize R.num.length=n7 at *;generalize R.den.length=n8 at *;go_wp2;refine bodyPost_ret (v:=.agg #[.bool R.neg,.slice a5 n7 c5,.slice a6 n8 c6]) ?_ rfl ⟨⟨_,rfl,HRA.out⟩,?_⟩
   ·simp [results,Tryz.results123,go_sem,Y0.out,Y1.out,Y2.out]
   ·exact ((HKw.out.store (by omega) _ _).store (by omega) _ _).store (by omega) _ _
theorem uH (cv v:Value) (L:List (Nat × Nat)) (ps:List Rw) (w:World) (hc:cK w cv (dA L)) (hb:∀ c∈L,c.1<16777216/\c.2<16777216) (hL:L.length<=1024) (hv:RatsAt w v ps) (hp3:∀ r∈ps,r.Short 3) (hp30:ps.length<=30) :
  Calls Tryz.prog 76 #[cv,v] w fun e w'=>(∃ v',e=.returned v'/\RatAt w' v' (ah (sumWs ps L L.length)))/\af w w':=by
 have HPR:Hid (∀ (y n:Nat) W,y<16777216->n<16777216->af w W->Calls Tryz.prog 123 #[.agg #[.int .i64 y,.int .i64 n],v] W fun e w'=>(∃ v',e=.returned v'/\RatAt w' v' (ah (i' ps (y,n) ps.length)))/\af W w'):=ae fun y n W h1 h2 hk=>si y n v ps W h1 h2 (hv.kept hk) hp3 hp30
 have HSS:=ae (fun k hk=>i_ (l:=L) hp3 hv.ok hp30 k hk);have HPS:=ae (fun c=>po (c:=c) hp3 hv.ok ps.length (Nat.le_refl _));have HV:=ae hc;have HB:=ae hb;obtain ⟨ca,cc,rfl⟩:=hc.shape;obtain ⟨a,c,rfl⟩:=hv.shape;rw [bM] at HV⊢;obtain ⟨m,hm⟩:∃ m,m=L.length:=⟨_,rfl⟩;rw [<-hm] at HV hL HSS⊢;have HM:=ae hm;obtain ⟨pn,hpn⟩:∃ pn,pn=ps.length:=⟨_,rfl⟩;rw [<-hpn] at HPR HPS hp30⊢;have HPN:=ae hpn;obtain ⟨R,hR⟩:∃ R,R=ah (sumWs ps L m):=⟨_,rfl⟩;rw [<-hR];have HRR:=ae hR;obtain ⟨w1,hw1⟩:∃ w1,w1=w.alloc (.cells #[.bool false,.slice none 0 0,.slice none 0 0] 29):=⟨_,rfl⟩;have HR1:Hid (ai w1 w.heap.size 29 [.bool false,.slice none 0 0,.slice none 0 0]):=ae (by rw [hw1];exact ai.made w #[.bool false,.slice none 0 0,.slice none 0 0] 29);have HF1:Hid (bo w1 w.heap.size [.bool false,.slice none 0 0,.slice none 0 0]):=ae (by rw [hw1];exact bo.made w #[.bool false,.slice none 0 0,.slice none 0 0] 29);have HK1:Hid (af w w1):=ae (by rw [hw1];exact (af.refl _).alloc _);have HS1:Hid (w1.heap.size=w.heap.size+1):=ae (by rw [hw1];simp);obtain ⟨w2,hw2⟩:∃ w2,w2=w1.alloc (.cells #[.bool false,.slice none 0 0,.slice none 0 0] 29):=⟨_,rfl⟩;have HC:Hid (RatCell w2 w1.heap.size (ah (sumWs ps L 0))):=ae (by rw [hw2];exact RatCell.made (r:=⟨false,[],[]⟩) (WdsAt.nil w1) (WdsAt.nil w1))
 have HK2:Hid (af w1 w2):=ae (by rw [hw2];exact (af.refl _).alloc _);have HW1:=ae hw1;have HW2:=ae hw2;clear hm hc hv hp3 hb hpn hR hw1 hw2;go_enter Tryz.func76,Tryz.ntmps76;go_wp2_with fail;rw [<-HW1.out,<-HS1.out,<-HW2.out];go_loopg [10] m (fun kx s10 wq=>∃ j:Nat,j<=m/\s10=.int .i64 j/\m - j<=kx/\Hid (RatCell wq w1.heap.size (ah (sumWs ps L j)))/\Hid (af w1 wq))
 case atStart=>exact ⟨0,Nat.zero_le _,rfl,by omega,HC,HK2⟩
 case round =>
  obtain ⟨j,hj,rfl,hjx,HX,HKq⟩:=hrel;have HKw2:=ae (HK1.out.trans HKq.out);by_cases hjm:j<m
  ·have hjl:j<L.length:=by have:=HM.out;omega
   obtain ⟨b,o,rfl,g1,g2⟩:=HV.out.get j (by rw [bM];exact hjl);have eC:(dA L).getD j default=Fj L[j]:=yJ hjl;rw [eC] at g1 g2;obtain ⟨y,hy⟩:∃ y,y=L[j].1:=⟨_,rfl⟩;obtain ⟨n,hn⟩:∃ n,n=L[j].2:=⟨_,rfl⟩;have eL:L[j]=(y,n):=by rw [hy,hn]
   have hbd:=HB.out L[j] (List.getElem_mem hjl);rw [eL] at g1 g2 hbd;have x1:=HKw2.out.cell g1;have x2:=HKw2.out.cell g2;rw [<-Nat.add_assoc] at x2;simp only [Fj] at x1 x2;have HP:=ae (fun W (h:af w W)=>HPR.out y n W hbd.1 hbd.2 h);have HST:Hid (ah (sumWs ps L (j+1))=ah (aj (ah (sumWs ps L j))+aj (ah (i' ps (y,n) pn)))):=ae (by rw [pj hjl,al,al,HPN.out,eL]);have hsk:=HSS.out j (by omega);have hps:=HPS.out (y,n);have hji:(j:Int)<(m:Int):=by omega
   have HAD:Hid (∀ W u1 u2,RatAt W u1 (ah (sumWs ps L j))->RatAt W u2 (ah (i' ps (y,n) pn))->Calls Tryz.prog 117 #[u1,u2] W fun e w'=>(∃ v',e=.returned v'/\RatAt w' v' (ah (sumWs ps L (j+1))))/\af W w'):=ae fun W u1 u2 k1 k2=>by
    rw [HST.out];exact tD u1 u2 _ _ W k1 k2 ⟨Nat.le_trans hsk.1 (by omega),Nat.le_trans hsk.2 (by omega)⟩ ⟨Nat.le_trans hps.1 (by omega),Nat.le_trans hps.2 (by omega)⟩
   obtain ⟨wo,rfl⟩:∃ wo:World,wo=wr:=⟨_,rfl⟩;obtain ⟨w5,hw5⟩:∃ w5,w5=wo.alloc (.cells #[.int .i64 (y:Int),.int .i64 (n:Int)] 114):=⟨_,rfl⟩;have HK5:Hid (af wo w5):=ae (by rw [hw5];exact (af.refl _).alloc _);have hq5:=ai.made wo #[.int .i64 (y:Int),.int .i64 (n:Int)] 114;rw [<-hw5] at hq5;have q0:=hq5.cell (i:=0) (by simp);have q1:=hq5.cell (i:=1) (by simp);simp only [List.getElem_cons_succ,List.getElem_cons_zero] at q0 q1;have hql:=hq5.lt;have HX5:=ae (HX.out.kept HK5.out);have HKq5:=ae (HKq.out.trans HK5.out);have HKw5:=ae (HKw2.out.trans HK5.out);obtain ⟨a5,c5,a6,c6,⟨x0,x3,x4⟩,⟨f0,f1,f2⟩,hgl,hxa⟩:=HX5.out.at;have HXA:=ae hxa;have HW5:=ae hw5;generalize (ah (sumWs ps L j)).neg=z3 at *;generalize (ah (sumWs ps L j)).num.length=z4 at *;generalize (ah (sumWs ps L j)).den.length=z5 at *;clear g1 g2 eC hsk hps hxa hy hn hw5 hq5;go_wp2_with fail;rw [<-HW5.out]
   go_region_with (first
    | (go_at_call 123;(with_reducible refine (HP.out _ (HKw5.out.drew)).mono ?_);rintro e w6 ⟨⟨v6,rfl,hv6⟩,hk6⟩;have hkd:=(af.refl _).drew.trans hk6;have i0:=hkd.cell x0;have i1:=hkd.cell x3;have i2:=hkd.cell x4;have HX6:=ae (HX5.out.kept hkd);have HXA6:=ae (HXA.out.kept hkd);have HK6:=ae (HKq5.out.trans hkd);have HV6:=ae hv6;clear hk6 hkd hv6)
    | (go_at_call 117;(with_reducible refine (HAD.out _ _ _ HXA6.out HV6.out).mono ?_);rintro e w7 ⟨⟨v7,rfl,hv7⟩,hk7⟩;have HX7:=ae (HX6.out.kept hk7);have HK7:=ae (HK6.out.trans hk7);obtain ⟨u7,u8,rfl,k7,k8⟩:=hv7;obtain ⟨a7,c7,rfl⟩:=k7.shape;obtain ⟨a8,c8,rfl⟩:=k8.shape;have K7:=ae k7;have K8:=ae k8;obtain ⟨_,_,_,_,⟨t0,t1,t2⟩,⟨j0,j1,j2⟩,hgl6,_⟩:=HX7.out.at;clear k7 k8 hk7))
   all_goals
    have HS:=ae (HX7.out.store K7.out K8.out);generalize (ah (sumWs ps L (j+1))).num.length=n7 at *;generalize (ah (sumWs ps L (j+1))).den.length=n8 at *;go_wp2_with fail;go_roundg (m - (j+1))
    case measure=>omega
    case rel=>exact ⟨j+1,by omega,by go_num,Nat.le_refl _,HS,ae (((HK7.out.store (Nat.le_refl _) _ _).store (Nat.le_refl _) _ _).store (Nat.le_refl _) _ _)⟩
  ·have hje:j=m:=by omega
   have hji:¬ (j:Int)<(m:Int):=by omega
   have HX2:Hid (RatCell wr w1.heap.size R):=ae (by rw [HRR.out,<-hje];exact HX.out);have hrr:=HR1.out.kept HKq.out;have HFF:=ae (HF1.out.kept HKq.out);obtain ⟨a5,c5,a6,c6,⟨x0,x1,x2⟩,_,hgl,u7,u8,e9,k7,k8⟩:=HX2.out.at;simp only [Value.agg.injEq] at e9;have e9':=congrArg Array.toList e9;simp at e9';obtain ⟨rfl,rfl⟩:=e9';obtain ⟨y0,y1,y2,hra⟩:=aL hrr HFF.out k7 k8;have g0:=hrr.cell (i:=0) (by simp);have g1:=hrr.cell (i:=1) (by simp);have g2:=hrr.cell (i:=2) (by simp);have f0:=hrr.free 0;have f1:=hrr.free 1;have f2:=hrr.free 2;have hlt5:=hrr.lt;have HRA:=ae hra;have Y:=ae (And.intro y0 (And.intro y1 y2));clear hra y0 y1 y2 k7 k8 hrr e9;clear hje;generalize R.num.length=n7 at *;generalize R.den.length=n8 at *;go_wp2;refine bodyPost_ret (v:=.agg #[.bool R.neg,.slice a5 n7 c5,.slice a6 n8 c6]) ?_ rfl ⟨⟨_,rfl,HRA.out⟩,?_⟩
   ·simp [results,Tryz.results76,go_sem,Y.out.1,Y.out.2.1,Y.out.2.2]
   ·exact ((HKw2.out.store (by omega) _ _).store (by omega) _ _).store (by omega) _ _
def Gt (L:List (Int × Int)):Nat:=if 1024<L.length then 4 else wV L
def fy (y:Nat) (is:List Nat):Nat:=is.foldl (fun y i=>y ||| 2^i) y
theorem qi (j:Nat):∀ (is:List Nat) (y:Nat),(fy y is).testBit j=(y.testBit j||decide (j∈is)):=by
 intro is;induction is with
 | nil=>intro y;simp [fy]
 | cons i is ih =>
  intro y;show (fy (y ||| 2^i) is).testBit j=_;rw [ih,Nat.testBit_or,Nat.testBit_two_pow];by_cases h:i=j
  ·subst h;simp
  ·have:(j=i)=False:=by simp;omega
   simp [h,this]
theorem vh (y i:Nat) (is:List Nat):fy y (is++[i])=fy y is ||| 2^i:=by unfold fy;rw [List.foldl_append];rfl
theorem vf (n i:Nat):∀ (is:List Nat) (y:Nat),dZ y n (is++[i])=dZ y n is++[(fy y is,n ||| 2^i)]:=by
 intro is;induction is with
 | nil=>intro y;rfl
 | cons j is ih =>
  intro y;rw [List.cons_append,dZ,ih,dZ];rfl
theorem AU {y:Nat} {is:List Nat} (hy:y<16777216) (hi:∀ i∈is,i<24):fy y is<16777216:=by
 refine ql fun j hj=>?_
 rw [qi,Bool.or_eq_true,decide_eq_true_eq] at hj;rcases hj with h | h
 ·exact lJ hy h
 ·exact hi j h
theorem md (n:Nat):∀ (is:List Nat) (y:Nat),(dZ y n is).length=is.length:=by
 intro is;induction is with
 | nil=>intro y;rfl
 | cons j is ih=>intro y;rw [dZ,List.length_cons,List.length_cons,ih]
theorem yq {y n s k:Nat} (hy:y<16777216) (hk:k<24) :
  let is:=(List.range k).filter fun i=>(aM s y).testBit i
  let is':=(List.range (k+1)).filter fun i=>(aM s y).testBit i
  (aM s (fy y is)).testBit k=(aM s y).testBit k/\fy y is<16777216/\is.length<=k /\
   ((aM s y).testBit k=false->is'=is)/\((aM s y).testBit k=true->dZ y n is'=dZ y n is++[(fy y is,n ||| 2^k)]/\fy y is'=fy y is ||| 2^k):=by
 intro is is';have hst:is'=is++(if (aM s y).testBit k then [k] else []):=uI (aM s y) k;refine ⟨?_,AU hy fun i hi=>?_,pV _ _,fun h=>?_,fun h=>?_⟩
 ·have hnk:¬ k∈is:=fun h=>by
   have:=(List.mem_filter.1 h).1;simp at this
  rw [bi,bi,qi];simp [hnk]
 ·have:=(List.mem_filter.1 hi).1
  have:i<k:=by simpa using this
  omega
 ·rw [hst,h];simp
 ·rw [hst,h];exact ⟨vf n k is y,vh y k is⟩
theorem Bm (l:List (Nat × Nat)) (y n:Nat):dA (l++[(y,n)])=dA l++[((y:Int),(n:Int))]:=by rw [oG];rfl
theorem AR {y n s:Nat} (h:s &&& n≠0):cN (y,n) s=[(y,n)]:=by unfold cN;rw [if_pos h]
theorem yo {y n s:Nat} (h:s &&& n=0):cN (y,n) s=dZ y n ((List.range 24).filter fun i=>(aM s y).testBit i):=by unfold cN;rw [if_neg (by simpa using h)];rfl
theorem DB {s y:Nat} (hs:s<16777216):aM s y<16777216:=ql fun j hj=>by
 rw [bi,Bool.and_eq_true] at hj;exact lJ hs hj.1
theorem Ez (s y k:Nat) (hs:s<16777216) (W:World) (b:Bool) (hb:(aM s y).testBit k=b):Calls Tryz.prog 98 #[.int .i64 (aM s y:Nat),.int .i64 k] W fun e w'=>e=.returned (.bool b)/\w'=W:=by
 have h:=kW (aM s y) k (DB hs) W;rw [hb] at h;exact h
theorem AV (y n s:Nat) (hy:y<16777216) (hn:n<16777216) (hs:s<16777216) (w:World) :
  Calls Tryz.prog 182 #[.agg #[.int .i64 y,.int .i64 n],.int .i64 s] w fun e w'=>(∃ v,e=.returned v/\cK w' v (dA (cN (y,n) s)))/\af w w':=by
 have hn63:n<9223372036854775808:=Nat.lt_trans hn (by decide);obtain ⟨z,hz⟩:∃ z,z=s &&& n:=⟨_,rfl⟩;have pz:=jg s n (by omega) (by omega);rw [<-hz] at pz;by_cases h0:z=0
 ·subst h0;rw [yo hz.symm];have HST:=ae fun k (hk:k<24)=>yq (n:=n) (s:=s) hy hk
  have HSD:=ae fun (x:Nat) (h:x<16777216)=>jT s x (by omega) (by omega)
  have HHA:=ae fun (x k:Nat) W b hb=>Ez s x k hs W b hb
  obtain ⟨w1,hw1⟩:∃ w1,w1=w.alloc (.cells #[.int .i64 y,.int .i64 n] 114):=⟨_,rfl⟩;have HR1:Hid (ai w1 w.heap.size 114 [.int .i64 y,.int .i64 n]):=ae (by rw [hw1];exact ai.made w #[.int .i64 y,.int .i64 n] 114);have HK1:Hid (af w w1):=ae (by rw [hw1];exact (af.refl w).alloc _);have HS1:Hid (w1.heap.size=w.heap.size+1):=ae (by rw [hw1];simp);have HW1:=ae hw1;have b1:=HR1.out.cell (i:=1) (by simp);simp only [List.getElem_cons_succ,List.getElem_cons_zero] at b1;clear hz hw1 hs;go_enter Tryz.func182,Tryz.ntmps182;go_wp2_with fail;rw [<-HW1.out];go_loopg [5,15] 24 (fun kx s5 s15 wr=>∃ k:Nat,k<=24/\s15=.int .i64 k/\24 - k<=kx/\Hid (b_ wr w1.heap.size s5 (dA (dZ y n ((List.range k).filter fun i=>(aM s y).testBit i))))/\Hid (ai wr w.heap.size 114 [.int .i64 (fy y ((List.range k).filter fun i=>(aM s y).testBit i):Nat),.int .i64 n])/\Hid (af w wr)/\Hid (w1.heap.size<=wr.heap.size))
  case atStart=>exact ⟨0,Nat.zero_le _,rfl,by omega,ae (b_.nil _ _),HR1,HK1,ae (Nat.le_refl _)⟩
  case round =>
   obtain ⟨k,hk,rfl,hkx,HO,HR,HK,HSZ⟩:=hrel;obtain ⟨a5,c5,e5⟩:=HO.out.at.shape;by_cases hlt:k<24
   ·have hkn:(k:Int)<24:=by omega
    obtain ⟨f1,f2,f3,f4,f5⟩:=HST.out k hlt;obtain ⟨is,his⟩:∃ is,is=(List.range k).filter fun i=>(aM s y).testBit i:=⟨_,rfl⟩
    obtain ⟨is',his'⟩:∃ is',is'=(List.range (k+1)).filter fun i=>(aM s y).testBit i:=⟨_,rfl⟩
    rw [<-his] at HO HR f1 f2 f3 f4 f5 e5;rw [<-his'] at f4 f5;rw [bM,md] at e5;have HIS':=ae his';obtain ⟨yk,hyk⟩:∃ yk,yk=fy y is:=⟨_,rfl⟩;rw [<-hyk] at HR f1 f2 f5;have HYK:=ae hyk;have hy63:yk<9223372036854775808:=Nat.lt_trans f2 (by decide);have p1:=HSD.out yk f2;obtain ⟨z,hz⟩:∃ z,z=aM s yk:=⟨_,rfl⟩;have HHZ:=ae fun W b hb=>HHA.out yk k W b hb
    rw [<-hz] at p1 f1 HHZ;have y0:=HR.out.cell (i:=0) (by simp);have y1:=HR.out.cell (i:=1) (by simp);simp only [List.getElem_cons_succ,List.getElem_cons_zero] at y0 y1;have g0:=HR.out.free 0;clear hz his his' hyk;cases hb:(aM s y).testBit k with
    | false =>
     have HC:=ae fun W=>HHZ.out W false (by rw [f1,hb])
     have HIE:=ae (f4 hb);clear hb f1 f2 f3 f4 f5;subst e5;go_wp2_with (go_at_call 98;refine (HC.out _).mono ?_;rintro e w2 ⟨rfl,rfl⟩);go_roundg (24 - (k+1))
     case measure=>omega
     case rel=>exact ⟨k+1,by omega,by go_num,Nat.le_refl _,ae (by rw [<-HIS'.out,HIE.out];exact HO.out),ae (by rw [<-HIS'.out,HIE.out,<-HYK.out];exact HR.out),HK,HSZ⟩
    | true =>
     have HC:=ae fun W=>HHZ.out W true (by rw [f1,hb])
     have HIE:=ae (f5 hb);have p2:=xo k (by omega);have hp:=tB (show k<24 by omega);obtain ⟨pk,hpk⟩:∃ pk,pk=2^k:=⟨_,rfl⟩;rw [<-hpk] at p2 hp HIE;clear hb f1 f2 f4 f5;have hp63:pk<9223372036854775808:=Nat.lt_trans hp (by decide);have p3:=oH n pk hn63 hp63;have p4:=oH yk pk hy63 hp63;obtain ⟨nk,hnk⟩:∃ nk,nk=n ||| pk:=⟨_,rfl⟩
     obtain ⟨yk',hyk'⟩:∃ yk',yk'=yk ||| pk:=⟨_,rfl⟩
     rw [<-hnk] at p3 HIE;rw [<-hyk'] at p4 HIE;have HLN:=ae f3;clear f3 hpk hnk hyk' hp hp63 hy63;subst e5;go_wp2_with (go_at_call 98;refine (HC.out _).mono ?_;rintro e w2 ⟨rfl,rfl⟩);go_region
     all_goals
      go_wp2_with (at_builtin;refine El rfl _ _ rfl w1.heap.size _ (dA (dZ y n is)) rfl (HO.out.kept ?k1) _ ((yk:Int),(nk:Int)) rfl ?k2 ?k3 ?k4 ?_)
      case k1=>exact (((af.refl _).alloc _).alloc _).drew
      case k2 =>
       have h:=iV (yW (w2.alloc (.cells #[.int .i64 yk,.int .i64 nk] 114)) (.int .i64 yk) (.int .i64 nk) 114) ((af.refl _).drew);simpa [cG] using h
      case k3=>rw [bM,md];have:=HLN.out;omega
      case k4=>have:=HSZ.out;simp;omega
      intro v' w' h5 _ h6;have H5:=ae h5;have H6:=ae h6;have hr6:=(HR.out.kept ((((af.refl w2).alloc (.cells #[.int .i64 yk,.int .i64 nk] 114)).alloc (.cells #[.int .i64 yk,.int .i64 nk] 114)).drew)).same (h6.block w.heap.size (by rw [HS1.out];omega));have HR6:=ae hr6;have z0:=hr6.cell (i:=0) (by simp);have z1:=hr6.cell (i:=1) (by simp);simp only [List.getElem_cons_succ,List.getElem_cons_zero] at z0 z1;have t0:=hr6.free 0;obtain ⟨a6,c6,rfl⟩:=h5.at.shape;clear h5 h6 hr6;go_wp2;go_region
      all_goals
       go_wp2_with fail;go_roundg (24 - (k+1))
       case measure=>omega
       case rel =>
        refine ⟨k+1,by omega,by go_num,Nat.le_refl _,ae ?_,ae ?_,ae ?_,ae ?_⟩
        ·rw [<-HIS'.out,HIE.out.1,Bm];exact H5.out.older (g:=w.heap.size) (by rw [HS1.out];omega) (by first | exact (az.refl _ _).store _ _ | exact ((az.refl _ _).store _ _).trans (az.kept (af.refl _).drew))
        ·rw [<-HIS'.out,HIE.out.2]
         first
          | exact HR6.out.store 0 _
          | exact (HR6.out.kept ((af.refl _).drew)).store 0 _
          | exact (HR6.out.store 0 _).kept ((af.refl _).drew)
        ·have hk:=((HK.out.alloc (.cells #[.int .i64 yk,.int .i64 nk] 114)).alloc (.cells #[.int .i64 yk,.int .i64 nk] 114)).drew;have hk6:af w w':=Below.trans hk (H6.out.mono (by rw [HS1.out];omega))
         first
          | exact hk6.store (Nat.le_refl _) _ _
          | exact hk6.drew.store (Nat.le_refl _) _ _
          | exact (hk6.store (Nat.le_refl _) _ _).drew
        ·have hz:=H6.out.size;have:=HSZ.out;simp at hz⊢;omega
   ·have hke:k=24:=by omega
    have hkn:¬ (k:Int)<24:=by omega
    have HE:=HO.out.at;rw [hke] at HE;have HE:=ae HE;subst e5;clear hke;go_wp2;go_ret;exact ⟨⟨_,rfl,HE.out⟩,HK.out⟩
 ·have hn0:¬ (z:Int)=0:=by omega
  rw [AR (by rw [<-hz];exact h0)];clear hz h0;go_enter Tryz.func182,Tryz.ntmps182;go_wp2;go_ret;refine ⟨⟨_,rfl,?_⟩,((af.refl _).alloc _).alloc _⟩;have h:=(te (w.alloc (.cells #[.int .i64 y,.int .i64 n] 114)) 0 ((y:Int),(n:Int)) (Nat.zero_le _)).at;simpa [dA,Fj] using h
theorem qh (c:Nat × Nat) (s:Nat):(cN c s).length<=24:=by
 unfold cN;split
 ·simp
 ·rw [md];exact pV _ 24
theorem wB (l:List (Nat × Nat)) (c:Nat × Nat) (s:Nat):bK (l++[c]) s=bK l s++cN c s:=by unfold bK;rw [List.flatMap_append];simp
theorem zF (s:Nat):∀ l:List (Nat × Nat),(bK l s).length<=24*l.length:=by
 intro l;induction l with
 | nil=>simp [bK]
 | cons c l ih =>
  have e:bK (c :: l) s=cN c s++bK l s:=by simp [bK]
  rw [e,List.length_append,List.length_cons];have:=qh c s;omega
theorem Bl {l:List (Nat × Nat)} {i:Nat} (h:i<(dA l).length):(dA l)[i]=Fj (l[i]'(by rw [bM] at h;exact h)):=by simp [dA]
theorem cK.cells {w:World} {a:Option Addr} {n c:Nat} {l:List (Nat × Nat)} (h:cK w (.slice a n c) (dA l)) (i:Nat) (hi:i<l.length) :
  ∃ b o,a=some ⟨b,o,none⟩/\w.rangeAt b (o+i*2) [.int .i64 (l[i].1:Nat),.int .i64 (l[i].2:Nat)]:=by
 obtain ⟨a',c',h1,_,_,h5⟩:=h;injection h1 with h1
 subst h1;obtain ⟨b,o,h6,h7⟩:=h5 i (by rw [bM];exact hi);refine ⟨b,o,h6,?_⟩;rw [Bl] at h7;exact h7
theorem ui (va:Value) (l:List (Nat × Nat)) (s most:Nat) (w:World) (hv:cK w va (dA l)) (hl:l.length<=1024) (hb:∀ c∈l,c.1<16777216/\c.2<16777216) (hs:s<16777216) (_hm:most<=1024) :
  Calls Tryz.prog 122 #[va,.int .i64 s,.int .i64 most] w fun e w'=>((most<(bK l s).length/\e=.returned (.tuple #[.slice none 0 0,aV 4]))\/(¬ most<(bK l s).length/\∃ v,e=.returned (.tuple #[v,.nilIface])/\cK w' v (dA (bK l s))))/\af w w':=by
 have HLE:=ae fun (c:Nat × Nat) W (h:c.1<16777216/\c.2<16777216)=>AV c.1 c.2 s h.1 h.2 hs W
 have HV:=ae hv;have HB:=ae hb;obtain ⟨a,c,rfl⟩:=hv.shape;rw [bM] at HV⊢;obtain ⟨n,hn⟩:∃ n,n=l.length:=⟨_,rfl⟩;rw [<-hn] at HV hl⊢;have HN:=ae hn;have HWL:=ae fun k=>zF s (l.take k)
 obtain ⟨z,hz⟩:∃ z,z=(bK l s).length:=⟨_,rfl⟩;rw [<-hz];have HZ:=ae hz;clear hv hb hn hs hz;go_enter Tryz.func122,Tryz.ntmps122;go_wp2_with fail;go_loopg [8,13] n (fun kx s8 s13 wr=>∃ k:Nat,k<=n/\s13=.int .i64 k/\n - k<=kx/\Hid (b_ wr w.heap.size s8 (dA (bK (l.take k) s)))/\Hid (af w wr))
 case atStart=>exact ⟨0,Nat.zero_le _,rfl,by omega,ae (b_.nil _ _),ae (af.refl _)⟩
 case round =>
  obtain ⟨k,hk,rfl,hkx,HO,HK⟩:=hrel;obtain ⟨a8,c8,e8⟩:=HO.out.at.shape;rw [bM] at e8;by_cases hlt:k<n
  ·have hkn:(k:Int)<(n:Int):=by omega
   have hkl:k<l.length:=by have:=HN.out;omega
   obtain ⟨b,o,rfl,hrg⟩:=HV.out.cells k hkl;have hrg2:=iV hrg HK.out;have y0:=hrg2 0 _ rfl;have y1:=hrg2 1 _ rfl;rw [Nat.add_zero] at y0;have HLC:=ae fun W=>HLE.out l[k] W (HB.out _ (List.getElem_mem hkl))
   have HST:Hid (bK (l.take (k+1)) s=bK (l.take k) s++cN l[k] s):=ae (by rw [List.take_succ_eq_append_getElem hkl,wB])
   have HLL:Hid ((bK (l.take k) s).length+(cN l[k] s).length<=1099511627776):=ae (by
    have h1:=HWL.out k;have h2:=qh l[k] s;have h3:(l.take k).length<=k:=by rw [List.length_take];omega
    omega)
   obtain ⟨z0,hz0⟩:∃ z0,z0=l[k].1:=⟨_,rfl⟩;obtain ⟨z1,hz1⟩:∃ z1,z1=l[k].2:=⟨_,rfl⟩;obtain ⟨M,hM⟩:∃ M,M=cN l[k] s:=⟨_,rfl⟩;have e:(l[k].1,l[k].2)=l[k]:=rfl;rw [e,<-hM] at HLC;rw [<-hz0,<-hz1] at HLC;rw [<-hM] at HST HLL;rw [<-hz0] at y0;rw [<-hz1] at y1;subst e8;clear hrg hrg2 hz0 hz1 hM e hkl
   go_wp2_with (first
    | (go_at_call 182;refine (HLC.out _).mono ?_;rintro e w2 ⟨⟨v2,rfl,hv2⟩,hk2⟩;have HV2:=ae hv2;have HK2:=ae (((af.refl wr).alloc _).trans hk2);clear hv2 hk2)
    | (at_builtin;refine qS rfl _ _ rfl w.heap.size _ (dA (bK (l.take k) s)) rfl (HO.out.kept HK2.out) _ (dA M) rfl HV2.out (by rw [bM,bM];exact HLL.out) (Nat.le_trans HK.out.size HK2.out.size) ?_;intro v' w' h5 _ h6;have H5:=ae h5;have H6:=ae h6;clear h5 h6))
   obtain ⟨a5,c5,rfl⟩:=H5.out.at.shape;go_roundg (n - (k+1))
   case measure=>omega
   case rel=>exact ⟨k+1,by omega,by go_num,Nat.le_refl _,ae (by rw [HST.out,oG];exact H5.out),ae ((HK.out.trans HK2.out).app H6.out)⟩
  ·have hke:k=n:=by omega
   have hkn:¬ (k:Int)<(n:Int):=by omega
   have ht:l.take k=l:=by rw [hke,HN.out];exact List.take_length
   rw [ht] at HO e8;rw [<-HZ.out] at e8;clear ht hke;subst e8;by_cases hmz:most<z
   ·have hmi:(most:Int)<(z:Int):=by omega
    go_wp2;go_ret2;exact ⟨by rw [aA (by omega)];rfl,HK.out⟩
   ·have hmi:¬ (most:Int)<(z:Int):=by omega
    go_wp2;go_ret2;exact ⟨⟨_,rfl,HO.out.at⟩,HK.out⟩
theorem CX {xs:List Int} (h:cU xs=0):xs.length<=1024/\Eb xs=true:=by
 unfold cU at h;by_cases he:eK xs=0
 ·exact uK he
 ·rw [if_pos he] at h;exact absurd h he
def eJ (xs:List Int):Nat × List (Nat × Nat):=if cU xs≠0 then (cU xs,[]) else match cq (aR xs) with | none=>(4,[]) | some l=>(0,l)
theorem yK (most:Nat) (L:List Nat) (l:List (Nat × Nat)) (j:Nat) (hj:j<L.length):gX most (L.drop j) l=if most<(bK l L[j]).length then none else gX most (L.drop (j+1)) (bK l L[j]):=by
 rw [List.drop_eq_getElem_cons hj,gX]
theorem mE (pre:List Nat) (out:List (Nat × Nat)) (L:List Nat) (k:Nat) (hk:k<L.length):cubesC pre out (L.drop k)=match gX (1024 - out.length) pre [(L[k],0)] with | none=>none | some l=>cubesC (pre++[L[k]]) (out++l) (L.drop (k+1)):=by
 rw [List.drop_eq_getElem_cons hk,cubesC];cases gX (1024 - out.length) pre [(L[k],0)] <;> rfl
theorem Br {most ol s:Nat} {bs:List Nat} {l:List (Nat × Nat)} (h:gX most bs [(s,0)]=some l) (hm:most=1024 - ol) (ho:ol<=1024) (h0:bs=[]->ol=0):ol+l.length<=1024:=by
 by_cases hb:bs=[]
 ·subst hb;cases h;have:=h0 rfl;simp;omega
 ·have:=Bt h hb;omega
theorem Dk {b:Nat} {c:Nat × Nat} (hc:c.1<16777216/\c.2<16777216):∀ d∈cN c b,d.1<16777216/\d.2<16777216:=by
 intro d hd;unfold cN at hd;split at hd
 ·rw [List.mem_singleton] at hd;rw [hd];exact hc
 ·refine mc (Pr:=fun d=>d.1<16777216/\d.2<16777216) (ip _) (fun i hi=>?_) ?_ d hd
  ·have:=(eE hi).2;rw [bi,Bool.and_eq_true] at this;simpa using this.2
  ·intro y' i hi h4 _ _;refine ⟨ql fun j hj=>?_,ql fun j hj=>?_⟩
   ·rcases h4 j hj with h | h
    ·exact lJ hc.1 h
    ·exact (eE h).1
   ·replace hj:(c.2 ||| 2^i).testBit j=true:=hj;rw [Nat.testBit_or,Nat.testBit_two_pow,Bool.or_eq_true,decide_eq_true_eq] at hj;rcases hj with h | rfl
    ·exact lJ hc.2 h
    ·exact (eE hi).1
theorem DR {b:Nat} {l:List (Nat × Nat)} (hl:∀ c∈l,c.1<16777216/\c.2<16777216):∀ d∈bK l b,d.1<16777216/\d.2<16777216:=by
 intro d hd;obtain ⟨c,hc,hd⟩:=List.mem_flatMap.1 hd;exact Dk (hl c hc) d hd
theorem xQ (va:Value) (xs:List Int) (w:World) (hv:am w va xs) :
  Calls Tryz.prog 75 #[va] w fun e w'=>(∃ v',e=.returned (.tuple #[v',aV (eJ xs).1])/\cK w' v' (dA (eJ xs).2))/\af w w':=by
 have HC:=ae fun W (h:af w W)=>n_ va xs W (hv.kept h)
 obtain ⟨a,m,c,rfl⟩:=hv.shape;by_cases h0:cU xs=0
 ·obtain ⟨hlen,hok⟩:=CX h0;obtain ⟨hxs,hmk⟩:=nC hok;have hcr:eJ xs=match cq (aR xs) with | none=>(4,[]) | some l=>(0,l):=by unfold eJ;rw [if_neg (by omega)]
  obtain ⟨q,hq⟩:∃ q,q=(eJ xs).1:=⟨_,rfl⟩;obtain ⟨Lr,hLr⟩:∃ Lr,Lr=(eJ xs).2:=⟨_,rfl⟩;rw [<-hq,<-hLr];rw [hcr] at hq hLr;rw [h0,aH] at HC;obtain ⟨ns,hns⟩:∃ ns,ns=aR xs:=⟨_,rfl⟩;rw [<-hns] at hxs hmk hq hLr;have hnl:ns.length<=1024:=by rw [hns];unfold aR;rw [List.length_map];exact hlen
  have hml:m=ns.length:=by
   obtain ⟨a',c',he,_⟩:=hv;injection he with _ he _
   rw [he,hns];unfold aR;rw [List.length_map]
  have HS:Hid (am w (.slice a m c) (aO ns)):=ae (by rw [<-hxs];exact hv);have HMK:Hid (∀ s∈ns,s<16777216):=ae fun s hs=>by have:=hmk s hs;unfold Mk at this;omega
  have HML:=ae hml;have HWI:=ae fun va l s most W hv hl hb hs hm=>ui va l s most W hv hl hb hs hm
  obtain ⟨R,hR⟩:∃ R,R=cq ns:=⟨_,rfl⟩;rw [<-hR] at hq hLr;have HR:=ae hR;have HQS:Hid (∀ o,R=some o->q=0/\Lr=o):=ae fun o h=>by rw [h] at hq hLr;exact ⟨hq,hLr⟩
  have HQN:Hid (R=none->q=4/\Lr=[]):=ae fun h=>by rw [h] at hq hLr;exact ⟨hq,hLr⟩
  have hm9:m<=1024:=by omega
  clear hv hxs hmk hnl hml hR hns hcr h0 hlen hok hq hLr;go_enter Tryz.func75,Tryz.ntmps75;go_wp2_with fail;refine (HC.out _ (af.refl _)).mono ?_;rintro e w2 ⟨rfl,hk2⟩;have HK2:=ae hk2;clear hk2;go_wp2_with fail;go_loopg [5,21] m (fun kx s5 s21 wr=>∃ (k:Nat) (out:List (Nat × Nat)),k<=m/\s21=.int .i64 k/\m - k<=kx/\out.length<=1024/\Hid (b_ wr w2.heap.size s5 (dA out))/\Hid (cubesC (ns.take k) out (ns.drop k)=R)/\Hid (ns.take k=[]->out=[])/\Hid (af w2 wr))
  case atStart=>exact ⟨0,[],Nat.zero_le _,rfl,by omega,by simp,ae (b_.nil _ _),ae (by rw [HR.out];simp [cq]),ae (fun _=>rfl),ae (af.refl _)⟩
  case round =>
   obtain ⟨k,out,hk,rfl,hkx,hol,HO,HCC,HE0,HK⟩:=hrel;obtain ⟨a5,c5,e5⟩:=HO.out.at.shape;rw [bM] at e5;by_cases hlt:k<m
   ·have hkl:k<ns.length:=by have:=HML.out;omega
    have hkn:(k:Int)<(m:Int):=by omega
    obtain ⟨fa',fc',he1,⟨he6,_⟩,_,he2⟩:=HS.out;injection he1 with he3 he4 he5
    subst he3;have hkc:k<=c:=by rw [he5];omega
    have hkc1:¬ (c:Int)<(k:Int):=by omega
    have hkc2:(k:Int)<=(c:Int):=by omega
    obtain ⟨b,o,rfl,hce⟩:=he2 k (by simpa [aO] using hkl);obtain ⟨s,hs⟩:∃ s,s=ns[k]:=⟨_,rfl⟩;have e1:(aO ns)[k]'(by simpa [aO] using hkl)=(s:Int):=by rw [hs];simp [aO]
    rw [e1] at hce;have hcr:=HK.out.cell (HK2.out.cell hce);have HSS:=ae hs;obtain ⟨ol,hol2⟩:∃ ol,ol=out.length:=⟨_,rfl⟩;rw [<-hol2] at e5 hol;obtain ⟨most,hmost⟩:∃ most,most=1024 - ol:=⟨_,rfl⟩
    have HWK:Hid (∀ va l (s:Nat) W,cK W va (dA l)->l.length<=1024->(∀ c∈l,c.1<16777216/\c.2<16777216)->s<16777216->Calls Tryz.prog 122 #[va,.int .i64 s,.int .i64 (1024 - (ol:Int))] W fun e w'=>((most<(bK l s).length/\e=.returned (.tuple #[.slice none 0 0,aV 4]))\/(¬ most<(bK l s).length/\∃ v,e=.returned (.tuple #[v,.nilIface])/\cK w' v (dA (bK l s))))/\af W w'):=ae fun va l s W h1 h2 h3 h4=>by
     have e:(1024:Int) - (ol:Int)=(most:Int):=by omega
     rw [e];exact HWI.out va l s most W h1 h2 h3 h4 (by omega)
    have HOL:=ae hol2;have HMO:=ae hmost;have hmo:most<=1024:=by omega
    have hki:¬ (k:Int)<0:=by omega
    subst e5;clear he2 he4 he5 he6 e1 hce hs hol2 hmost;go_wp2_with fail;obtain ⟨wo,rfl⟩:∃ wo:World,wo=wr:=⟨_,rfl⟩;obtain ⟨w5,hw5⟩:∃ w5,w5=wo.alloc (.cells #[.int .i64 s,.int .i64 0] 114):=⟨_,rfl⟩;have HL5:Hid (cK w5 (.slice (some ⟨wo.heap.size,0,none⟩) 1 1) (dA [(s,0)])):=ae (by rw [hw5];exact (te wo 0 ((s:Int),((0:Nat):Int)) (Nat.zero_le _)).at);have HK5:Hid (af wo w5):=ae (by rw [hw5];exact (af.refl wo).alloc _);have hs24:s<16777216:=HMK.out s (by rw [HSS.out];exact List.getElem_mem hkl);rw [<-hw5];have HB5:Hid (∀ c∈[(s,0)],c.1<16777216/\c.2<16777216):=ae fun c hc=>by rw [List.mem_singleton] at hc;rw [hc];exact ⟨hs24,by show (0:Nat)<16777216;decide⟩
    clear hw5 hs24;go_loopg [9,36] k (fun jx s9 s36 W=>∃ (j:Nat) (l:List (Nat × Nat)),j<=k/\s36=.int .i64 j/\k - j<=jx/\l.length<=1024/\Hid (cK W s9 (dA l))/\Hid (gX most ((ns.take k).drop j) l=gX most (ns.take k) [(s,0)])/\Hid (∀ c∈l,c.1<16777216/\c.2<16777216)/\Hid (af wo W))
    case atStart=>exact ⟨0,[(s,0)],Nat.zero_le _,rfl,by omega,by simp,HL5,ae (by rw [List.drop_zero]),HB5,HK5⟩
    case round =>
     obtain ⟨j,l,hj,rfl,hjx,hll,HL,HOW,HBL,HKW⟩:=hrel;obtain ⟨a9,c9,e9⟩:=HL.out.shape;rw [bM] at e9;by_cases hjk:j<k
     ·have hji:(j:Int)<(k:Int):=by omega
      have hjl:j<ns.length:=by omega
      have hce2:=HS.out;obtain ⟨fa',fc',he1,_,_,he2⟩:=hce2;injection he1 with he3 he4 he5
      subst he3;obtain ⟨b',o',he7,hce⟩:=he2 j (by simpa [aO] using hjl);cases he7;obtain ⟨y,hy⟩:∃ y,y=ns[j]:=⟨_,rfl⟩;have e1:(aO ns)[j]'(by simpa [aO] using hjl)=(y:Int):=by rw [hy];simp [aO]
      rw [e1] at hce;have hcy:=HKW.out.cell (HK.out.cell (HK2.out.cell hce));have hy24:y<16777216:=HMK.out y (by rw [hy];exact List.getElem_mem hjl)
      have HST:Hid (gX most ((ns.take k).drop j) l=if most<(bK l y).length then none else gX most ((ns.take k).drop (j+1)) (bK l y)):=ae (by
       have h:=yK most (ns.take k) l j (by rw [List.length_take];omega);have e:(ns.take k)[j]'(by rw [List.length_take];omega)=y:=by rw [List.getElem_take,hy]
       rw [e] at h;exact h)
      have HWC:=ae (HWK.out _ l y _ HL.out hll HBL.out hy24);have HBW:=ae (DR (b:=y) (l:=l) HBL.out);subst e9;clear he2 he4 he5 hce e1 hy hy24;go_wp2_with (go_at_call 122;refine HWC.out.mono ?_);rintro e w6 ⟨h6,hk6⟩;have HK6:=ae hk6;rcases h6 with ⟨hlt6,rfl⟩ | ⟨hge6,v6,rfl,hv6⟩
      ·rw [aA (by omega)]
       have HN:Hid (R=none):=ae (by
        rw [<-HCC.out,mE (ns.take k) out ns k hkl,<-HOL.out,<-HMO.out,<-HSS.out,<-HOW.out,HST.out,if_pos hlt6])
       clear hk6 hlt6;go_wp2;go_ret2;obtain ⟨e1,e2⟩:=HQN.out HN.out;rw [e1,e2];exact ⟨⟨_,rfl,cK.nil _⟩,HK2.out.trans (HK.out.trans (HKW.out.trans HK6.out))⟩
      ·have HV6:=ae hv6;have HG6:=ae hge6;clear hk6 hv6 hge6;go_wp2_with fail;go_roundg (k - (j+1))
       case measure=>omega
       case rel=>exact ⟨j+1,bK l y,by omega,by go_num,Nat.le_refl _,by have:=HG6.out;omega,HV6,ae (by rw [<-HOW.out,HST.out,if_neg HG6.out]),HBW,ae (HKW.out.trans HK6.out)⟩
     ·have hje:j=k:=by omega
      have hji:¬ (j:Int)<(k:Int):=by omega
      have HOS:Hid (gX most (ns.take k) [(s,0)]=some l):=ae (by
       rw [<-HOW.out,hje,List.drop_of_length_le (by rw [List.length_take];omega)];rfl)
      have HFT:Hid (ol+l.length<=1024):=ae (Br HOS.out HMO.out hol fun h=>by rw [HOL.out,HE0.out h];rfl)
      have HCN:Hid (cubesC (ns.take (k+1)) (out++l) (ns.drop (k+1))=R):=ae (by
       have h:=HCC.out;rw [mE (ns.take k) out ns k hkl,<-HOL.out,<-HMO.out,<-HSS.out,HOS.out] at h;rw [List.take_succ_eq_append_getElem hkl,<-HSS.out];exact h)
      subst e9;clear hje;go_wp2_with (at_builtin;refine qS rfl _ _ rfl w2.heap.size _ (dA out) rfl (HO.out.kept HKW.out) _ (dA l) rfl HL.out (by rw [bM,bM,<-HOL.out];have:=HFT.out;omega) (Nat.le_trans HK.out.size HKW.out.size) ?_;intro v' w' h5 _ h6;have H5:=ae h5;have H6:=ae h6;clear h5 h6);go_roundg (m - (k+1))
      case measure=>omega
      case rel =>
       refine ⟨k+1,out++l,by omega,by go_num,Nat.le_refl _,by rw [List.length_append,<-HOL.out];exact HFT.out,ae (by rw [oG];exact H5.out),HCN,ae (fun h=>?_),ae ((HK.out.trans HKW.out).app H6.out)⟩;have:=congrArg List.length h;rw [List.length_take,List.length_nil] at this;omega
   ·have hke:k=m:=by omega
    have hkn:¬ (k:Int)<(m:Int):=by omega
    have HE:Hid (R=some out):=ae (by
     have h:=HCC.out;rw [hke,HML.out,List.drop_length] at h;exact h.symm)
    subst e5;clear hke;go_wp2;go_ret2;obtain ⟨e1,e2⟩:=HQS.out _ HE.out;rw [e1,e2];exact ⟨⟨_,rfl,HO.out.at⟩,HK2.out.trans HK.out⟩
 ·have hcr:eJ xs=(cU xs,[]):=by unfold eJ;rw [if_pos h0]
  rw [hcr];obtain ⟨q,hq⟩:∃ q,q=cU xs:=⟨_,rfl⟩;rw [<-hq] at HC h0⊢;rw [aA h0] at HC⊢;clear hv hq hcr;go_enter Tryz.func75,Tryz.ntmps75;go_wp2_with (go_at_call 94;refine (HC.out _ (af.refl _)).mono ?_;rintro e w2 ⟨rfl,hk2⟩;have HK2:=ae hk2;clear hk2);go_ret2;exact ⟨⟨_,rfl,cK.nil _⟩,HK2.out⟩
theorem am.get {w:World} {a:Option Addr} {n c:Nat} {xs:List Int} (h:am w (.slice a n c) xs) (i:Nat) (hi:i<xs.length):∃ b o,a=some ⟨b,o,none⟩/\w.cell? ⟨b,o+i,none⟩=some (.int .i64 xs[i]):=by
 obtain ⟨a',c',h1,_,_,h5⟩:=h;injection h1 with h1
 subst h1;exact h5 i hi
def Gd (n most:Nat):Bool:=(decide (40<n)&&decide (n<=most))||decide (3000<n)
theorem uo (b:Nat) (w:World) (h0:w.cell? ⟨b,0,none⟩=some (.pointer none)) (hsh:w.shape? b=some (167,2)) (hfz:w.frozen? ⟨b,0,none⟩=false) :
  Calls Tryz.prog 212 #[.pointer (some ⟨b,0,none⟩)] w fun e w'=>e=.returned (.tuple #[])/\w'=w.setCell ⟨b,0,none⟩ (.pointer (some ⟨b,0,none⟩)):=by
 have hsz:(Tryz.prog.info? 167).map (fun i=>i.size)=some 2:=by kernel_rfl
 obtain ⟨j,hj,hjs⟩:=Option.map_eq_some_iff.1 hsz;have hne:j.size≠0:=by rw [hjs];decide
 go_enter Tryz.func212,Tryz.ntmps212;go_wp2;rw [Lib.run_to_unsafe w ⟨b,0,none⟩ Tryz.underlying164 Tryz.underlying243 hj hne hsh (Nat.zero_lt_succ 1)];simp only [Result.andThen];rw [Oper.upon_value];go_wp2;rw [run_callFunc_extern Tryz.func253 (by kernel_rfl) (by kernel_rfl) (by kernel_rfl) (e:=Extern.AbiNoEscape.same) (by kernel_rfl)];rw [Lib.run_noEscape];simp only [Result.andThen];rw [Oper.upon_value];go_wp2;rw [Lib.run_from_unsafe w ⟨b,0,none⟩ Tryz.underlying243 Tryz.underlying164 hj hsh Go.Proofs.Tryz.Builder_Extra_169.liesBuilder];simp only [Result.andThen];rw [Oper.upon_value];go_wp2;go_end0;exact ⟨rfl,rfl⟩
theorem ur (B b:Nat) (s:ByteArray) (w:World) (hB:B<=b) (hbk:w.heap[b]?=some (.cells #[.pointer none,.slice none 0 0] 167 (0,0))) (hlen:s.size<=140737488355328) (hBw:B<=w.heap.size) :
  Calls Tryz.prog 149 #[.pointer (some ⟨b,0,none⟩),.string s] w fun e w'=>e=.returned (.tuple #[.int .i64 s.size,.nilIface])/\(Lib.BuilderAt 167 5 B b (.pointer (some ⟨b,0,none⟩)) (Lib.strCells s) w'/\Below B w w'):=by
 obtain ⟨i0,hi,hz0,hz1,hz2⟩:=info_parts Go.Proofs.Tryz.Builder_Extra_169.infoByte
 have hlt:b<w.heap.size:=by
  rcases Nat.lt_or_ge b w.heap.size with h' | h'
  ·exact h'
  ·simp [Array.getElem?_eq_none h'] at hbk
 have e0:w.cell? ⟨b,0,none⟩=some (.pointer none):=by simp [World.cell?,hbk]
 have ef:w.frozen? ⟨b,0,none⟩=false:=Lib.frozen_of_heap hbk 0;have es:w.shape? b=some (167,2):=by simp [World.shape?,hbk]
 obtain ⟨w1,hw1⟩:∃ w1,w1=w.setCell ⟨b,0,none⟩ (.pointer (some ⟨b,0,none⟩)):=⟨_,rfl⟩;have HCK:Hid (Calls Tryz.prog 212 #[.pointer (some ⟨b,0,none⟩)] w fun e w'=>e=.returned (.tuple #[])/\w'=w1):=ae (by rw [hw1];exact uo b w e0 es ef);obtain ⟨v,hv⟩:∃ v:Value,v=.slice none 0 0:=⟨_,rfl⟩;have HOW:Hid (w1.ownsRow B 5 1 v 0 []):=ae (by rw [hv];exact World.ownsRow_nil _ _ _ _);have HNB:Hid (v.ownBlock=none):=ae (by rw [hv];rfl)
 have hb1:w1.heap[b]?=some (.cells #[.pointer (some ⟨b,0,none⟩),v] 167 (0,0)):=by
  rw [hw1,hv];have:=heap_setCell_same w b 0 _ _ (.pointer (some ⟨b,0,none⟩)) hbk;simpa using this
 have hk1:Below B w w1:=by rw [hw1];exact (Below.refl B w).setCell (p:=⟨b,0,none⟩) hB _
 have hs1:w1.heap.size=w.heap.size:=by rw [hw1];simp
 have c0:w1.cell? ⟨b,0,none⟩=some (.pointer (some ⟨b,0,none⟩)):=by rw [Lib.cell_of_heap hb1];rfl
 have c1:w1.cell? ⟨b,1,none⟩=some v:=by rw [Lib.cell_of_heap hb1];rfl
 have HB1:=ae hb1;have HK1:=ae hk1;have HI:=ae hi;have HZ0:=ae hz0;have HZ1:=ae hz1;have HZ2:=ae hz2;clear hw1 hv hbk e0 ef es hb1 hk1 hi hz0 hz1 hz2;go_enter Tryz.func149,Tryz.ntmps149;go_wp2_with (go_at_call 212;refine HCK.out.mono ?_);rintro e w1' ⟨rfl,rfl⟩;go_wp2_with (at_builtin;refine Lib.wpList_append_own_string _ rfl _ _ 165 9 rfl B 5 i0 Tryz.underlying165 Tryz.underlying9 HI.out HZ0.out HZ1.out HZ2.out v 0 [] rfl HOW.out s rfl ?c3 ?c4 ?c5 ?_)
 case c3=>unfold maxLen;omega
 case c4=>omega
 case c5=>omega
 intro v' w2 hown' hgrow _
 have hb2:w2.heap[b]?=some (.cells #[.pointer (some ⟨b,0,none⟩),v] 167 (0,0)):=by
  rw [hgrow.block b (by rw [hs1];exact hlt) (fun e=>by rw [HNB.out] at e;cases e)];exact HB1.out
 have d0:w2.cell? ⟨b,0,none⟩=some (.pointer (some ⟨b,0,none⟩)):=by rw [Lib.cell_of_heap hb2];rfl
 have d1:w2.cell? ⟨b,1,none⟩=some v:=by rw [Lib.cell_of_heap hb2];rfl
 have f1:w2.frozen? ⟨b,1,none⟩=false:=Lib.frozen_of_heap hb2 1
 obtain ⟨ao,n',cap,rfl⟩:∃ ao n' cap,v'=.slice ao n' cap:=by
  rcases hown'.2 with ⟨hv,_⟩ | ⟨g,cap,cur,hv,_⟩
  ·exact ⟨_,_,_,hv⟩
  ·exact ⟨_,_,_,hv⟩
 go_wp2;go_ret2;refine ⟨rfl,?_,?_⟩
 ·exact Lib.BuilderAt.put (T:=167) (e:=5) hB hb2 (bs':=Lib.strCells s) (by simpa [Lib.strCells_length] using hown') Go.Proofs.Tryz.Builder_Extra_169.neB5
 ·exact (HK1.out.grown hgrow (by rw [hs1];exact hBw) (fun k hk=>by rw [HNB.out] at hk;cases hk)).setCell (p:=⟨b,1,none⟩) hB _
def nM (r k:Nat):List Value:=(List.range 9).map fun j=>.int .u8 (((if 9<=j+k then 48+r / 10^(8 - j) % 10 else 0:Nat)):Int)
theorem xE (r k:Nat) (hk:k<9):(nM r k).set (8 - k) (.int .u8 ((48+r / 10^k % 10:Nat):Int))=nM r (k+1):=by
 match k,hk with
 | 0,_=>rfl
 | 1,_=>rfl
 | 2,_=>rfl
 | 3,_=>rfl
 | 4,_=>rfl
 | 5,_=>rfl
 | 6,_=>rfl
 | 7,_=>rfl
 | 8,_=>rfl
def ik (r:Nat):List UInt8:=(List.range 9).map fun j=>UInt8.ofNat (48+r / 10^(8 - j) % 10)
theorem fg (r:Nat):(ik r).length=9:=by unfold ik;simp
theorem yF (r j:Nat) (h:j<(ik r).length):(((ik r)[j].toNat:Nat):Int)=((48+r / 10^(8 - j) % 10:Nat):Int):=by
 rw [fg] at h
 have:r / 10^(8 - j) % 10<10:=Nat.mod_lt _ (by decide)
 simp [ik];omega
theorem zX (r j:Nat) (h:j<9):(nM r 9)[j]'(by simp [nM];omega)=.int .u8 ((48+r / 10^(8 - j) % 10:Nat):Int):=by
 simp [nM]
theorem Bh (r:Nat) (hr:r<4294967296) (w:World):Calls Tryz.prog 148 #[.int .u32 r] w fun e w'=>e=.returned (.string ⟨(ik r).toArray⟩)/\af w w':=by
 obtain ⟨w1,hw1⟩:∃ w1,w1=w.alloc (.cells #[.int .u8 0,.int .u8 0,.int .u8 0,.int .u8 0,.int .u8 0,.int .u8 0,.int .u8 0,.int .u8 0,.int .u8 0] 211):=⟨_,rfl⟩;have HR1:Hid (ai w1 w.heap.size 211 (nM r 0)):=ae (by rw [hw1];exact ai.made w #[.int .u8 0,.int .u8 0,.int .u8 0,.int .u8 0,.int .u8 0,.int .u8 0,.int .u8 0,.int .u8 0,.int .u8 0] 211);have HK1:Hid (af w w1):=ae (by rw [hw1];exact (af.refl w).alloc _);have HW1:=ae hw1
 have HCV:Hid (∀ W,ai W w.heap.size 211 (nM r 9)->(convert 165 9 (.slice (some ⟨w.heap.size,0,none⟩) 9 9)).run Tryz.prog W=.ok (.string ⟨(ik r).toArray⟩) W):=ae fun W hW=>by
  have h:=run_convert_bytes_back (P:=Tryz.prog) W 165 9 5 ⟨w.heap.size,0,none⟩ 9 (ik r) Tryz.underlying165 Tryz.underlying5 Tryz.underlying9 (fun j hj=>by
   have hj9:j<9:=by rw [fg] at hj;exact hj
   have h1:=hW.cell (i:=j) (by simp [nM];omega);rw [zX r j hj9,<-yF r j hj] at h1;rw [show ({ block:=w.heap.size,off:=0 }:Addr).add j=⟨w.heap.size,j,none⟩ by unfold Addr.add;split <;> simp_all];exact h1)
  rw [fg] at h;exact h
 clear hw1;go_enter Tryz.func148,Tryz.ntmps148;go_wp2_with fail;try rw [<-HW1.out]
 go_loopg [0,4] 9 (fun kx s0 s4 wr=>∃ k:Nat,k<=9/\s4=.int .i64 (8 - (k:Int))/\9 - k<=kx/\s0=.int .u32 (r / 10^k:Nat)/\Hid (ai wr w.heap.size 211 (nM r k))/\Hid (af w wr))
 case atStart=>exact ⟨0,Nat.zero_le _,rfl,by omega,by simp,HR1,HK1⟩
 case round =>
  obtain ⟨k,hk,rfl,hkx,rfl,HR,HK⟩:=hrel;by_cases hlt:k<9
  ·have hkn:0<=(8 - (k:Int)):=by omega
   have HST:=ae (xE r k hlt);have hd:r / 10^k<4294967296:=Nat.lt_of_le_of_lt (Nat.div_le_self _ _) hr;have HDD:Hid (r / 10^(k+1)=r / 10^k / 10):=ae (by rw [Nat.pow_succ,Nat.div_div_eq_div_mul]);obtain ⟨m,hm⟩:∃ m,m=r / 10^k:=⟨_,rfl⟩;rw [<-hm] at hd HST HDD⊢;obtain ⟨d,hdd⟩:∃ d,d=m % 10:=⟨_,rfl⟩;have hd10:d<10:=by omega
   have f0:=HR.out.free (8 - k);have HLT:Hid (8 - k<(nM r k).length):=ae (by simp [nM];omega);have hc:=HR.out.cell (i:=8 - k) HLT.out;have hix:(8 - (k:Int)).toNat=8 - k:=by omega
   have hi9:(8 - (k:Int))<9:=by omega
   have p1:Int.tmod (m:Int) 10=(d:Int):=by rw [hdd];exact Int.ofNat_tmod m 10
   have p2:IntKind.u32.wrap (48+(d:Int))=((48+d:Nat):Int):=by rw [IntKind.wrap_u32];omega
   have p3:IntKind.u8.wrap ((48+d:Nat):Int)=((48+d:Nat):Int):=by rw [IntKind.wrap_u8];omega
   clear hm;go_wp2;go_roundg (9 - (k+1))
   case measure=>omega
   case rel =>
    refine ⟨k+1,by omega,by go_num,Nat.le_refl _,?_,?_,?_⟩
    ·rw [HDD.out];simp
    ·refine ae ?_;have h:=HR.out.store (8 - k) (.int .u8 ((48+m % 10:Nat):Int));rw [HST.out] at h;simpa using h
    ·exact ae (HK.out.store (Nat.le_refl _) _ _)
  ·have hke:k=9:=by omega
   have hkn:¬ 0<=(8 - (k:Int)):=by omega
   rw [hke] at HR;have hcv:=HCV.out wr HR.out;clear hke;go_wp2;go_ret;exact ⟨rfl,HK.out⟩
theorem AJ:(Tryz.prog.info? 9).map (fun i=>(i.zero,i.size,i.bytes))=some (some (.string .empty),1,16):=by kernel_rfl
theorem yL {w:World} {B:Nat} {e:TypeId} {v y:Value} (h:w.ownsRow B e 1 v 1 [y]):∃ g cap,v=.slice (some ⟨g,0,none⟩) 1 cap/\w.cell? ⟨g,0,none⟩=some y:=by
 obtain ⟨_,h2⟩:=h;rcases h2 with ⟨_,h⟩ | ⟨g,cap,cur,rfl,h5,h6,h7,h8,h9,h10⟩
 ·cases h
 ·refine ⟨g,cap,rfl,?_⟩
  have e1:(cur.toList.take 1)[0]?=some y:=by
   have:=congrArg (fun l=>l[0]?) h10;simpa using this
  simp only [World.cell?,h6];simpa using e1
theorem oF {n:Nat} (h0:n≠0) (h:n<4294967296):nw n=[n]:=by
 rw [ml h0,Nat.mod_eq_of_lt h,Nat.div_eq_of_lt h,bR]
theorem qo (v:Value) (xs:List Nat) (n:Nat) (l:List UInt8) (w:World) (hv:WdsAt w v xs) (hn:nv xs=n) (h0:n≠0) (h9:n<1000000000) (hl:Lib.trimLeftB (ik n) 48=l) (hne:l≠[]) :
  Calls Tryz.prog 92 #[v] w fun e w'=>e=.returned (.string ⟨l.toArray⟩)/\af w w':=by
 have HT:Hid (Calls Tryz.prog 116 #[v] w fun e w'=>(∃ v',e=.returned v'/\WdsAt w' v' [n])/\af w w'):=ae (by have h:=bh v xs w hv;rw [hn,oF h0 (by omega)] at h;exact h)
 have HSM:Hid (∀ W va,WdsAt W va [n]->Calls Tryz.prog 147 #[va,.int .u32 (1000000000:Nat)] W fun e w'=>(∃ v',e=.returned (.tuple #[v',.int .u32 n])/\WdsAt w' v' [])/\af W w'):=ae fun W va h=>by
  have h:=qH va [n] 1000000000 W h (by omega) (by omega);have e1:nv [n]=n:=by simp [nv]
  rw [e1,Nat.mod_eq_of_lt h9,Nat.div_eq_of_lt h9,bR] at h;exact h
 have HNI:=ae (fun W=>Bh n (by omega) W);obtain ⟨N9,hN9⟩:∃ N9,N9=ik n:=⟨_,rfl⟩;have HLEN:Hid (N9.length=9):=ae (by rw [hN9];exact fg n)
 have HN9:Hid (N9≠[]):=ae fun h=>by
  have h2:=HLEN.out;rw [h] at h2;simp at h2
 rw [<-hN9] at HNI hl
 have HTR:Hid (∀ W,Calls Tryz.prog 150 #[.string ⟨N9.toArray⟩,.string ⟨#[48]⟩] W fun e w'=>e=.returned (.string ⟨l.toArray⟩)/\w'=W):=ae fun W=>by
  have h:=Go.Proofs.Tryz.strings_TrimLeft_one ⟨N9.toArray⟩ 48 (by decide) W;rw [show (⟨N9.toArray⟩:ByteArray).data.toList=N9 from rfl,hl] at h;exact h
 have HNE:Hid ((⟨l.toArray⟩:ByteArray)≠⟨#[]⟩):=ae fun h=>hne (by
  have:=congrArg (fun b=>b.data.toList) h;simpa using this)
 have hie:l.isEmpty=false:=by cases l with
  | nil=>exact absurd rfl hne
  | cons _ _=>rfl
 have HV:=ae hv;obtain ⟨av,cv,rfl⟩:=hv.shape;clear hv hn h9 hl hne hN9;go_enter Tryz.func92,Tryz.ntmps92;go_wp2_with fail;refine HT.out.mono ?_;rintro e w2 ⟨⟨v2,rfl,hv2⟩,hk2⟩;have HV2:=ae hv2;have HK2:=ae hk2;clear hv2 hk2;go_wp2_with fail;go_loopg [0,3] 1 (fun kx s0 s3 wr=>((1<=kx/\s3=.slice none 0 0/\Hid (WdsAt wr s0 [n]))\/(Hid (WdsAt wr s0 [])/\Hid (wr.ownsRow w2.heap.size 9 1 s3 1 [.string ⟨N9.toArray⟩])))/\Hid (af w2 wr))
 case atStart=>exact ⟨.inl ⟨Nat.le_refl _,rfl,HV2⟩,ae (af.refl _)⟩
 case round =>
  obtain ⟨hor,HK⟩:=hrel;rcases hor with ⟨hkx,rfl,HA⟩ | ⟨HA,HO⟩
  ·obtain ⟨a0,c0,rfl⟩:=HA.out.shape;simp only [List.length_singleton] at HA⊢
   go_wp2_with (first
    | (go_at_call 147;refine (HSM.out _ _ HA.out).mono ?_;rintro e w3 ⟨⟨v3,rfl,hv3⟩,hk3⟩;have HV3:=ae hv3;have HK3:=ae hk3;clear hv3 hk3)
    | (go_at_call 148;refine (HNI.out _).mono ?_;rintro e w4 ⟨rfl,hk4⟩;have HK4:=ae hk4;clear hk4)
    | (at_builtin;refine nt 160 9 _ 16 AJ Tryz.underlying160 rfl rfl _ _ rfl w2.heap.size _ [] rfl (World.ownsRow_nil _ _ _ _) _ (.string ⟨N9.toArray⟩) rfl (by simp) rfl (by simp) (by simp [maxLen]) (by have:=HK.out.size;have:=HK3.out.size;have:=HK4.out.size;simp;omega) ?_;intro v' w' h5 _ h6;have H5:=ae h5;have H6:=ae h6;clear h5 h6))
   go_roundg 0
   case measure=>omega
   case rel =>
    have hk:=((HK.out.trans HK3.out).trans HK4.out).alloc (.cells #[.string ⟨N9.toArray⟩] 9);refine ⟨.inr ⟨ae ?_,ae (by simpa using H5.out)⟩,ae (hk.app H6.out)⟩;obtain ⟨a9,c9,i1,i2,i3,i4,_⟩:=HV3.out;exact ⟨a9,c9,i1,i2,i3,i4,fun i hi=>by simp at hi⟩
  ·obtain ⟨a0,c0,rfl⟩:=HA.out.shape;simp only [List.length_nil] at HA⊢;obtain ⟨g3,cap3,rfl,hc3⟩:=yL HO.out;have HC3:=ae hc3;clear hc3;go_wp2_with fail;obtain ⟨w4,hw4⟩:∃ w4,w4=wr.alloc (.cells #[.pointer none,.slice none 0 0] 167):=⟨_,rfl⟩;have HBK4:Hid (w4.heap[wr.heap.size]?=some (.cells #[.pointer none,.slice none 0 0] 167 (0,0))):=ae (by rw [hw4];exact heap_alloc_new wr _);have HKR4:Hid (af wr w4):=ae (by rw [hw4];exact (af.refl wr).alloc _);try rw [<-hw4]
   clear hw4;have HSG:Hid (∀ W,Lib.BuilderAt 167 5 wr.heap.size wr.heap.size (.pointer (some ⟨wr.heap.size,0,none⟩)) (Lib.byteCells N9) W->af wr W->Calls Tryz.prog 151 #[.pointer (some ⟨wr.heap.size,0,none⟩)] W fun e w'=>e=.returned (.string ⟨N9.toArray⟩)/\af wr w'):=ae fun W hb hk=>(Go.Proofs.Tryz.Builder_String wr.heap.size wr.heap.size N9 W (.inr hb) HN9.out).mono fun e w' ⟨h1,h2⟩=>⟨h1,hk.app h2⟩
   go_loopg [7] 1 (fun kx s7 W=>((1<=kx/\s7=.int .i64 0/\Hid (W.heap[wr.heap.size]?=some (.cells #[.pointer none,.slice none 0 0] 167 (0,0))))\/(s7=.int .i64 (-1)/\Hid (Lib.BuilderAt 167 5 wr.heap.size wr.heap.size (.pointer (some ⟨wr.heap.size,0,none⟩)) (Lib.byteCells N9) W)))/\Hid (af wr W))
   case atStart=>exact ⟨.inl ⟨Nat.le_refl _,rfl,HBK4⟩,HKR4⟩
   case round =>
    obtain ⟨hor,HKW⟩:=hrel;rcases hor with ⟨hkx,rfl,HB⟩ | ⟨rfl,HB⟩
    ·have hce:=HKW.out.cell HC3.out;go_wp2_with (go_at_call 149;refine (ur _ _ ⟨N9.toArray⟩ _ (Nat.le_refl _) HB.out (by show N9.toArray.size<=_;rw [List.size_toArray,HLEN.out];omega) HKW.out.size).mono ?_;rintro e w5 ⟨rfl,hb5,hk5⟩;have HB5:=ae hb5;have HK5:=ae hk5;clear hb5 hk5);go_roundg 0
     case measure=>omega
     case rel=>exact ⟨.inr ⟨by go_num,ae HB5.out⟩,ae (HKW.out.app HK5.out)⟩
    ·go_wp2_with (first
      | (go_at_call 151;refine (HSG.out _ HB.out HKW.out).mono ?_;rintro e w6 ⟨rfl,hk6⟩;have HK6:=ae hk6;clear hk6)
      | (go_at_call 150;refine (HTR.out _).mono ?_;rintro e w7 ⟨rfl,rfl⟩))
     go_ret;exact ⟨rfl,HK2.out.trans (HK.out.trans HK6.out)⟩
theorem yN {q:Rat} (h:q.num≠0):ag (ah q)=(decide (q.num<0),nw q.num.natAbs,nw q.den):=by
 have hv:=gL q;have hc:ah q=⟨decide (q.num<0),nw q.num.natAbs,nw q.den⟩:=by unfold ah;rw [if_neg h]
 unfold ag;rw [if_pos]
 ·rw [hc]
 ·refine ⟨hv,?_⟩;rw [hc];exact fun e=>absurd (cQ.1 e) (by omega)
theorem ia (v:Value) (q:Rat) (a b:Nat) (la lb s:List UInt8) (w:World) (hv:RatAt w v (ah q)) (hq:q.num=(a:Int)) (hd:q.den=b) (ha0:a≠0) (ha9:a<1000000000) (hb1:1<b) (hb9:b<1000000000)
  (hla:Lib.trimLeftB (ik a) 48=la) (hlb:Lib.trimLeftB (ik b) 48=lb) (hna:la≠[]) (hnb:lb≠[]) (hs:la++47 :: lb=s) :
  Calls Tryz.prog 44 #[v] w fun e w'=>e=.returned (.string ⟨s.toArray⟩)/\af w w':=by
 have hp:ag (ah q)=(false,[a],[b]):=by
  rw [yN (by rw [hq];omega),hq,hd,Int.natAbs_natCast,oF ha0 (by omega),oF (n:=b) (by omega) (by omega)];simp
 have HPA:Hid (∀ W,af w W->Calls Tryz.prog 62 #[v] W fun e w'=>(∃ u1 u2,e=.returned (.tuple #[.bool false,u1,u2])/\WdsAt w' u1 [a]/\WdsAt w' u2 [b])/\af W w'):=ae fun W hk=>by
  have hsh:(ah q).Short 1:=by
   have hc:ah q=⟨decide (q.num<0),nw q.num.natAbs,nw q.den⟩:=by unfold ah;rw [if_neg (by rw [hq];omega)]
   rw [hc,hq,hd,Int.natAbs_natCast,oF ha0 (by omega),oF (n:=b) (by omega) (by omega)];exact ⟨Nat.le_refl _,Nat.le_refl _⟩
  have h:=bH v (ah q) W (hv.kept hk) ⟨Nat.le_trans hsh.1 (by omega),Nat.le_trans hsh.2 (by omega)⟩;rw [hp] at h;exact h
 have HTA:=ae (fun W u (h:WdsAt W u [a])=>qo u [a] a la W h (by simp [nv]) ha0 ha9 hla hna);have HTB:=ae (fun W u (h:WdsAt W u [b])=>qo u [b] b lb W h (by simp [nv]) (by omega) hb9 hlb hnb)
 have HCM:Hid (∀ W u1 u2,WdsAt W u1 [b]->WdsAt W u2 [1]->Calls Tryz.prog 69 #[u1,u2] W fun e w'=>e=.returned (.int .i64 1)/\af W w'):=ae fun W u1 u2 h1 h2=>by
  have h:=dR u1 u2 [b] [1] W h1 h2;have e1:nv [b]=b:=by simp [nv]
  have e2:nv [1]=1:=rfl;rw [e1,e2] at h;have e3:cX b 1=1:=by unfold cX;rw [if_neg (by omega),if_pos (by omega)]
  rwa [e3] at h
 have HS:Hid ((⟨la.toArray⟩:ByteArray)++((⟨#[47]⟩:ByteArray)++⟨lb.toArray⟩)=⟨s.toArray⟩):=ae (by
  apply ByteArray.ext;rw [ByteArray.data_append,ByteArray.data_append];apply Array.toList_inj.1;simp [<-hs])
 have hl9:la.length<=9:=by rw [<-hla,<-fg a];exact (List.dropWhile_sublist _).length_le
 have hl8:lb.length<=9:=by rw [<-hlb,<-fg b];exact (List.dropWhile_sublist _).length_le
 have hz1:¬ 9223372036854775807<1+lb.length:=by omega
 have hz2:¬ 9223372036854775807<la.length+(1+lb.length):=by omega
 obtain ⟨u1,u2,rfl,h1,h2⟩:=hv;obtain ⟨a1,c1,rfl⟩:=h1.shape;obtain ⟨a2,c2,rfl⟩:=h2.shape;generalize (ah q).num.length=n1 at *;generalize (ah q).den.length=n2 at *;generalize (ah q).neg=b0 at *;clear h1 h2 hp hq hd ha0 ha9 hb1 hb9 hla hlb hna hnb hs hl9 hl8;go_enter Tryz.func44,Tryz.ntmps44
 go_wp2_with (first
  | (go_at_call 62;refine (HPA.out _ ((af.refl w).alloc _)).mono ?_;rintro e w2 ⟨⟨u1,u2,rfl,hu1,hu2⟩,hk2⟩;have HU1:=ae hu1;have HU2:=ae hu2;have HK2:=ae (((af.refl w).alloc _).trans hk2);clear hu1 hu2 hk2)
  | (go_at_call 92;(with_reducible refine (HTA.out _ _ HU1.out).mono ?_);rintro e w3 ⟨rfl,hk3⟩;have HU3:=ae (HU2.out.kept hk3);have HK3:=ae (HK2.out.trans hk3);clear hk3)
  | (go_at_call 93;refine (iY _).mono ?_;rintro e w4 ⟨⟨u4,rfl,hu4⟩,hk4⟩;have HU4:=ae hu4;have HU5:=ae (HU3.out.kept hk4);have HK4:=ae (HK3.out.trans hk4);clear hu4 hk4)
  | (go_at_call 69;refine (HCM.out _ _ _ HU5.out HU4.out).mono ?_;rintro e w5 ⟨rfl,hk5⟩;have HU6:=ae (HU5.out.kept hk5);have HK5:=ae (HK4.out.trans hk5);clear hk5)
  | (go_at_call 92;refine (HTB.out _ _ HU6.out).mono ?_;rintro e w6 ⟨rfl,hk6⟩;have HK6:=ae (HK5.out.trans hk6);clear hk6))
 go_ret;exact ⟨by rw [HS.out];rfl,HK6.out⟩
theorem mq (n d:Nat) (w:World) (hn:n<9223372036854775808) (hd:d<9223372036854775808) (hd0:d≠0):Calls Tryz.prog 85 #[.int .i64 n,.int .i64 d] w fun e w'=>(∃ v',e=.returned (.tuple #[v',.nilIface])/\RatAt w' v' (ah (mkRat n d)))/\af w w':=by
 have HS1:Hid (∀ W,Calls Tryz.prog 142 #[.int .i64 n] W fun e w'=>(∃ v',e=.returned v'/\WdsAt w' v' (nw n))/\af W w'):=ae fun W=>by have h:=rF n W (by omega) (by omega);rw [Int.natAbs_natCast] at h;exact h
 have HS2:Hid (∀ W,Calls Tryz.prog 142 #[.int .i64 d] W fun e w'=>(∃ v',e=.returned v'/\WdsAt w' v' (nw d))/\af W w'):=ae fun W=>by have h:=rF d W (by omega) (by omega);rw [Int.natAbs_natCast] at h;exact h
 obtain ⟨R,hR⟩:∃ R,R=ah (mkRat n d):=⟨_,rfl⟩
 have HFO:Hid (∀ W u1 u2,WdsAt W u1 (nw n)->WdsAt W u2 (nw d)->Calls Tryz.prog 141 #[.bool false,u1,u2] W fun e w'=>(∃ v,e=.returned v/\RatAt w' v R)/\af W w'):=ae fun W u1 u2 k1 k2=>by
  have hl1:(nw n).length<=2:=aI.2 (by rw [show (4294967296:Nat)^2=18446744073709551616 by rfl];omega);have hl2:(nw d).length<=2:=aI.2 (by rw [show (4294967296:Nat)^2=18446744073709551616 by rfl];omega);have h:=dJ false u1 u2 _ _ W k1 k2 (by omega) (by omega) (by rw [ap];exact hd0);rw [ap,ap,bV _ _ _ hd0,show sg false n=(n:Int) from rfl,<-hR] at h;exact h
 rw [<-hR];generalize nw n=X at *;generalize nw d=Y at *;obtain ⟨w2,hw2⟩:∃ w2,w2=w.alloc (.cells #[.bool false,.slice none 0 0,.slice none 0 0] 29):=⟨_,rfl⟩;have HR:Hid (ai w2 w.heap.size 29 [.bool false,.slice none 0 0,.slice none 0 0]):=ae (by rw [hw2];exact ai.made w #[.bool false,.slice none 0 0,.slice none 0 0] 29);have HFX:Hid (bo w2 w.heap.size [.bool false,.slice none 0 0,.slice none 0 0]):=ae (by rw [hw2];exact bo.made w #[.bool false,.slice none 0 0,.slice none 0 0] 29);have HK0:Hid (af w w2):=ae (by rw [hw2];exact (af.refl w).alloc _);have HW2:=ae hw2;have hn0:¬ (n:Int)<0:=by omega
 have hdn:¬ (d:Int)<0:=by omega
 have hdz:((d:Int) == 0)=false:=by simp;omega
 have hdz2:¬ (d:Int)=0:=by omega
 clear hw2 hR hn hd hd0;go_enter Tryz.func85,Tryz.ntmps85;go_wp2_with fail;rw [<-HW2.out];refine (HS1.out _).mono ?_;rintro e w3 ⟨⟨v3,rfl,hv3⟩,hk3⟩;have HV3:=ae hv3;have HR3:=ae (HR.out.kept hk3);have HF3:=ae (HFX.out.kept hk3);have HK3:=ae (HK0.out.trans hk3);clear hv3 hk3;go_wp2_with fail;refine (HS2.out _).mono ?_;rintro e w4 ⟨⟨v4,rfl,hv4⟩,hk4⟩;have HV4:=ae hv4;have HV3':=ae (HV3.out.kept hk4);have HR4:=ae (HR3.out.kept hk4);have HF4:=ae (HF3.out.kept hk4);have HK4:=ae (HK3.out.trans hk4);clear hv4 hk4;go_wp2_with fail;refine (HFO.out _ _ _ HV3'.out HV4.out).mono ?_;rintro e w10 ⟨⟨v10,rfl,hv10⟩,hk10⟩;have hr10:=HR4.out.kept hk10;have HF10:=ae (HF4.out.kept hk10);have HK10:=ae (HK4.out.trans hk10);obtain ⟨u7,u8,rfl,k7,k8⟩:=hv10;obtain ⟨a7,c7,rfl⟩:=k7.shape;obtain ⟨a8,c8,rfl⟩:=k8.shape;obtain ⟨y0,y1,y2,hra⟩:=aL hr10 HF10.out k7 k8;have g0:=hr10.cell (i:=0) (by simp);have g1:=hr10.cell (i:=1) (by simp);have g2:=hr10.cell (i:=2) (by simp);have f0:=hr10.free 0;have f1:=hr10.free 1;have f2:=hr10.free 2;have HRA:=ae hra;have Y0:=ae y0;have Y1:=ae y1;have Y2:=ae y2;clear hra y0 y1 y2 k7 k8 hr10 hk10;generalize R.num.length=n7 at *;generalize R.den.length=n8 at *;go_wp2;refine bodyPost_ret (v:=.tuple #[.agg #[.bool R.neg,.slice a7 n7 c7,.slice a8 n8 c8],.nilIface]) ?_ rfl ⟨⟨_,rfl,HRA.out⟩,?_⟩
 ·simp [results,Tryz.results85,go_sem,Y0.out,Y1.out,Y2.out]
 ·exact ((HK10.out.store (by omega) _ _).store (by omega) _ _).store (by omega) _ _
def FT (L:List (Nat × Nat)) (ps:List Rw):Nat × Rat :=
 if L.any (fun c=>decide ((ps.length:Int)<=nz (c.1 ||| c.2)))=true then (11,0) else if bI ps=true then (3,0) else (0,sumWs ps L L.length)
def GD (L0:List (Int × Int)) (ps:List Rw):Nat × Rat:=if Fr L0≠0 then (Fr L0,0) else FT (L0.map EE) ps
theorem oL {q:Rat} (h0:0<=q) (h1:q<=1):du (ah q)=true:=by
 rw [oM (bD q),gL,al]
 have s1:0<=cO q:=by
  unfold cO;by_cases h:q=0
  ·rw [if_pos h];decide
  ·rw [if_neg h,if_neg (by grind)];decide
 have s2:cO (q - ((1:Int):Rat))<=0:=by
  have e:((1:Int):Rat)=1:=rfl;rw [e];unfold cO;by_cases h:q - 1=0
  ·rw [if_pos h];decide
  ·rw [if_neg h,if_pos (by grind)];decide
 rw [decide_eq_true s1,decide_eq_true s2];rfl
theorem qL {r:Rw} (hw:r.Ok) (h:du r=true):0<=aj r/\aj r<=1:=by
 rw [oM hw,Bool.and_eq_true,Bool.and_eq_true,decide_eq_true_eq,decide_eq_true_eq] at h;obtain ⟨_,h1,h2⟩:=h;have e:((1:Int):Rat)=1:=rfl;rw [e] at h2;unfold cO at h1 h2;constructor
 ·split at h1
  ·grind
  ·split at h1 <;> first | grind | omega
 ·split at h2
  ·grind
  ·split at h2 <;> first | grind | omega
theorem tC {ps:List Rw} (hok:∀ r∈ps,r.Ok) (hb:bI ps=false):∀ i,i<ps.length->0<=eP ps i/\eP ps i<=1:=fun i hi=>by
 have e:ps.getD i default=ps[i]:=by simp [List.getD_eq_getElem?_getD,hi]
 unfold eP;rw [e];refine qL (hok _ (List.getElem_mem hi)) ?_;unfold bI at hb;rw [List.any_eq_false] at hb;have:=hb ps[i] (List.getElem_mem hi);simpa using this
theorem jW {q:Rat} (h1:q.num.natAbs<4294967296) (h2:q.den<4294967296):(ah q).Short 1:=by
 unfold ah;split
 ·exact ⟨Nat.zero_le _,Nat.zero_le _⟩
 ·exact ⟨aI.2 (by simpa using h1),aI.2 (by simpa using h2)⟩
def ga:List Rw:=[ah (mkRat 1 10),ah (mkRat 1 5),ah (mkRat 1 4)]
theorem sr:∀ r∈ga,r.Short 1:=fun r hr=>by
 simp only [ga,List.mem_cons,List.not_mem_nil,or_false] at hr;rcases hr with rfl | rfl | rfl
 ·exact jW (by decide +kernel) (by decide +kernel)
 ·exact jW (by decide +kernel) (by decide +kernel)
 ·exact jW (by decide +kernel) (by decide +kernel)
theorem lZ:∀ r∈ga,r.Short 3:=fun r hr=>⟨Nat.le_trans (sr r hr).1 (by omega),Nat.le_trans (sr r hr).2 (by omega)⟩
theorem rg:bI ga=false:=by
 unfold bI;rw [List.any_eq_false];intro r hr;simp only [ga,List.mem_cons,List.not_mem_nil,or_false] at hr;rcases hr with rfl | rfl | rfl
 ·rw [oL (by decide +kernel) (by decide +kernel)];simp
 ·rw [oL (by decide +kernel) (by decide +kernel)];simp
 ·rw [oL (by decide +kernel) (by decide +kernel)];simp
set_option linter.unusedSimpArgs false in
theorem Es:cU [1,6]=0:=by
 obtain ⟨h0,h1,h2,h3,h4,h5,h6,h7⟩:=FA;simp +decide [cU,eK,Eb,aR,bl,iQ,eU,aT,gV,aS,h0,h1,h2,h3,h4,h5,h6,h7]
theorem vJ {w:World} {r1 r2 r3:Rw} {u1 v1 u2 v2 u3 v3:Value} (h1:WdsAt w u1 r1.num) (k1:WdsAt w v1 r1.den) (h2:WdsAt w u2 r2.num) (k2:WdsAt w v2 r2.den) (h3:WdsAt w u3 r3.num) (k3:WdsAt w v3 r3.den) :
  RatsAt (w.alloc (.cells #[.bool r1.neg,u1,v1,.bool r2.neg,u2,v2,.bool r3.neg,u3,v3] 29)) (.slice (some ⟨w.heap.size,0,none⟩) 3 3) [r1,r2,r3]:=by
 have hk:af w (w.alloc (.cells #[.bool r1.neg,u1,v1,.bool r2.neg,u2,v2,.bool r3.neg,u3,v3] 29)):=(af.refl _).alloc _;refine ⟨_,3,rfl,⟨by simp,fun h=>by cases h⟩,by simp,fun i hi=>?_⟩
 match i,hi with
 | 0,_ =>
  refine ⟨w.heap.size,0,u1,v1,rfl,fun j v hj=>?_,h1.kept hk,k1.kept hk⟩
  match j,hj with
  | 0,hj=>simp at hj;subst hj;simp
  | 1,hj=>simp at hj;subst hj;simp
  | 2,hj=>simp at hj;subst hj;simp
 | 1,_ =>
  refine ⟨w.heap.size,0,u2,v2,rfl,fun j v hj=>?_,h2.kept hk,k2.kept hk⟩
  match j,hj with
  | 0,hj=>simp at hj;subst hj;simp
  | 1,hj=>simp at hj;subst hj;simp
  | 2,hj=>simp at hj;subst hj;simp
 | 2,_ =>
  refine ⟨w.heap.size,0,u3,v3,rfl,fun j v hj=>?_,h3.kept hk,k3.kept hk⟩
  match j,hj with
  | 0,hj=>simp at hj;subst hj;simp
  | 1,hj=>simp at hj;subst hj;simp
  | 2,hj=>simp at hj;subst hj;simp
theorem Dh (w:World):am (w.alloc (.cells #[.int .i64 1,.int .i64 6] 3)) (.slice (some ⟨w.heap.size,0,none⟩) 2 2) [1,6] :=
 (ai.made w #[.int .i64 1,.int .i64 6] 3).ints (xs:=[1,6]) (c:=2) (by simp) (by simp)
theorem CW (xs:List Int):cU xs<=13:=by
 unfold cU;rcases xT xs with h | h | h <;> rw [h] <;> simp <;> (try split) <;> (try split) <;> omega
theorem C' (xs:List Int):(eJ xs).1<=13:=by
 unfold eJ;split
 ·exact CW xs
 ·split <;> simp
def ub (q0:Nat) (X:List Int) (V:Nat) (ps:List Rw):Nat × Rat :=
 if ps.length≠V then (11,0) else if bI ps=true then (3,0) else if q0≠0 then (q0,0) else if (eJ X).1≠0 then ((eJ X).1,0) else (0,sumWs ps (eJ X).2 (eJ X).2.length)
theorem jm {xs:List Int} (h:(eJ xs).1=0):cq (aR xs)=some (eJ xs).2:=by
 unfold eJ at h⊢;by_cases h0:cU xs=0
 ·rw [if_neg (by omega)] at h⊢;cases hc:cq (aR xs) with
  | none=>rw [hc] at h;cases h
  | some l=>rfl
 ·rw [if_pos h0] at h;exact absurd h h0
theorem aU {w:World} {g:Nat} {e:TypeId} {x y z:Value} (h:ai w g e [x,y,z]):w.cell? ⟨g,0,none⟩=some x/\w.cell? ⟨g,1,none⟩=some y/\w.cell? ⟨g,2,none⟩=some z:=by
 have h0:=h.cell (i:=0) (by simp);have h1:=h.cell (i:=1) (by simp);have h2:=h.cell (i:=2) (by simp);exact ⟨by simpa using h0,by simpa using h1,by simpa using h2⟩
theorem Ar (v pv:Value) (V T q0:Nat) (X:List Int) (ps:List Rw) (w:World) (hsv:∃ a n c,v=.slice a n c) (hq0:q0<=100)
  (hck:∀ W,af w W->Calls Tryz.prog 30 #[.agg #[.int .i64 V,v,.int .i64 T]] W fun e w'=>e=.returned .nilIface/\af W w')
  (hXb:(eJ X).1=0->∀ c∈(eJ X).2,c.1<16777216/\c.2<16777216)
  (hcu:∀ W,af w W->Calls Tryz.prog 34 #[.agg #[.int .i64 V,v,.int .i64 T]] W fun e w'=>(∃ v',e=.returned (.tuple #[v',aV q0])/\am w' v' X)/\af W w')
  (hv:RatsAt w pv ps) (hp3:∀ r∈ps,r.Short 3) (hp30:ps.length<=30) :
  Calls Tryz.prog 32 #[.agg #[.int .i64 V,v,.int .i64 T],pv] w fun e w'=>(∃ v',e=.returned (.tuple #[v',aV (ub q0 X V ps).1])/\RatAt w' v' (ah (ub q0 X V ps).2))/\af w w':=by
 have HBA:=ae (fun W (h:af w W)=>Ao pv ps W (hv.kept h) (fun r hr=>⟨Nat.le_trans (hp3 r hr).1 (by omega),Nat.le_trans (hp3 r hr).2 (by omega)⟩));have HCU:=ae hcu;have HCB:=ae (fun va W (h:am W va X)=>xQ va X W h);have hc13:=C' X;have HCH:=ae hck;obtain ⟨QQ,hQQ⟩:∃ QQ,QQ=ub q0 X V ps:=⟨_,rfl⟩;rw [<-hQQ];unfold ub at hQQ;obtain ⟨qc,hqc⟩:∃ qc,qc=(eJ X).1:=⟨_,rfl⟩;obtain ⟨out,hout⟩:∃ out,out=(eJ X).2:=⟨_,rfl⟩;rw [<-hqc,<-hout] at hQQ;rw [<-hqc,<-hout] at HCB;rw [<-hqc] at hc13;have HXB:Hid (qc=0->∀ c∈out,c.1<16777216/\c.2<16777216):=ae (by rw [hqc,hout];exact hXb)
 have HLEN:Hid (qc=0->out.length<=1024):=ae (by
  rw [hqc,hout];intro h;exact lL (jm h))
 have HPV:=ae hv;have H3:=ae hp3;have H30:=ae hp30;obtain ⟨a,n,c,rfl⟩:=hsv;obtain ⟨pa,pc,rfl⟩:=hv.shape;obtain ⟨pn,hpn⟩:∃ pn,pn=ps.length:=⟨_,rfl⟩;rw [<-hpn] at HBA hQQ HPV⊢;have HPN:=ae hpn;obtain ⟨w1,hw1⟩:∃ w1,w1=w.alloc (.cells #[.int .i64 V,.slice a n c,.int .i64 T] 41):=⟨_,rfl⟩;have HS1:Hid (w1.heap.size=w.heap.size+1):=ae (by rw [hw1];simp);have hx1:ai w1 w.heap.size 41 [.int .i64 V,.slice a n c,.int .i64 T]:=by rw [hw1];exact ai.made w #[.int .i64 V,.slice a n c,.int .i64 T] 41
 have hk1:af w w1:=by rw [hw1];exact (af.refl _).alloc _
 obtain ⟨w2,hw2⟩:∃ w2,w2=w1.alloc (.cells #[.bool false,.slice none 0 0,.slice none 0 0] 29):=⟨_,rfl⟩;have HR2:Hid (ai w2 w1.heap.size 29 [.bool false,.slice none 0 0,.slice none 0 0]):=ae (by rw [hw2];exact ai.made w1 #[.bool false,.slice none 0 0,.slice none 0 0] 29);have HF2:Hid (bo w2 w1.heap.size [.bool false,.slice none 0 0,.slice none 0 0]):=ae (by rw [hw2];exact bo.made w1 #[.bool false,.slice none 0 0,.slice none 0 0] 29);have hk2:af w1 w2:=by rw [hw2];exact (af.refl _).alloc _
 have HX2:=ae (hx1.kept hk2);have HK2:=ae (hk1.trans hk2);have HW1:=ae hw1;have HW2:=ae hw2;have HQQ:=ae hQQ;clear hv hp3 hp30 hcu hw1 hw2 hx1 hk1 hk2 hpn hqc hout hQQ hck hXb;by_cases hpv:pn=V
 ·subst hpv;cases hbad:bI ps with
  | true =>
   have HQV:Hid (QQ.1=3/\QQ.2=0):=ae (by rw [HQQ.out,if_neg (by simp),if_pos hbad];exact ⟨rfl,rfl⟩);rw [hbad] at HBA;clear hbad;go_enter Tryz.func32,Tryz.ntmps32;go_wp2_with fail;rw [<-HW1.out,<-HS1.out,<-HW2.out];refine (HCH.out _ HK2.out).mono ?_;rintro e w3 ⟨rfl,hk3⟩;have HR3:=ae (HR2.out.kept hk3);have HF3:=ae (HF2.out.kept hk3);have HX3:=ae (HX2.out.kept hk3);have HK3:=ae (HK2.out.trans hk3);obtain ⟨c0,c1,c2⟩:=aU HX3.out;clear hk3;go_wp2_with fail;refine (HBA.out _ HK3.out).mono ?_;rintro e w4 ⟨rfl,hk4⟩;have HR4:=ae (HR3.out.kept hk4);have HF4:=ae (HF3.out.kept hk4);have HX4:=ae (HX3.out.kept hk4);have HK4:=ae (HK3.out.trans hk4);obtain ⟨c0,c1,c2⟩:=aU HX4.out;clear hk4;have hr5:=HR4.out;obtain ⟨y0,y1,y2,hra⟩:=aL (r:=⟨false,[],[]⟩) hr5 HF4.out (WdsAt.nil _) (WdsAt.nil _);have Y:=ae (And.intro y0 (And.intro y1 y2));have HRA:=ae hra;have g0:=hr5.cell (i:=0) (by simp);have g1:=hr5.cell (i:=1) (by simp);have g2:=hr5.cell (i:=2) (by simp);have f0:=hr5.free 0;have f1:=hr5.free 1;have f2:=hr5.free 2;have hlt5:=hr5.lt;have HL5:Hid (w.heap.size<=w1.heap.size):=ae (by have:=HS1.out;omega);clear hr5 y0 y1 y2 hra;go_wp2;refine bodyPost_ret (v:=.tuple #[.agg #[.bool false,.slice none 0 0,.slice none 0 0],aV 3]) ?_ rfl ⟨⟨_,by rw [HQV.out.1],by rw [HQV.out.2,jj];exact HRA.out⟩,?_⟩
   ·simp [results,Tryz.results32,go_sem,Y.out.1,Y.out.2.1,Y.out.2.2,aV]
   ·exact ((HK4.out.store HL5.out _ _).store HL5.out _ _).store HL5.out _ _
  | false =>
   rw [hbad] at HBA;by_cases hq:q0=0
   ·subst hq;by_cases hc0:qc=0
    ·subst hc0;have HQV:Hid (QQ.1=0/\QQ.2=sumWs ps out out.length):=ae (by rw [HQQ.out,if_neg (by simp),if_neg (by rw [hbad];simp),if_neg (by simp),if_neg (by simp)];exact ⟨rfl,rfl⟩);have HOL:=ae (HLEN.out rfl);clear hbad;rw [aH] at HCU HCB;go_enter Tryz.func32,Tryz.ntmps32;go_wp2_with fail;rw [<-HW1.out,<-HS1.out,<-HW2.out];refine (HCH.out _ HK2.out).mono ?_;rintro e w3 ⟨rfl,hk3⟩;have HR3:=ae (HR2.out.kept hk3);have HF3:=ae (HF2.out.kept hk3);have HX3:=ae (HX2.out.kept hk3);have HK3:=ae (HK2.out.trans hk3);obtain ⟨c0,c1,c2⟩:=aU HX3.out;clear hk3;go_wp2_with fail;refine (HBA.out _ HK3.out).mono ?_;rintro e w4 ⟨rfl,hk4⟩;have HR4:=ae (HR3.out.kept hk4);have HF4:=ae (HF3.out.kept hk4);have HX4:=ae (HX3.out.kept hk4);have HK4:=ae (HK3.out.trans hk4);obtain ⟨c0,c1,c2⟩:=aU HX4.out;clear hk4;go_wp2_with fail;refine (HCU.out _ HK4.out).mono ?_;rintro e w5 ⟨⟨v5,rfl,hv5⟩,hk5⟩;have HI5:=ae hv5;have HR5:=ae (HR4.out.kept hk5);have HF5:=ae (HF4.out.kept hk5);have HX5:=ae (HX4.out.kept hk5);have HK5:=ae (HK4.out.trans hk5);obtain ⟨c0,c1,c2⟩:=aU HX5.out;clear hk5;obtain ⟨a5,n5,c5,rfl⟩:=hv5.shape;clear hv5;go_wp2_with fail;refine (HCB.out _ _ HI5.out).mono ?_;rintro e w6 ⟨⟨v6,rfl,hv6⟩,hk6⟩;have HV6:=ae hv6;have HR6:=ae (HR5.out.kept hk6);have HF6:=ae (HF5.out.kept hk6)
     have HX6:=ae (HX5.out.kept hk6);have HK6:=ae (HK5.out.trans hk6);obtain ⟨c0,c1,c2⟩:=aU HX6.out;clear hk6;obtain ⟨a6,c6,rfl⟩:=hv6.shape;rw [bM] at HV6⊢;clear hv6;obtain ⟨R,hR⟩:∃ R,R=ah QQ.2:=⟨_,rfl⟩;have HRR:=ae hR;have HTO:=ae (fun W (h:af w6 W)=>uH _ _ out ps W (HV6.out.kept h) (HXB.out (by simp)) HOL.out (HPV.out.kept (HK6.out.trans h)) H3.out H30.out);rw [<-HQV.out.2,<-hR] at HTO;clear hR;go_wp2_with fail;refine (HTO.out _ (af.refl _)).mono ?_;rintro e w7 ⟨⟨v7,rfl,hv7⟩,hk7⟩;have hrr:=HR6.out.kept hk7;have Hdisjoint.Top:=ae (HF6.out.kept hk7);have HK7:=ae (HK6.out.trans hk7);obtain ⟨u7,u8,rfl,k7,k8⟩:=hv7;obtain ⟨a7,c7,rfl⟩:=k7.shape;obtain ⟨a8,c8,rfl⟩:=k8.shape;obtain ⟨y0,y1,y2,hra⟩:=aL hrr Hdisjoint.Top.out k7 k8;have g0:=hrr.cell (i:=0) (by simp);have g1:=hrr.cell (i:=1) (by simp);have g2:=hrr.cell (i:=2) (by simp);have f0:=hrr.free 0;have f1:=hrr.free 1;have f2:=hrr.free 2;have hlt5:=hrr.lt;have HRA:=ae hra;have Y:=ae (And.intro y0 (And.intro y1 y2));have HL5:Hid (w.heap.size<=w1.heap.size):=ae (by have:=HS1.out;omega);clear hra y0 y1 y2 k7 k8 hrr hk7;generalize R.num.length=n7 at *;generalize R.den.length=n8 at *;go_wp2;refine bodyPost_ret (v:=.tuple #[.agg #[.bool R.neg,.slice a7 n7 c7,.slice a8 n8 c8],.nilIface]) ?_ rfl ⟨⟨_,by rw [HQV.out.1];rfl,by rw [<-HRR.out];exact HRA.out⟩,?_⟩
     ·simp [results,Tryz.results32,go_sem,Y.out.1,Y.out.2.1,Y.out.2.2]
     ·exact ((HK7.out.store HL5.out _ _).store HL5.out _ _).store HL5.out _ _
    ·have HQV:Hid (QQ.1=qc/\QQ.2=0):=ae (by rw [HQQ.out,if_neg (by simp),if_neg (by rw [hbad];simp),if_neg (by simp),if_pos hc0];exact ⟨rfl,rfl⟩);clear hbad;rw [aA hc0] at HCB;rw [aH] at HCU;go_enter Tryz.func32,Tryz.ntmps32;go_wp2_with fail;rw [<-HW1.out,<-HS1.out,<-HW2.out];refine (HCH.out _ HK2.out).mono ?_;rintro e w3 ⟨rfl,hk3⟩;have HR3:=ae (HR2.out.kept hk3);have HF3:=ae (HF2.out.kept hk3);have HX3:=ae (HX2.out.kept hk3);have HK3:=ae (HK2.out.trans hk3);obtain ⟨c0,c1,c2⟩:=aU HX3.out;clear hk3;go_wp2_with fail;refine (HBA.out _ HK3.out).mono ?_;rintro e w4 ⟨rfl,hk4⟩;have HR4:=ae (HR3.out.kept hk4);have HF4:=ae (HF3.out.kept hk4);have HX4:=ae (HX3.out.kept hk4);have HK4:=ae (HK3.out.trans hk4);obtain ⟨c0,c1,c2⟩:=aU HX4.out;clear hk4;go_wp2_with fail;refine (HCU.out _ HK4.out).mono ?_;rintro e w5 ⟨⟨v5,rfl,hv5⟩,hk5⟩;have HI5:=ae hv5;have HR5:=ae (HR4.out.kept hk5);have HF5:=ae (HF4.out.kept hk5);have HX5:=ae (HX4.out.kept hk5);have HK5:=ae (HK4.out.trans hk5);obtain ⟨c0,c1,c2⟩:=aU HX5.out;clear hk5;obtain ⟨a5,n5,c5,rfl⟩:=hv5.shape;clear hv5;go_wp2_with fail;refine (HCB.out _ _ HI5.out).mono ?_;rintro e w6 ⟨⟨v6,rfl,hv6⟩,hk6⟩;have HR6:=ae (HR5.out.kept hk6);have HF6:=ae (HF5.out.kept hk6);have HX6:=ae (HX5.out.kept hk6);have HK6:=ae (HK5.out.trans hk6)
     obtain ⟨c0,c1,c2⟩:=aU HX6.out;clear hk6;obtain ⟨a6,c6,rfl⟩:=hv6.shape;clear hv6;have hr5:=HR6.out;obtain ⟨y0,y1,y2,hra⟩:=aL (r:=⟨false,[],[]⟩) hr5 HF6.out (WdsAt.nil _) (WdsAt.nil _);have Y:=ae (And.intro y0 (And.intro y1 y2));have HRA:=ae hra;have g0:=hr5.cell (i:=0) (by simp);have g1:=hr5.cell (i:=1) (by simp);have g2:=hr5.cell (i:=2) (by simp);have f0:=hr5.free 0;have f1:=hr5.free 1;have f2:=hr5.free 2;have hlt5:=hr5.lt;have HL5:Hid (w.heap.size<=w1.heap.size):=ae (by have:=HS1.out;omega);clear hr5 y0 y1 y2 hra;go_wp2;refine bodyPost_ret (v:=.tuple #[.agg #[.bool false,.slice none 0 0,.slice none 0 0],.iface 60 (.int .i64 qc)]) ?_ rfl ⟨⟨_,by rw [HQV.out.1];rw [aA hc0],by rw [HQV.out.2,jj];exact HRA.out⟩,?_⟩
     ·simp [results,Tryz.results32,go_sem,Y.out.1,Y.out.2.1,Y.out.2.2]
     ·exact ((HK6.out.store HL5.out _ _).store HL5.out _ _).store HL5.out _ _
   ·have HQV:Hid (QQ.1=q0/\QQ.2=0):=ae (by rw [HQQ.out,if_neg (by simp),if_neg (by rw [hbad];simp),if_pos hq];exact ⟨rfl,rfl⟩);clear hbad;rw [aA hq] at HCU;go_enter Tryz.func32,Tryz.ntmps32;go_wp2_with fail;rw [<-HW1.out,<-HS1.out,<-HW2.out];refine (HCH.out _ HK2.out).mono ?_;rintro e w3 ⟨rfl,hk3⟩;have HR3:=ae (HR2.out.kept hk3);have HF3:=ae (HF2.out.kept hk3);have HX3:=ae (HX2.out.kept hk3);have HK3:=ae (HK2.out.trans hk3);obtain ⟨c0,c1,c2⟩:=aU HX3.out;clear hk3;go_wp2_with fail;refine (HBA.out _ HK3.out).mono ?_;rintro e w4 ⟨rfl,hk4⟩;have HR4:=ae (HR3.out.kept hk4);have HF4:=ae (HF3.out.kept hk4);have HX4:=ae (HX3.out.kept hk4);have HK4:=ae (HK3.out.trans hk4);obtain ⟨c0,c1,c2⟩:=aU HX4.out;clear hk4;go_wp2_with fail;refine (HCU.out _ HK4.out).mono ?_;rintro e w5 ⟨⟨v5,rfl,hv5⟩,hk5⟩;have HR5:=ae (HR4.out.kept hk5);have HF5:=ae (HF4.out.kept hk5);have HX5:=ae (HX4.out.kept hk5);have HK5:=ae (HK4.out.trans hk5);obtain ⟨c0,c1,c2⟩:=aU HX5.out;clear hk5;obtain ⟨a5,n5,c5,rfl⟩:=hv5.shape;clear hv5;have hr5:=HR5.out;obtain ⟨y0,y1,y2,hra⟩:=aL (r:=⟨false,[],[]⟩) hr5 HF5.out (WdsAt.nil _) (WdsAt.nil _);have Y:=ae (And.intro y0 (And.intro y1 y2));have HRA:=ae hra;have g0:=hr5.cell (i:=0) (by simp);have g1:=hr5.cell (i:=1) (by simp);have g2:=hr5.cell (i:=2) (by simp)
    have f0:=hr5.free 0;have f1:=hr5.free 1;have f2:=hr5.free 2;have hlt5:=hr5.lt;have HL5:Hid (w.heap.size<=w1.heap.size):=ae (by have:=HS1.out;omega);clear hr5 y0 y1 y2 hra;go_wp2;refine bodyPost_ret (v:=.tuple #[.agg #[.bool false,.slice none 0 0,.slice none 0 0],.iface 60 (.int .i64 q0)]) ?_ rfl ⟨⟨_,by rw [HQV.out.1];rw [aA hq],by rw [HQV.out.2,jj];exact HRA.out⟩,?_⟩
    ·simp [results,Tryz.results32,go_sem,Y.out.1,Y.out.2.1,Y.out.2.2]
    ·exact ((HK5.out.store HL5.out _ _).store HL5.out _ _).store HL5.out _ _
 ·have HQV:Hid (QQ.1=11/\QQ.2=0):=ae (by rw [HQQ.out,if_pos hpv];exact ⟨rfl,rfl⟩);have hne:((pn:Int) != (V:Int))=true:=by simp;omega
  have hne2:¬ (pn:Int)=(V:Int):=by omega
  go_enter Tryz.func32,Tryz.ntmps32;go_wp2_with fail;rw [<-HW1.out,<-HS1.out,<-HW2.out];refine (HCH.out _ HK2.out).mono ?_;rintro e w3 ⟨rfl,hk3⟩;have HR3:=ae (HR2.out.kept hk3);have HF3:=ae (HF2.out.kept hk3);have HX3:=ae (HX2.out.kept hk3);have HK3:=ae (HK2.out.trans hk3);obtain ⟨c0,c1,c2⟩:=aU HX3.out;clear hk3;have hr5:=HR3.out;obtain ⟨y0,y1,y2,hra⟩:=aL (r:=⟨false,[],[]⟩) hr5 HF3.out (WdsAt.nil _) (WdsAt.nil _);have Y:=ae (And.intro y0 (And.intro y1 y2));have HRA:=ae hra;have g0:=hr5.cell (i:=0) (by simp);have g1:=hr5.cell (i:=1) (by simp);have g2:=hr5.cell (i:=2) (by simp);have f0:=hr5.free 0;have f1:=hr5.free 1;have f2:=hr5.free 2;have hlt5:=hr5.lt;have HL5:Hid (w.heap.size<=w1.heap.size):=ae (by have:=HS1.out;omega);clear hr5 y0 y1 y2 hra;go_wp2;refine bodyPost_ret (v:=.tuple #[.agg #[.bool false,.slice none 0 0,.slice none 0 0],aV 11]) ?_ rfl ⟨⟨_,by rw [HQV.out.1],by rw [HQV.out.2,jj];exact HRA.out⟩,?_⟩
  ·simp [results,Tryz.results32,go_sem,Y.out.1,Y.out.2.1,Y.out.2.2,aV]
  ·exact ((HK3.out.store HL5.out _ _).store HL5.out _ _).store HL5.out _ _
section
open Go.RowKit Go.ChangeShapes Go.WideShapes Go.ChangeAt Go.Joins Go.Deep
theorem lB (V s t:Nat) (nodes:List Nd) (h:∀ i,i<V->s.testBit i=t.testBit i):∀ k,bw V s nodes k=bw V t nodes k:=by
 intro k;induction k with
 | zero=>unfold bw;exact List.map_congr_left fun i hi=>h i (by simpa using hi)
 | succ k ih=>unfold bw;rw [ih]
end
def wI (V:Nat) (c:Nat × Nat):Prop:=(∀ j,c.1.testBit j=true->j<V)/\∀ j,c.2.testBit j=true->j<V
theorem yp {V b:Nat} {c:Nat × Nat} (hb:∀ j,b.testBit j=true->j<V) (hc:wI V c):∀ d∈cN c b,wI V d:=by
 have hel:∀ {i x:Nat},i∈jZ x->x.testBit i=true:=fun {i x} h=>(List.mem_filter.1 h).2
 intro d hd;unfold cN at hd;split at hd
 ·rw [List.mem_singleton] at hd;rw [hd];exact hc
 ·have hlow:∀ i∈jZ (aM b c.1),i<V:=fun i hi=>by
   have:=hel hi;rw [bi,Bool.and_eq_true] at this;exact hb i this.1
  refine mc (Pr:=wI V) (ip _) (fun i hi=>?_) ?_ d hd
  ·have:=hel hi;rw [bi,Bool.and_eq_true] at this;simpa using this.2
  ·intro y' i hi h4 _ _;refine ⟨fun j hj=>?_,fun j hj=>?_⟩
   ·rcases h4 j hj with h | h
    ·exact hc.1 j h
    ·exact hlow j h
   ·replace hj:(c.2 ||| 2^i).testBit j=true:=hj;rw [Nat.testBit_or,Nat.testBit_two_pow,Bool.or_eq_true,decide_eq_true_eq] at hj;rcases hj with h | rfl
    ·exact hc.2 j h
    ·exact hlow i hi
theorem gy {V x:Nat} (h:x<2^V):∀ j,x.testBit j=true->j<V:=fun j hj=>by
 have h1:=Nat.ge_two_pow_of_testBit hj;exact (Nat.pow_lt_pow_iff_right (by omega:1<2)).1 (Nat.lt_of_le_of_lt h1 h)
theorem nB (r V:Nat):subN (r % 2^V) r=true:=aw.2 fun i hi=>by
 rw [Nat.testBit_mod_two_pow] at hi;simp at hi;exact hi.2
theorem dK {V T:Nat} {f:Fm} (hok:Ok f V T) (hs:cC V T f=true) {p:List Nat × List Nat} (h:dx V T f.nodes=some p):∀ r∈p.1,r<2^V:=by
 obtain ⟨h1,_,h3⟩:=dt hok hs h;intro r hr;have hv:=(h3 r).1 ⟨r,hr,dr r⟩;have he:eQ V (r % 2^V) f.nodes=eQ V r f.nodes:=lB V _ _ f.nodes (fun i hi=>by rw [Nat.testBit_mod_two_pow];simp [hi]) _;rw [<-he] at hv;obtain ⟨t,ht,hsub⟩:=(h3 _).2 hv
 have htr:t=r:=by
  have hr2:=hr;rw [<-h1.1] at hr2;exact ((bX p.1 r).1 hr2).2 t ht (e_ hsub (nB r V))
 subst htr;have:=gH hsub (nB t V);rw [this];exact Nat.mod_lt _ (Nat.two_pow_pos V)
theorem uG (v:Value) (f:Fm) (V T:Nat) (hok:Ok f V T) (hck:di f=0) (hs:∃ a n c,v=.slice a n c) :
  (∃ q,((q=4/\cC V T f=true/\dx V T f.nodes=none)\/(q=7/\cC V T f=false))/\∀ W,aG W v f.nodes ->
   (Calls Tryz.prog 34 #[.agg #[.int .i64 V,v,.int .i64 T]] W fun e w'=>e=.returned (.tuple #[.slice none 0 0,aV q])/\af W w')) ∨
  (∃ p,dx V T f.nodes=some p/\cC V T f=true/\∀ W,aG W v f.nodes ->
   (Calls Tryz.prog 34 #[.agg #[.int .i64 V,v,.int .i64 T]] W fun e w'=>(∃ v',e=.returned (.tuple #[v',.nilIface])/\am w' v' (aO p.1))/\af W w')):=by
 have hfm:jo v f=.agg #[.int .i64 V,v,.int .i64 T]:=by unfold jo;rw [hok.vars,hok.top]
 cases hsy:cC V T f with
 | false =>
  have h7:∀ W,aG W v f.nodes->Calls Tryz.prog 77 #[jo v f] W fun e w'=>e=.returned (.tuple #[.slice none 0 0,.slice none 0 0,aV 7])/\af W w':=fun W hW=>by
   rw [hfm]
   exact qE v V T W hs fun W' hk=>by
    have:=jw v f V T W' (hW.kept hk) hok hck;rw [hsy] at this;exact this
  refine .inl ⟨7,.inr ⟨rfl,rfl⟩,fun W hW=>?_⟩;have h1:=jy v f 7 (by omega) W hs (fun W' hk=>h7 W' (hW.kept hk));rw [hfm] at h1;exact h1
 | true =>
  cases hl:dx V T f.nodes with
  | none =>
   have h4:∀ W,aG W v f.nodes->Calls Tryz.prog 77 #[jo v f] W fun e w'=>e=.returned (.tuple #[.slice none 0 0,.slice none 0 0,aV 4])/\af W w':=fun W hW=>by
    have:=rG v f V T W hW hok hck hsy;rw [hl,<-hfm] at this;exact this
   refine .inl ⟨4,.inl ⟨rfl,rfl,rfl⟩,fun W hW=>?_⟩;have h1:=jy v f 4 (by omega) W hs (fun W' hk=>h4 W' (hW.kept hk));rw [hfm] at h1;exact h1
  | some p =>
   obtain ⟨hg,hm,_⟩:=dt hok hsy hl
   have h0:∀ W,aG W v f.nodes->Calls Tryz.prog 77 #[.agg #[.int .i64 V,v,.int .i64 T]] W fun e w'=>qQ w' e p/\af W w':=fun W hW=>by
    have:=rG v f V T W hW hok hck hsy;rw [hl] at this;exact this
   exact .inr ⟨p,rfl,rfl,fun W hW=>(tY v V T p W hg hm hs fun W' hk=>h0 W' (hW.kept hk)).mono fun _ _ ⟨⟨v',h1,h3⟩,h4⟩=>⟨⟨v',h1,h3.1.ints⟩,h4⟩⟩
theorem cP (l:List Nat):aR (aO l)=l:=by
 unfold aR aO;rw [List.map_map];exact (List.map_congr_left fun c _=>rfl).trans (List.map_id l)
theorem pR {l:List Nat} (hg:Good l) (hm:∀ r∈l,Mk r):cU (aO l)=0:=by
 have hs:bl l=l:=(lw l l (by have h:=hg.1;unfold CJ at h;rw [<-h];exact fh l) fun _=>Iff.rfl).symm
 have he:eK (aO l)=0:=by
  unfold eK
  rw [if_neg (by have:=hg.2;simp [aO];omega),if_pos (nD.2 fun x hx=>by
   unfold aO at hx;obtain ⟨n,hn,rfl⟩:=List.mem_map.1 hx;have:=hm n hn;unfold Mk at this;show 0<=(n:Int)/\(n:Int)<=16777215;omega)]
 unfold cU;rw [if_neg (by omega),cP,if_neg (by rw [hs];simp),if_neg (by have h:=hg.1;unfold CJ at h;rw [h];simp)]
theorem DJ (v pv:Value) (f:Fm) (V T:Nat) (ps:List Rw) (w:World) (hv:aG w v f.nodes) (hok:Ok f V T) (hck:di f=0) (ht:f.top<=9223372036854775807) (hp:RatsAt w pv ps) (hp3:∀ r∈ps,r.Short 3) (hp30:ps.length<=30) (hlen:ps.length=V) :
  ∃ (Q:Nat) (R:Rat),((Q=4\/Q=7\/(Q=3/\bI ps=true))\/(Q=0/\bI ps=false/\∃ p out,cC V T f=true/\dx V T f.nodes=some p/\cq p.1=some out/\R=sumWs ps out out.length))/\∀ W,af w W ->
   Calls Tryz.prog 32 #[.agg #[.int .i64 V,v,.int .i64 T],pv] W fun e w'=>(∃ v',e=.returned (.tuple #[v',aV Q])/\RatAt w' v' (ah R))/\af W w':=by
 have hs:∃ a n c,v=.slice a n c:=by obtain ⟨a,c,h,_⟩:=hv;exact ⟨a,_,c,h⟩
 have hfm:jo v f=.agg #[.int .i64 V,v,.int .i64 T]:=by unfold jo;rw [hok.vars,hok.top]
 have hc:∀ W,af w W->Calls Tryz.prog 30 #[.agg #[.int .i64 V,v,.int .i64 T]] W fun e w'=>e=.returned .nilIface/\af W w':=fun W hk=>by
  have h:=dE v f W (hv.kept hk) ht;rw [hck,aH,hfm] at h;exact h
 have go:∀ (q0:Nat) (X:List Int),q0<=100->((eJ X).1=0->∀ c∈(eJ X).2,c.1<16777216/\c.2<16777216) ->
   (∀ W,af w W->Calls Tryz.prog 34 #[.agg #[.int .i64 V,v,.int .i64 T]] W fun e w'=>(∃ v',e=.returned (.tuple #[v',aV q0])/\am w' v' X)/\af W w') ->
   ∀ W,af w W->Calls Tryz.prog 32 #[.agg #[.int .i64 V,v,.int .i64 T],pv] W fun e w'=>(∃ v',e=.returned (.tuple #[v',aV (ub q0 X V ps).1])/\RatAt w' v' (ah (ub q0 X V ps).2))/\af W w':=by
  intro q0 X hq hX hA W hk;exact Ar v pv V T q0 X ps W hs hq (fun W' hk'=>hc W' (hk.trans hk')) hX (fun W' hk'=>hA W' (hk.trans hk')) (hp.kept hk) hp3 hp30
 rcases uG v f V T hok hck hs with ⟨q,hq,hfc⟩ | ⟨p,hl,hsy,hfc⟩
 ·have hq0:q≠0/\q<=100:=by rcases hq with ⟨rfl,_⟩ | ⟨rfl,_⟩ <;> exact ⟨by omega,by omega⟩
  refine ⟨_,_,.inl ?_,go q [] hq0.2 (fun h c hc=>?_) (fun W hk=>(hfc W (hv.kept hk)).mono fun _ w' ⟨h1,h2⟩=>⟨⟨_,h1,am.nil w'⟩,h2⟩)⟩
  ·unfold ub;rw [if_neg (by omega)];cases hb:bI ps with
   | true=>rw [if_pos rfl];exact .inr (.inr ⟨rfl,rfl⟩)
   | false =>
    rw [if_neg (by simp),if_pos hq0.1];rcases hq with ⟨rfl,_⟩ | ⟨rfl,_⟩
    ·exact .inl rfl
    ·exact .inr (.inl rfl)
  ·have h3:=nW (L:=aR []) (by intro b hb;cases hb) (jm h) c hc;exact ⟨h3.1,h3.2.1⟩
 ·obtain ⟨hg,hm,_⟩:=dt hok hsy hl;have hb24:∀ b∈p.1,b<16777216:=fun b hb=>by have:=hm b hb;unfold Mk at this;omega
  have hck4:cU (aO p.1)=0:=pR hg hm;refine ⟨_,_,?_,go 0 (aO p.1) (by omega) (fun h c hc=>?_) (fun W hk=>by rw [aH];exact hfc W (hv.kept hk))⟩
  ·unfold ub;rw [if_neg (by omega)];cases hb:bI ps with
   | true=>rw [if_pos rfl];exact .inl (.inr (.inr ⟨rfl,rfl⟩))
   | false =>
    rw [if_neg (by simp),if_neg (by simp)];by_cases h0:(eJ (aO p.1)).1=0
    ·rw [if_neg (by omega)];have h2:=jm h0;rw [cP] at h2;exact .inr ⟨rfl,rfl,p,_,hsy,hl,h2,rfl⟩
    ·rw [if_pos h0];refine .inl (.inl ?_);unfold eJ at h0⊢;rw [if_neg (by omega)] at h0⊢;cases hcu:cq (aR (aO p.1)) with
     | none=>rfl
     | some l=>rw [hcu] at h0;exact absurd rfl h0
  ·have h2:=jm h;rw [cP] at h2;have h3:=nW hb24 h2 c hc;exact ⟨h3.1,h3.2.1⟩
def GL (ps:List Rw) (V T:Nat) (f:Fm) (k:Nat):Rat:=Ck (fun s=>if (eQ V s f.nodes).getD T false=true then Gl (eP ps) s V else 0) k
theorem Eu (l:List Nat) (s:Nat):covB l s=true ↔ up l s:=by
 unfold covB up;rw [List.any_eq_true]
def bE (n:Nat) (F:Nat->Rat):Prop:=∀ s t,s<2^n->t<2^n->subN s t=true->F s<=F t
theorem tV {n s t:Nat} (hs:s<2^n) (ht:t<2^n) (h:subN s t=true):subN s (t+2^n)=true/\subN (s+2^n) (t+2^n)=true:=by
 have h1:=aw.1 h;have hh:∀ {x i:Nat},x<2^n->n<=i->x.testBit i=false:=fun hx hi=>Nat.testBit_lt_two_pow (Nat.lt_of_lt_of_le hx (Nat.pow_le_pow_right (by omega) hi))
 have key:∀ x i,x<2^n->((x+2^n).testBit i=true ↔ x.testBit i=true\/i=n):=by
  intro x i hx;obtain ⟨b1,b2,b3⟩:=nQ hx;rcases Nat.lt_trichotomy i n with hi | hi | hi
  ·rw [b3 i hi];constructor
   ·exact .inl
   ·rintro (h | h)
    ·exact h
    ·omega
  ·subst hi;simp [b1]
  ·have:x+2^n<2^i:=by
    have:2^(n+1)<=2^i:=Nat.pow_le_pow_right (by omega) hi
    rw [Nat.pow_succ] at this;omega
   rw [Nat.testBit_lt_two_pow this,hh hx (by omega)];simp;omega
 constructor
 ·refine aw.2 fun i hi=>(key t i ht).2 (.inl (h1 i hi))
 ·refine aw.2 fun i hi=>(key t i ht).2 ?_
  rcases (key s i hs).1 hi with h | h
  ·exact .inl (h1 i h)
  ·exact .inr h
theorem bE.low {n:Nat} {F:Nat->Rat} (h:bE (n+1) F):bE n F:=fun s t hs ht hst=>h s t (by rw [Nat.pow_succ];omega) (by rw [Nat.pow_succ];omega) hst
theorem bE.high {n:Nat} {F:Nat->Rat} (h:bE (n+1) F):bE n (fun s=>F (s+2^n)):=fun s t hs ht hst=>h _ _ (by rw [Nat.pow_succ];omega) (by rw [Nat.pow_succ];omega) (tV hs ht hst).2
theorem bE.up {n:Nat} {F:Nat->Rat} (h:bE (n+1) F):∀ s,s<2^n->F s<=F (s+2^n):=fun s hs=>h _ _ (by rw [Nat.pow_succ];omega) (by rw [Nat.pow_succ];omega) (tV hs hs ((aw.2 fun _ h=>h))).1
theorem wJ {q:Nat->Rat}:∀ {n:Nat} {F G:Nat->Rat},(∀ i,i<n->0<=q i/\q i<=1)->bE n F->bE n G->EX q n F*EX q n G<=EX q n (fun s=>F s*G s):=by
 intro n;induction n with
 | zero=>intro F G _ _ _;exact Rat.le_refl
 | succ n ih =>
  intro F G hq hF hG;have hq':∀ i,i<n->0<=q i/\q i<=1:=fun i hi=>hq i (by omega)
  obtain ⟨q0,q1⟩:=hq n (by omega);have q2:=(Rat.le_iff_sub_nonneg _ _).1 q1;have a0:=ih hq' hF.low hG.low;have a1:=ih hq' hF.high hG.high;have f:=jd hq' hF.up;have g:=jd hq' hG.up;rw [EX,EX,EX];have h1:=Rat.mul_le_mul_of_nonneg_left a1 q0;have h0:=Rat.mul_le_mul_of_nonneg_left a0 q2
  have hp:0<=(q n*(1 - q n))*((EX q n (fun s=>F (s+2^n)) - EX q n F)*(EX q n (fun s=>G (s+2^n)) - EX q n G)) :=
   Rat.mul_nonneg (Rat.mul_nonneg q0 q2) (Rat.mul_nonneg ((Rat.le_iff_sub_nonneg _ _).1 f) ((Rat.le_iff_sub_nonneg _ _).1 g))
  generalize EX q n (fun s=>F (s+2^n))=F1 at *;generalize EX q n (fun s=>G (s+2^n))=G1 at *;generalize EX q n (fun s=>F (s+2^n)*G (s+2^n))=H1 at *;generalize EX q n (fun s=>F s*G s)=H0 at *;generalize EX q n F=F0 at *;generalize EX q n G=G0 at *
  grind
theorem bE.mul {n:Nat} {F G:Nat->Rat} (hF:bE n F) (hG:bE n G) (h0:∀ s,s<2^n->0<=F s) (h1:∀ s,s<2^n->0<=G s):bE n (fun s=>F s*G s):=by
 intro s t hs ht h;exact Rat.le_trans (Rat.mul_le_mul_of_nonneg_right (hF s t hs ht h) (h1 s hs)) (Rat.mul_le_mul_of_nonneg_left (hG s t hs ht h) (h0 t ht))
def prodL {α:Type} (f:α->Rat) (l:List α):Rat:=l.foldl (fun a c=>a*f c) 1
theorem uS {α:Type} (f:α->Rat):∀ (l:List α) (a:Rat),l.foldl (fun a c=>a*f c) a=a*prodL f l:=by
 intro l;induction l with
 | nil=>intro a;exact (Rat.mul_one a).symm
 | cons c l ih =>
  intro a;unfold prodL;rw [List.foldl_cons,List.foldl_cons,ih,ih (1*f c)]
  grind
theorem bO {α:Type} (f:α->Rat) (c:α) (l:List α):prodL f (c :: l)=f c*prodL f l:=by
 show l.foldl _ _=_;rw [uS]
 grind
theorem oN {α:Type} {f:α->Rat}:∀ {l:List α},(∀ c∈l,0<=f c/\f c<=1)->0<=prodL f l/\prodL f l<=1:=by
 intro l;induction l with
 | nil=>intro _;exact ⟨by show (0:Rat)<=1;decide,Rat.le_refl⟩
 | cons c l ih =>
  intro h;obtain ⟨h0,h1⟩:=h c List.mem_cons_self;obtain ⟨g0,g1⟩:=ih fun d hd=>h d (List.mem_cons_of_mem _ hd)
  rw [bO];refine ⟨Rat.mul_nonneg h0 g0,?_⟩;have:=Rat.mul_le_mul_of_nonneg_left g1 h0;rw [Rat.mul_one] at this;exact Rat.le_trans this h1
theorem CK {α:Type} {q:Nat->Rat} {n:Nat} {f:α->Nat->Rat} (hq:∀ i,i<n->0<=q i/\q i<=1):∀ {l:List α},(∀ c∈l,bE n (f c)/\∀ s,s<2^n->0<=f c s/\f c s<=1) ->
  prodL (fun c=>EX q n (f c)) l<=EX q n (fun s=>prodL (fun c=>f c s) l)/\bE n (fun s=>prodL (fun c=>f c s) l):=by
 intro l;induction l with
 | nil =>
  intro _;refine ⟨?_,fun s t _ _ _=>Rat.le_refl⟩;show (1:Rat)<=EX q n (fun _=>1);rw [fj];exact Rat.le_refl
 | cons c l ih =>
  intro h;obtain ⟨r1,r2⟩:=ih fun d hd=>h d (List.mem_cons_of_mem _ hd)
  obtain ⟨h1,h2⟩:=h c List.mem_cons_self;have hl:∀ s,s<2^n->0<=prodL (fun c=>f c s) l:=fun s hs=>(oN fun d hd=>(h d (List.mem_cons_of_mem _ hd)).2 s hs).1
  have e:(fun s=>prodL (fun c=>f c s) (c :: l))=fun s=>f c s*prodL (fun c=>f c s) l:=by funext s;rw [bO]
  rw [e,bO];refine ⟨Rat.le_trans (Rat.mul_le_mul_of_nonneg_left r1 (np hq h2).1) (wJ hq h1 r2),h1.mul r2 (fun s hs=>(h2 s hs).1) hl⟩
def fJ (n a:Nat) (F:Nat->Rat):Prop:=∀ s t,s<2^n->t<2^n->(∀ i,a.testBit i=true->s.testBit i=t.testBit i)->F s=F t
theorem fJ.low {n a:Nat} {F:Nat->Rat} (h:fJ (n+1) a F):fJ n a F:=fun s t hs ht hst=>h s t (by rw [Nat.pow_succ];omega) (by rw [Nat.pow_succ];omega) hst
theorem fJ.high {n a:Nat} {F:Nat->Rat} (h:fJ (n+1) a F):fJ n a (fun s=>F (s+2^n)):=by
 intro s t hs ht hst;refine h _ _ (by rw [Nat.pow_succ];omega) (by rw [Nat.pow_succ];omega) fun i hi=>?_
 rw [Nat.add_comm s,Nat.add_comm t];rcases Nat.lt_trichotomy i n with h1 | h1 | h1
 ·rw [Nat.testBit_two_pow_add_gt h1,Nat.testBit_two_pow_add_gt h1];exact hst i hi
 ·subst h1;rw [Nat.testBit_two_pow_add_eq,Nat.testBit_two_pow_add_eq,hst _ hi]
 ·have h2:2^(n+1)<=2^i:=Nat.pow_le_pow_right (by omega) h1;rw [Nat.pow_succ] at h2;rw [Nat.testBit_lt_two_pow (by omega),Nat.testBit_lt_two_pow (by omega)]
theorem fJ.flat {n a:Nat} {F:Nat->Rat} (h:fJ (n+1) a F) (hn:a.testBit n=false):∀ s,s<2^n->F (s+2^n)=F s:=by
 intro s hs;refine h _ _ (by rw [Nat.pow_succ];omega) (by rw [Nat.pow_succ];omega) fun i hi=>?_
 rw [Nat.add_comm s];rcases Nat.lt_trichotomy i n with h1 | h1 | h1
 ·rw [Nat.testBit_two_pow_add_gt h1]
 ·subst h1;rw [hn] at hi;cases hi
 ·have h2:2^(n+1)<=2^i:=Nat.pow_le_pow_right (by omega) h1;rw [Nat.pow_succ] at h2;rw [Nat.testBit_lt_two_pow (by omega),Nat.testBit_lt_two_pow (by omega)]
theorem zK {q:Nat->Rat} {a b:Nat} (hab:a &&& b=0):∀ {n:Nat} {F G:Nat->Rat},fJ n a F->fJ n b G->EX q n (fun s=>F s*G s)=EX q n F*EX q n G:=by
 intro n;induction n with
 | zero=>intro F G _ _;rfl
 | succ n ih =>
  intro F G hF hG;have h0:=ih hF.low hG.low;have h1:=ih hF.high hG.high;rw [EX,EX,EX,h0,h1];cases ha:a.testBit n with
  | false =>
   rw [bA (F:=fun s=>F (s+2^n)) (G:=F) (hF.flat ha)]
   grind
  | true =>
   rw [bA (F:=fun s=>G (s+2^n)) (G:=G) (hG.flat (br.1 hab n ha))]
   grind
def FK:Nat->Nat->Nat
 | _,0=>1
 | 0,_+1=>0
 | n+1,k+1=>FK n k+FK n (k+1)
def pQ (q:Nat->Rat) (n c:Nat):Rat:=wQ q (c,0) n
def yg (q:Nat->Rat) (n:Nat):List Nat->Nat->Nat->Rat
 | _,0,c=>pQ q n c
 | [],_+1,_=>0
 | s :: l,k+1,c=>yg q n l k (c ||| s)+yg q n l (k+1) c
def Fd (l:List Nat) (ch:Nat):Nat->Nat
 | 0=>0
 | n+1=>if ch.testBit n=true then Fd l ch n ||| l.getD n 0 else Fd l ch n
def FE (q:Nat->Rat) (n:Nat) (l:List Nat) (k m:Nat):Rat:=Ck (fun ch=>if pc ch=k then pQ q n (Fd l ch l.length) else 0) m
def Gv (l:List Nat) (s:Nat):Nat:=(l.filter fun t=>subN t s).length
theorem Fz {q:Nat->Rat} {n c:Nat} (h:∀ i,c.testBit i=true->i<n):pQ q n c=EX q n (fun s=>ind (subN c s)):=by
 unfold pQ;rw [<-qP (by simp) n];refine bA fun s _=>?_
 rw [lI h (fun i hi=>by simp at hi)];unfold pE;simp
def Fq (N:Nat):Nat->Rat
 | 0=>0
 | k+1=>if (k+1) % 2=1 then Fq N k+((FK N (k+1):Nat):Rat) else Fq N k - ((FK N (k+1):Nat):Rat)
def zU (q:Nat->Rat) (n:Nat) (l:List Nat):Nat->Rat
 | 0=>0
 | k+1=>if (k+1) % 2=1 then zU q n l k+yg q n l (k+1) 0 else zU q n l k - yg q n l (k+1) 0
def gm (q:Nat->Rat) (n s:Nat):Rat:=wQ q (s,0) n
def gI (q:Nat->Rat) (n s:Nat):Rat:=wQ q (0,s) n
def k' (f:Nat->Rat) (l:List Nat):Rat:=prodL (fun s=>1 - f s) l
def sX (f:Nat->Rat) (l:List Nat):Rat:=l.foldl (fun a s=>if a<=f s then f s else a) 0
theorem zL {q:Nat->Rat} {n:Nat} {F G:Nat->Rat} (hq:∀ i,i<n->0<=q i/\q i<=1) (hF:bE n (fun s=>(-1)*F s)) (hG:bE n (fun s=>(-1)*G s)):EX q n F*EX q n G<=EX q n (fun s=>F s*G s):=by
 have h:=wJ hq hF hG;rw [nJ,nJ,bA (F:=fun s=>(-1)*F s*((-1)*G s)) (G:=fun s=>F s*G s) (fun s _=>by grind)] at h
 grind
theorem Av {n:Nat} {F G:Nat->Rat} (hF:bE n (fun s=>(-1)*F s)) (hG:bE n (fun s=>(-1)*G s)) (h0:∀ s,s<2^n->0<=F s) (h1:∀ s,s<2^n->0<=G s):bE n (fun s=>(-1)*(F s*G s)):=by
 intro s t hs ht h;have a:=hF s t hs ht h;have b:=hG s t hs ht h;have a1:F t<=F s:=by grind
 have b1:G t<=G s:=by grind
 have c:=Rat.le_trans (Rat.mul_le_mul_of_nonneg_right a1 (h1 t ht)) (Rat.mul_le_mul_of_nonneg_left b1 (h0 s hs));show (-1)*(F s*G s)<=(-1)*(F t*G t)
 grind
theorem zM {α:Type} {q:Nat->Rat} {n:Nat} {f:α->Nat->Rat} (hq:∀ i,i<n->0<=q i/\q i<=1):∀ {l:List α},(∀ c∈l,bE n (fun s=>(-1)*f c s)/\∀ s,s<2^n->0<=f c s/\f c s<=1) ->
  prodL (fun c=>EX q n (f c)) l<=EX q n (fun s=>prodL (fun c=>f c s) l)/\bE n (fun s=>(-1)*prodL (fun c=>f c s) l):=by
 intro l;induction l with
 | nil =>
  intro _;refine ⟨?_,fun s t _ _ _=>Rat.le_refl⟩;show (1:Rat)<=EX q n (fun _=>1);rw [fj];exact Rat.le_refl
 | cons c l ih =>
  intro h;obtain ⟨r1,r2⟩:=ih fun d hd=>h d (List.mem_cons_of_mem _ hd)
  obtain ⟨h1,h2⟩:=h c List.mem_cons_self;have hl:∀ s,s<2^n->0<=prodL (fun c=>f c s) l:=fun s hs=>(oN fun d hd=>(h d (List.mem_cons_of_mem _ hd)).2 s hs).1
  have e:(fun s=>prodL (fun c=>f c s) (c :: l))=fun s=>f c s*prodL (fun c=>f c s) l:=by funext s;rw [bO]
  have e2:(fun s=>(-1)*prodL (fun c=>f c s) (c :: l))=fun s=>(-1)*(f c s*prodL (fun c=>f c s) l):=by funext s;rw [bO]
  rw [e,e2,bO];exact ⟨Rat.le_trans (Rat.mul_le_mul_of_nonneg_left r1 (np hq h2).1) (zL hq h1 r2),Av h1 r2 (fun s hs=>(h2 s hs).1) hl⟩
theorem nZ {q:Nat->Rat} {n t:Nat} (h:∀ i,t.testBit i=true->i<n):gm q n t=EX q n (fun s=>ind (subN t s)):=Fz h
theorem pq {q:Nat->Rat} {n t:Nat} (h:∀ i,t.testBit i=true->i<n):gI q n t=EX q n (fun s=>ind (t &&& s == 0)):=by
 unfold gI;rw [<-qP (by simp) n];refine bA fun s _=>?_
 rw [lI (fun i hi=>by simp at hi) h];have h0:subN 0 s=true:=aw.2 fun i hi=>by simp at hi
 unfold pE;show ind (subN 0 s&&(t &&& s == 0))=_;rw [h0,Bool.true_and]
theorem gW {q:Nat->Rat} {n:Nat} {F:Nat->Rat}:1 - EX q n F=EX q n (fun s=>1 - F s):=by rw [Eh,fj]
theorem lk (p:Nat->Bool):∀ l:List Nat,prodL (fun c=>1 - ind (p c)) l=1 - ind (l.any p):=by
 intro l;induction l with
 | nil=>show (1:Rat)=1 - ind false;simp [ind];grind
 | cons c l ih =>
  rw [bO,ih,List.any_cons];unfold ind;cases p c <;> cases l.any p <;> simp <;> grind
theorem fX {α:Type} {f g:α->Rat}:∀ {l:List α},(∀ c∈l,f c=g c)->prodL f l=prodL g l:=by
 intro l;induction l with
 | nil=>intro _;rfl
 | cons c l ih=>intro h;rw [bO,bO,h c List.mem_cons_self,ih fun d hd=>h d (List.mem_cons_of_mem _ hd)]
theorem Cj {n t:Nat}:bE n (fun s=>(-1)*(1 - ind (subN t s))):=by
 intro a b _ _ h;show (-1)*(1 - ind (subN t a))<=(-1)*(1 - ind (subN t b));cases ha:subN t a with
 | false=>have:=(gr (subN t b)).1;simp only [ind,Bool.false_eq_true,if_false] at *;grind
 | true =>
  have hb:subN t b=true:=aw.2 fun i hi=>aw.1 h i (aw.1 ha i hi)
  rw [hb];exact Rat.le_refl
theorem zG {n t:Nat}:bE n (fun s=>1 - ind (t &&& s == 0)):=by
 intro a b _ _ h;show 1 - ind (t &&& a == 0)<=1 - ind (t &&& b == 0);cases hb:t &&& b == 0 with
 | false=>have:=(gr (t &&& a == 0)).1;simp only [ind,Bool.false_eq_true,if_false] at *;grind
 | true =>
  have ha:(t &&& a == 0)=true:=dg.2 fun i hi=>by
   cases hx:a.testBit i with
   | false=>rfl
   | true=>have:=aw.1 h i hx;rw [dg.1 hb i hi] at this;cases this
  rw [ha];exact Rat.le_refl
theorem oB (b:Bool):0<=1 - ind b/\1 - ind b<=1:=by
 have:=gr b;constructor <;> grind
def iP (l:List Nat) (s:Nat):Bool:=l.all fun t=>!(t &&& s == 0)
section
variable {q:Nat->Rat} {n:Nat} (hq:∀ i,i<n->0<=q i/\q i<=1) {l:List Nat} (hl:∀ t∈l,∀ i,t.testBit i=true->i<n)
include hq hl
theorem CE:EX q n (fun s=>ind (covB l s))<=1 - k' (gm q n) l:=by
 have h:=(zM (f:=fun t s=>1 - ind (subN t s)) hq (l:=l) fun c _=>⟨Cj,fun s _=>oB _⟩).1;rw [bA (F:=fun s=>prodL (fun c=>1 - ind (subN c s)) l) (G:=fun s=>1 - ind (covB l s)) (fun s _=>lk (fun c=>subN c s) l),<-gW] at h;have e:k' (gm q n) l=prodL (fun c=>EX q n (fun s=>1 - ind (subN c s))) l:=fX fun c hc=>by rw [<-gW,nZ (hl c hc)]
 rw [e]
 grind
theorem AZ:k' (gI q n) l<=EX q n (fun s=>ind (iP l s)):=by
 have h:=(CK (f:=fun t s=>1 - ind (t &&& s == 0)) hq (l:=l) fun c _=>⟨zG,fun s _=>oB _⟩).1;have e:k' (gI q n) l=prodL (fun c=>EX q n (fun s=>1 - ind (c &&& s == 0))) l:=fX fun c hc=>by rw [<-gW,pq (hl c hc)]
 rw [e];refine Rat.le_trans h ?_;rw [bA (G:=fun s=>ind (iP l s)) (fun s _=>?_)]
 ·exact Rat.le_refl
 ·rw [lk (fun c=>c &&& s == 0) l]
  have:iP l s=!(l.any fun c=>c &&& s == 0):=by unfold iP;rw [List.not_any_eq_all_not]
  rw [this];cases l.any (fun c=>c &&& s == 0) <;> simp [ind] <;> grind
end
theorem sY {f:Nat->Rat} {x:Rat}:∀ {l:List Nat} {a:Rat},a<=x->(∀ t∈l,f t<=x)->l.foldl (fun a s=>if a<=f s then f s else a) a<=x:=by
 intro l;induction l with
 | nil=>intro a h _;exact h
 | cons c l ih =>
  intro a h h1;rw [List.foldl_cons];refine ih ?_ fun t ht=>h1 t (List.mem_cons_of_mem _ ht)
  split
  ·exact h1 c List.mem_cons_self
  ·exact h
theorem AM {q:Nat->Rat} {n:Nat} (hq:∀ i,i<n->0<=q i/\q i<=1) {l:List Nat} (hl:∀ t∈l,∀ i,t.testBit i=true->i<n):sX (gm q n) l<=EX q n (fun s=>ind (covB l s)):=by
 refine sY (np hq fun s _=>gr _).1 fun t ht=>?_
 rw [nZ (hl t ht)];refine jd hq fun s _=>?_
 cases h:subN t s with
 | false=>exact (gr _).1
 | true =>
  have:covB l s=true:=List.any_eq_true.2 ⟨t,ht,h⟩
  rw [this];exact Rat.le_refl
theorem Dp {q:Nat->Rat} {n:Nat} (hq:∀ i,i<n->0<=q i/\q i<=1) {l:List Nat} (hl:∀ t∈l,∀ i,t.testBit i=true->i<n):EX q n (fun s=>ind (iP l s))<=1 - sX (gI q n) l:=by
 have h:sX (gI q n) l<=1 - EX q n (fun s=>ind (iP l s)):=by
  have hu:=np (F:=fun s=>ind (iP l s)) hq fun s _=>gr _
  refine sY (by grind) fun t ht=>?_
  rw [pq (hl t ht),gW];refine jd hq fun s _=>?_
  cases h:t &&& s == 0 with
  | false=>exact (oB _).1
  | true =>
   have:iP l s=false:=by
    unfold iP;rw [List.all_eq_false];exact ⟨t,ht,by rw [h];simp⟩
   rw [this];simp [ind];grind
 grind
def cV:List Nat->Nat->Bool
 | [],_=>true
 | t :: l,a=>(a &&& t == 0)&&cV l (a ||| t)
theorem E' (n t:Nat):fJ n t (fun s=>1 - ind (subN t s)):=by
 intro a b _ _ h
 have:subN t a=subN t b:=by
  rw [Bool.eq_iff_iff,aw,aw];exact ⟨fun h1 i hi=>(h i hi) ▸ h1 i hi,fun h1 i hi=>(h i hi).symm ▸ h1 i hi⟩
 show 1 - ind (subN t a)=1 - ind (subN t b);rw [this]
theorem DS (n t:Nat):fJ n t (fun s=>1 - ind (t &&& s == 0)):=by
 intro a b _ _ h
 have:(t &&& a == 0)=(t &&& b == 0):=by
  rw [Bool.eq_iff_iff,dg,dg];exact ⟨fun h1 i hi=>(h i hi) ▸ h1 i hi,fun h1 i hi=>(h i hi).symm ▸ h1 i hi⟩
 show 1 - ind (t &&& a == 0)=1 - ind (t &&& b == 0);rw [this]
theorem nL {q:Nat->Rat} {n:Nat} {f:Nat->Nat->Rat} (hf:∀ t,fJ n t (f t)):∀ {l:List Nat} {a:Nat},cV l a=true ->
  EX q n (fun s=>prodL (fun t=>f t s) l)=prodL (fun t=>EX q n (f t)) l/\∃ b,a &&& b=0/\fJ n b (fun s=>prodL (fun t=>f t s) l):=by
 intro l;induction l with
 | nil =>
  intro a _;refine ⟨fj,0,by simp,fun s t _ _ _=>rfl⟩
 | cons t l ih =>
  intro a h;rw [cV,Bool.and_eq_true,beq_iff_eq] at h;obtain ⟨h1,b,hb,h2⟩:=ih h.2;have ht:t &&& b=0:=br.2 fun i hi=>br.1 hb i (by rw [Nat.testBit_or,hi];simp)
  have ha:a &&& b=0:=br.2 fun i hi=>br.1 hb i (by rw [Nat.testBit_or,hi];simp)
  have e:(fun s=>prodL (fun t=>f t s) (t :: l))=fun s=>f t s*prodL (fun t=>f t s) l:=by funext s;rw [bO]
  rw [e,bO,<-h1];refine ⟨zK ht (hf t) h2,t ||| b,?_,?_⟩
  ·refine br.2 fun i hi=>?_
   rw [Nat.testBit_or,br.1 h.1 i hi,br.1 ha i hi];rfl
  ·intro x y hx hy hxy;show f t x*_=f t y*_;rw [hf t x y hx hy fun i hi=>hxy i (by rw [Nat.testBit_or,hi];rfl)];have:=h2 x y hx hy fun i hi=>hxy i (by rw [Nat.testBit_or,hi];simp)
   have this:prodL (fun t=>f t x) l=prodL (fun t=>f t y) l:=this;rw [this]
theorem uf {q:Nat->Rat} {n:Nat} {l:List Nat} (hl:∀ t∈l,∀ i,t.testBit i=true->i<n) (h:cV l 0=true):1 - k' (gm q n) l=EX q n (fun s=>ind (covB l s)):=by
 have h1:=(nL (q:=q) (f:=fun t s=>1 - ind (subN t s)) (E' n) h).1;rw [bA (F:=fun s=>prodL (fun c=>1 - ind (subN c s)) l) (G:=fun s=>1 - ind (covB l s)) (fun s _=>lk (fun c=>subN c s) l),<-gW] at h1;have e:k' (gm q n) l=prodL (fun c=>EX q n (fun s=>1 - ind (subN c s))) l:=fX fun c hc=>by rw [<-gW,nZ (hl c hc)]
 rw [e,<-h1]
 grind
theorem sO {q:Nat->Rat} {n:Nat} {l:List Nat} (hl:∀ t∈l,∀ i,t.testBit i=true->i<n) (h:cV l 0=true):k' (gI q n) l=EX q n (fun s=>ind (iP l s)):=by
 have h1:=(nL (q:=q) (f:=fun t s=>1 - ind (t &&& s == 0)) (DS n) h).1;have e:k' (gI q n) l=prodL (fun c=>EX q n (fun s=>1 - ind (c &&& s == 0))) l:=fX fun c hc=>by rw [<-gW,pq (hl c hc)]
 rw [e,<-h1];refine bA fun s _=>?_
 rw [lk (fun c=>c &&& s == 0) l]
 have:iP l s=!(l.any fun c=>c &&& s == 0):=by unfold iP;rw [List.not_any_eq_all_not]
 rw [this];cases l.any (fun c=>c &&& s == 0) <;> simp [ind] <;> grind
def F_ (n:Nat) (q q':Nat->Rat):Prop:=∀ i,i<n->0<=q i/\q i<=q' i/\q' i<=1
theorem ke (q:Nat->Rat) (n s:Nat):gm q (n+1) s=gm q n s*if s.testBit n=true then q n else 1:=by
 show (wQ q (s,0) n*if s.testBit n=true then q n else 1)*(if (0:Nat).testBit n=true then 1 - q n else 1)=_;have e:(if (0:Nat).testBit n=true then 1 - q n else 1)=(1:Rat):=by simp
 rw [e,Rat.mul_one];rfl
theorem wG (q:Nat->Rat) (n s:Nat):gI q (n+1) s=gI q n s*if s.testBit n=true then 1 - q n else 1:=by
 show (wQ q (0,s) n*if (0:Nat).testBit n=true then q n else 1)*(if s.testBit n=true then 1 - q n else 1)=_;have e:(if (0:Nat).testBit n=true then q n else 1)=(1:Rat):=by simp
 rw [e,Rat.mul_one];rfl
theorem wF (q:Nat->Rat) (s:Nat):∀ n,gI q n s=gm (fun i=>1 - q i) n s:=by
 intro n;induction n with
 | zero=>rfl
 | succ n ih=>rw [wG,ke,ih]
def gw (a b:Rat):Rat:=if b<=a then a else b
def kh (a b:Rat):Rat:=if a<=b then a else b
def Ab (q:Nat->Rat) (n:Nat) (l:List Nat):Nat->Rat
 | 0=>0
 | k+1=>if (k+1) % 2=0 then gw (Ab q n l k) (zU q n l (k+1)) else Ab q n l k
def Aa (q:Nat->Rat) (n:Nat) (l:List Nat):Nat->Rat
 | 0=>1
 | k+1=>if (k+1) % 2=0 then Aa q n l k else kh (Aa q n l k) (zU q n l (k+1))
end Go.Proofs.YtofibjflkebkpaaGreatDoor
