import Derived.WalkKit
import Derived.WalkSpells
import Derived.WalkLawsBesides
import Derived.Deep.QuietTactic
import Derived.BigQuiet
import Derived.Lib.Hide
import Derived.Shelf.Abstract
import Derived.Deep.RegionWith
import Derived.Laws.AppendOwnNone
import Derived.Lib.AppendZerosOnto
import Derived.Lib.SliceRun
import Derived.Lib.SlicesCompact
import Derived.Shelf.SlSortCmp.NoneTotal
import Derived.Maps.OwnOps
import Derived.Maps.OwnSet
import Derived.Maps.Views
import Derived.Deep.MidRow
import Derived.Deep.RegionHeld3
import Derived.Deep.AppendLies
import Derived.Deep.RegionLaw
import Derived.IntWalk
import Derived.StillTailTactics
import Derived.RegionTactic
import Derived.BigRegion
import Derived.ChangeAlike
import Derived.Sort.LotD2
import Derived.Sort.LotA
import Derived.Shelf.SlSortCmp.PdqK
import Derived.Deep.DeepCutAuto
import Derived.Lib.ItoaNum
import Derived.Deep.LoopGhost
import Derived.ProofKit
import Derived.OpenShut
import Derived.SizedLaws
import Derived.Lib.SmallJoins
import Derived.Deep.Slices
import Derived.Deep.Fields
import Derived.Deep.Strs
import Derived.Carry
import Derived.Lib.BitFns
import Derived.Deep.CutBlock
import Derived.Laws.IdiomStrings
import Derived.Test.YtofibjflkebkpaaGreatDoorEX6
import Derived.Test.YtofibjflkebkpaaGreatDoorEX7
import Derived.Test.YtofibjflkebkpaaGreatDoorEX8
import Derived.Test.YtofibjflkebkpaaGreatDoorEX2
set_option maxRecDepth 100000
set_option maxHeartbeats 16000000
namespace Go.Proofs.YtofibjflkebkpaaGreatDoor
open Go.RowKit
theorem eJ (a b:Rat):bT (a - b)<=0 ↔ a<=b:=by
 rw [vD];grind
theorem xk (a b:Rat):0<=bT (a - b) ↔ b<=a:=by
 rw [BB];grind
theorem ve (r:Rw):mkRat (sg (ah r).1 (nv (ah r).2.1)) (nv (ah r).2.2)=al r:=rfl
theorem jN (v:Value) (r:Rw) (w:World) (hv:RatAt w v r) (hs:r.Short 274877906944):Calls Tryz.prog 105 #[v] w fun e w'=>(∃ v',e=.returned v'/\RatAt w' v' (ai (al r)))/\ag w w':=by
 have HPA:=af (fun W (hk:ag w W)=>bG v r W (hv.kept hk) hs);have hok:=az hv.ok;have hsh:=aB hs (by omega);obtain ⟨R,hR⟩:∃ R,R=ai (al r):=⟨_,rfl⟩
 have HFO:Hid (∀ W u1 u2,WdsAt W u1 (ah r).2.1->WdsAt W u2 (ah r).2.2->Calls Tryz.prog 141 #[.bool (ah r).1,u1,u2] W fun e w'=>(∃ v,e=.returned v/\RatAt w' v R)/\ag W w'):=af fun W u1 u2 k1 k2=>by
  have h:=dy (ah r).1 u1 u2 _ _ W k1 k2 hsh.1 hsh.2 hok.2.2.1;rw [bJ _ _ _ hok.2.2.1,ve,<-hR] at h;exact h
 rw [<-hR];obtain ⟨u1,u2,rfl,h1,h2⟩:=hv;obtain ⟨a1,c1,rfl⟩:=h1.shape;obtain ⟨a2,c2,rfl⟩:=h2.shape;obtain ⟨w2,hw2⟩:∃ w2,w2=(w.alloc (.cells #[.bool r.neg,.slice a1 r.num.length c1,.slice a2 r.den.length c2] 29)).alloc (.cells #[.bool false,.slice none 0 0,.slice none 0 0] 29):=⟨_,rfl⟩;have HM:=af (pz w (.cells #[.bool r.neg,.slice a1 r.num.length c1,.slice a2 r.den.length c2] 29));rw [<-hw2] at HM;have HW2:=af hw2;generalize (ah r).1=s at *;generalize (ah r).2.1=N at *;generalize (ah r).2.2=D at *;generalize r.num.length=n1 at *;generalize r.den.length=n2 at *;generalize r.neg=neg at *;clear hok hsh hR h1 h2 hs hw2;go_enter Tryz.func105,Tryz.ntmps105;go_wp2_with fail;rw [<-HW2.out];refine (HPA.out _ HM.out.2.2).mono ?_;rintro e w3 ⟨⟨u3,u4,rfl,hu3,hu4⟩,hk3⟩;have H3:=af hu3;have H4:=af hu4;have HR3:=af (HM.out.1.kept hk3);have HF3:=af (HM.out.2.1.kept hk3);have HK3:=af (HM.out.2.2.trans hk3);clear hu3 hu4 hk3;go_wp2_with fail;refine (HFO.out _ _ _ H3.out H4.out).mono ?_;rintro e w4 ⟨⟨v4,rfl,hv4⟩,hk4⟩;have HV4:=af hv4;have hr4:=HR3.out.kept hk4;have HR4:=af hr4;have HF4:=af (HF3.out.kept hk4);have HK4:=af (HK3.out.trans hk4);obtain ⟨u5,u6,rfl,k5,k6⟩:=hv4;obtain ⟨a5,c5,rfl⟩:=k5.shape;obtain ⟨a6,c6,rfl⟩:=k6.shape;obtain ⟨y0,y1,y2,hra⟩:=aS hr4 HF4.out k5 k6;have g0:=hr4.cell (i:=0) (by simp)
 have g1:=hr4.cell (i:=1) (by simp);have g2:=hr4.cell (i:=2) (by simp);have f0:=hr4.free 0;have f1:=hr4.free 1;have f2:=hr4.free 2;have HRA:=af hra;have Y0:=af y0;have Y1:=af y1;have Y2:=af y2;clear hra y0 y1 y2 k5 k6 hr4 hk4;generalize R.num.length=n5 at *;generalize R.den.length=n6 at *;go_wp2;refine bodyPost_ret (v:=.agg #[.bool R.neg,.slice a5 n5 c5,.slice a6 n6 c6]) ?_ rfl ⟨⟨_,rfl,HRA.out⟩,?_⟩
 ·simp [results,Tryz.results105,go_sem,Y0.out,Y1.out,Y2.out]
 ·exact ((HK4.out.store (by omega) _ _).store (by omega) _ _).store (by omega) _ _
theorem tq (va vb:Value) (r s:Rw) (w:World) (ha:RatAt w va r) (hb:RatAt w vb s) (hr:r.Short 68719476736) (hs:s.Short 68719476736):Calls Tryz.prog 59 #[va,vb] w fun e w'=>(∃ v',e=.returned v'/\RatAt w' v' (ai (gJ (al r) (al s))))/\ag w w':=by
 have HCM:=af (fun W (hk:ag w W)=>jq va vb r s W (ha.kept hk) (hb.kept hk) hr hs);have HSA:=af (fun W (hk:ag w W)=>jN va r W (ha.kept hk) ⟨Nat.le_trans hr.1 (by omega),Nat.le_trans hr.2 (by omega)⟩);have HSB:=af (fun W (hk:ag w W)=>jN vb s W (hb.kept hk) ⟨Nat.le_trans hs.1 (by omega),Nat.le_trans hs.2 (by omega)⟩);obtain ⟨R,hR⟩:∃ R,R=ai (gJ (al r) (al s)):=⟨_,rfl⟩;rw [<-hR];have HRR:=af hR;obtain ⟨S,hS⟩:∃ S,S=bT (al r - al s):=⟨_,rfl⟩;rw [<-hS] at HCM;have HSS:=af hS;obtain ⟨u1,u2,rfl,h1,h2⟩:=ha;obtain ⟨u3,u4,rfl,h3,h4⟩:=hb;obtain ⟨a1,c1,rfl⟩:=h1.shape;obtain ⟨a2,c2,rfl⟩:=h2.shape;obtain ⟨a3,c3,rfl⟩:=h3.shape;obtain ⟨a4,c4,rfl⟩:=h4.shape;generalize r.num.length=n1 at *;generalize r.den.length=n2 at *;generalize s.num.length=n3 at *;generalize s.den.length=n4 at *;generalize r.neg=neg1 at *;generalize s.neg=neg2 at *;obtain ⟨w2,hw2⟩:∃ w2,w2=((w.alloc (.cells #[.bool neg1,.slice a1 n1 c1,.slice a2 n2 c2] 29)).alloc (.cells #[.bool neg2,.slice a3 n3 c3,.slice a4 n4 c4] 29)).alloc (.cells #[.bool false,.slice none 0 0,.slice none 0 0] 29):=⟨_,rfl⟩;have HM:=af (bC w (.cells #[.bool neg1,.slice a1 n1 c1,.slice a2 n2 c2] 29) (.cells #[.bool neg2,.slice a3 n3 c3,.slice a4 n4 c4] 29));rw [<-hw2] at HM;have ha2:=aj.made w #[.bool neg1,.slice a1 n1 c1,.slice a2 n2 c2] 29;have HA2:Hid (aj w2 w.heap.size 29 [.bool neg1,.slice a1 n1 c1,.slice a2 n2 c2]):=af (by rw [hw2];exact ha2.kept (((ag.refl _).alloc _).alloc _))
 have hb2:=aj.made (w.alloc (.cells #[.bool neg1,.slice a1 n1 c1,.slice a2 n2 c2] 29)) #[.bool neg2,.slice a3 n3 c3,.slice a4 n4 c4] 29;simp only [World.size_alloc] at hb2;have HB2:Hid (aj w2 (w.heap.size+1) 29 [.bool neg2,.slice a3 n3 c3,.slice a4 n4 c4]):=af (by rw [hw2];exact hb2.kept ((ag.refl _).alloc _));have HW2:=af hw2;have p0:=HA2.out.cell (i:=0) (by simp);have p1:=HA2.out.cell (i:=1) (by simp);have p2:=HA2.out.cell (i:=2) (by simp);have g0:=HB2.out.cell (i:=0) (by simp);have g1:=HB2.out.cell (i:=1) (by simp);have g2:=HB2.out.cell (i:=2) (by simp);simp only [List.getElem_cons_succ,List.getElem_cons_zero] at p0 p1 p2 g0 g1 g2;clear hR hS h1 h2 h3 h4 hr hs hw2 ha2 hb2;by_cases hc:S<=0
 ·have HE:Hid (R=ai (al r)):=af (by rw [HRR.out,gJ,if_pos ((eJ _ _).1 (by rw [<-HSS.out];exact hc))]);have HSA2:Hid (∀ W,ag w W->Calls Tryz.prog 105 #[.agg #[.bool neg1,.slice a1 n1 c1,.slice a2 n2 c2]] W fun e w'=>(∃ v',e=.returned v'/\RatAt w' v' R)/\ag W w'):=af (by rw [HE.out];exact HSA.out);have dc:decide (S<=0)=true:=by simp;omega
  go_enter Tryz.func59,Tryz.ntmps59;go_wp2_with fail;rw [<-HW2.out];refine (HCM.out _ HM.out.2.2).mono ?_;rintro e w3 ⟨rfl,hk3⟩;have x0:=hk3.cell p0;have x1:=hk3.cell p1;have x2:=hk3.cell p2;have HR3:=af (HM.out.1.kept hk3);have HF3:=af (HM.out.2.1.kept hk3);have HK3:=af (HM.out.2.2.trans hk3);clear hk3;go_wp2_with fail;refine (HSA2.out _ HK3.out).mono ?_;rintro e w4 ⟨⟨v4,rfl,hv4⟩,hk4⟩;have hr4:=HR3.out.kept hk4;have HF4:=af (HF3.out.kept hk4);have HK4:=af (HK3.out.trans hk4);obtain ⟨u5,u6,rfl,k5,k6⟩:=hv4;obtain ⟨a5,c5,rfl⟩:=k5.shape;obtain ⟨a6,c6,rfl⟩:=k6.shape;obtain ⟨y0,y1,y2,hra⟩:=aS hr4 HF4.out k5 k6;have g0:=hr4.cell (i:=0) (by simp);have g1:=hr4.cell (i:=1) (by simp);have g2:=hr4.cell (i:=2) (by simp);have f0:=hr4.free 0;have f1:=hr4.free 1;have f2:=hr4.free 2;have HRA:=af hra;have Y0:=af y0;have Y1:=af y1;have Y2:=af y2;clear hra y0 y1 y2 k5 k6 hr4 hk4;generalize R.num.length=n5 at *;generalize R.den.length=n6 at *;go_wp2;refine bodyPost_ret (v:=.agg #[.bool R.neg,.slice a5 n5 c5,.slice a6 n6 c6]) ?_ rfl ⟨⟨_,rfl,HRA.out⟩,?_⟩
  ·simp [results,Tryz.results59,go_sem,Y0.out,Y1.out,Y2.out]
  ·exact ((HK4.out.store (by omega) _ _).store (by omega) _ _).store (by omega) _ _
 ·have HE:Hid (R=ai (al s)):=af (by rw [HRR.out,gJ,if_neg (fun h=>hc (by have:=(eJ _ _).2 h;rw [<-HSS.out] at this;exact this))]);have HSA2:Hid (∀ W,ag w W->Calls Tryz.prog 105 #[.agg #[.bool neg2,.slice a3 n3 c3,.slice a4 n4 c4]] W fun e w'=>(∃ v',e=.returned v'/\RatAt w' v' R)/\ag W w'):=af (by rw [HE.out];exact HSB.out);have dc:decide (S<=0)=false:=by simp;omega
  go_enter Tryz.func59,Tryz.ntmps59;go_wp2_with fail;rw [<-HW2.out];refine (HCM.out _ HM.out.2.2).mono ?_;rintro e w3 ⟨rfl,hk3⟩;have x0:=hk3.cell g0;have x1:=hk3.cell g1;have x2:=hk3.cell g2;have HR3:=af (HM.out.1.kept hk3);have HF3:=af (HM.out.2.1.kept hk3);have HK3:=af (HM.out.2.2.trans hk3);clear hk3;go_wp2_with fail;refine (HSA2.out _ HK3.out).mono ?_;rintro e w4 ⟨⟨v4,rfl,hv4⟩,hk4⟩;have hr4:=HR3.out.kept hk4;have HF4:=af (HF3.out.kept hk4);have HK4:=af (HK3.out.trans hk4);obtain ⟨u5,u6,rfl,k5,k6⟩:=hv4;obtain ⟨a5,c5,rfl⟩:=k5.shape;obtain ⟨a6,c6,rfl⟩:=k6.shape;obtain ⟨y0,y1,y2,hra⟩:=aS hr4 HF4.out k5 k6;have g0:=hr4.cell (i:=0) (by simp);have g1:=hr4.cell (i:=1) (by simp);have g2:=hr4.cell (i:=2) (by simp);have f0:=hr4.free 0;have f1:=hr4.free 1;have f2:=hr4.free 2;have HRA:=af hra;have Y0:=af y0;have Y1:=af y1;have Y2:=af y2;clear hra y0 y1 y2 k5 k6 hr4 hk4;generalize R.num.length=n5 at *;generalize R.den.length=n6 at *;go_wp2;refine bodyPost_ret (v:=.agg #[.bool R.neg,.slice a5 n5 c5,.slice a6 n6 c6]) ?_ rfl ⟨⟨_,rfl,HRA.out⟩,?_⟩
  ·simp [results,Tryz.results59,go_sem,Y0.out,Y1.out,Y2.out]
  ·exact ((HK4.out.store (by omega) _ _).store (by omega) _ _).store (by omega) _ _
theorem pB (va vb:Value) (r s:Rw) (w:World) (ha:RatAt w va r) (hb:RatAt w vb s) (hr:r.Short 68719476736) (hs:s.Short 68719476736):Calls Tryz.prog 57 #[va,vb] w fun e w'=>(∃ v',e=.returned v'/\RatAt w' v' (ai (gb (al r) (al s))))/\ag w w':=by
 have HCM:=af (fun W (hk:ag w W)=>jq va vb r s W (ha.kept hk) (hb.kept hk) hr hs);have HSA:=af (fun W (hk:ag w W)=>jN va r W (ha.kept hk) ⟨Nat.le_trans hr.1 (by omega),Nat.le_trans hr.2 (by omega)⟩);have HSB:=af (fun W (hk:ag w W)=>jN vb s W (hb.kept hk) ⟨Nat.le_trans hs.1 (by omega),Nat.le_trans hs.2 (by omega)⟩);obtain ⟨R,hR⟩:∃ R,R=ai (gb (al r) (al s)):=⟨_,rfl⟩;rw [<-hR];have HRR:=af hR;obtain ⟨S,hS⟩:∃ S,S=bT (al r - al s):=⟨_,rfl⟩;rw [<-hS] at HCM;have HSS:=af hS;obtain ⟨u1,u2,rfl,h1,h2⟩:=ha;obtain ⟨u3,u4,rfl,h3,h4⟩:=hb;obtain ⟨a1,c1,rfl⟩:=h1.shape;obtain ⟨a2,c2,rfl⟩:=h2.shape;obtain ⟨a3,c3,rfl⟩:=h3.shape;obtain ⟨a4,c4,rfl⟩:=h4.shape;generalize r.num.length=n1 at *;generalize r.den.length=n2 at *;generalize s.num.length=n3 at *;generalize s.den.length=n4 at *;generalize r.neg=neg1 at *;generalize s.neg=neg2 at *;obtain ⟨w2,hw2⟩:∃ w2,w2=((w.alloc (.cells #[.bool neg1,.slice a1 n1 c1,.slice a2 n2 c2] 29)).alloc (.cells #[.bool neg2,.slice a3 n3 c3,.slice a4 n4 c4] 29)).alloc (.cells #[.bool false,.slice none 0 0,.slice none 0 0] 29):=⟨_,rfl⟩;have HM:=af (bC w (.cells #[.bool neg1,.slice a1 n1 c1,.slice a2 n2 c2] 29) (.cells #[.bool neg2,.slice a3 n3 c3,.slice a4 n4 c4] 29));rw [<-hw2] at HM;have ha2:=aj.made w #[.bool neg1,.slice a1 n1 c1,.slice a2 n2 c2] 29;have HA2:Hid (aj w2 w.heap.size 29 [.bool neg1,.slice a1 n1 c1,.slice a2 n2 c2]):=af (by rw [hw2];exact ha2.kept (((ag.refl _).alloc _).alloc _))
 have hb2:=aj.made (w.alloc (.cells #[.bool neg1,.slice a1 n1 c1,.slice a2 n2 c2] 29)) #[.bool neg2,.slice a3 n3 c3,.slice a4 n4 c4] 29;simp only [World.size_alloc] at hb2;have HB2:Hid (aj w2 (w.heap.size+1) 29 [.bool neg2,.slice a3 n3 c3,.slice a4 n4 c4]):=af (by rw [hw2];exact hb2.kept ((ag.refl _).alloc _));have HW2:=af hw2;have p0:=HA2.out.cell (i:=0) (by simp);have p1:=HA2.out.cell (i:=1) (by simp);have p2:=HA2.out.cell (i:=2) (by simp);have g0:=HB2.out.cell (i:=0) (by simp);have g1:=HB2.out.cell (i:=1) (by simp);have g2:=HB2.out.cell (i:=2) (by simp);simp only [List.getElem_cons_succ,List.getElem_cons_zero] at p0 p1 p2 g0 g1 g2;clear hR hS h1 h2 h3 h4 hr hs hw2 ha2 hb2;by_cases hc:0<=S
 ·have HE:Hid (R=ai (al r)):=af (by rw [HRR.out,gb,if_pos ((xk _ _).1 (by rw [<-HSS.out];exact hc))]);have HSA2:Hid (∀ W,ag w W->Calls Tryz.prog 105 #[.agg #[.bool neg1,.slice a1 n1 c1,.slice a2 n2 c2]] W fun e w'=>(∃ v',e=.returned v'/\RatAt w' v' R)/\ag W w'):=af (by rw [HE.out];exact HSA.out);have dc:decide (S ≥ 0)=true:=by simp;omega
  go_enter Tryz.func57,Tryz.ntmps57;go_wp2_with fail;rw [<-HW2.out];refine (HCM.out _ HM.out.2.2).mono ?_;rintro e w3 ⟨rfl,hk3⟩;have x0:=hk3.cell p0;have x1:=hk3.cell p1;have x2:=hk3.cell p2;have HR3:=af (HM.out.1.kept hk3);have HF3:=af (HM.out.2.1.kept hk3);have HK3:=af (HM.out.2.2.trans hk3);clear hk3;go_wp2_with fail;refine (HSA2.out _ HK3.out).mono ?_;rintro e w4 ⟨⟨v4,rfl,hv4⟩,hk4⟩;have hr4:=HR3.out.kept hk4;have HF4:=af (HF3.out.kept hk4);have HK4:=af (HK3.out.trans hk4);obtain ⟨u5,u6,rfl,k5,k6⟩:=hv4;obtain ⟨a5,c5,rfl⟩:=k5.shape;obtain ⟨a6,c6,rfl⟩:=k6.shape;obtain ⟨y0,y1,y2,hra⟩:=aS hr4 HF4.out k5 k6;have g0:=hr4.cell (i:=0) (by simp);have g1:=hr4.cell (i:=1) (by simp);have g2:=hr4.cell (i:=2) (by simp);have f0:=hr4.free 0;have f1:=hr4.free 1;have f2:=hr4.free 2;have HRA:=af hra;have Y0:=af y0;have Y1:=af y1;have Y2:=af y2;clear hra y0 y1 y2 k5 k6 hr4 hk4;generalize R.num.length=n5 at *;generalize R.den.length=n6 at *;go_wp2;refine bodyPost_ret (v:=.agg #[.bool R.neg,.slice a5 n5 c5,.slice a6 n6 c6]) ?_ rfl ⟨⟨_,rfl,HRA.out⟩,?_⟩
  ·simp [results,Tryz.results57,go_sem,Y0.out,Y1.out,Y2.out]
  ·exact ((HK4.out.store (by omega) _ _).store (by omega) _ _).store (by omega) _ _
 ·have HE:Hid (R=ai (al s)):=af (by rw [HRR.out,gb,if_neg (fun h=>hc (by have:=(xk _ _).2 h;rw [<-HSS.out] at this;exact this))]);have HSA2:Hid (∀ W,ag w W->Calls Tryz.prog 105 #[.agg #[.bool neg2,.slice a3 n3 c3,.slice a4 n4 c4]] W fun e w'=>(∃ v',e=.returned v'/\RatAt w' v' R)/\ag W w'):=af (by rw [HE.out];exact HSB.out);have dc:decide (S ≥ 0)=false:=by simp;omega
  go_enter Tryz.func57,Tryz.ntmps57;go_wp2_with fail;rw [<-HW2.out];refine (HCM.out _ HM.out.2.2).mono ?_;rintro e w3 ⟨rfl,hk3⟩;have x0:=hk3.cell g0;have x1:=hk3.cell g1;have x2:=hk3.cell g2;have HR3:=af (HM.out.1.kept hk3);have HF3:=af (HM.out.2.1.kept hk3);have HK3:=af (HM.out.2.2.trans hk3);clear hk3;go_wp2_with fail;refine (HSA2.out _ HK3.out).mono ?_;rintro e w4 ⟨⟨v4,rfl,hv4⟩,hk4⟩;have hr4:=HR3.out.kept hk4;have HF4:=af (HF3.out.kept hk4);have HK4:=af (HK3.out.trans hk4);obtain ⟨u5,u6,rfl,k5,k6⟩:=hv4;obtain ⟨a5,c5,rfl⟩:=k5.shape;obtain ⟨a6,c6,rfl⟩:=k6.shape;obtain ⟨y0,y1,y2,hra⟩:=aS hr4 HF4.out k5 k6;have g0:=hr4.cell (i:=0) (by simp);have g1:=hr4.cell (i:=1) (by simp);have g2:=hr4.cell (i:=2) (by simp);have f0:=hr4.free 0;have f1:=hr4.free 1;have f2:=hr4.free 2;have HRA:=af hra;have Y0:=af y0;have Y1:=af y1;have Y2:=af y2;clear hra y0 y1 y2 k5 k6 hr4 hk4;generalize R.num.length=n5 at *;generalize R.den.length=n6 at *;go_wp2;refine bodyPost_ret (v:=.agg #[.bool R.neg,.slice a5 n5 c5,.slice a6 n6 c6]) ?_ rfl ⟨⟨_,rfl,HRA.out⟩,?_⟩
  ·simp [results,Tryz.results57,go_sem,Y0.out,Y1.out,Y2.out]
  ·exact ((HK4.out.store (by omega) _ _).store (by omega) _ _).store (by omega) _ _
theorem vm (va vb:Value) (r s:Rw) (w:World) (ha:RatAt w va r) (hb:RatAt w vb s) (hr:r.Short 17179869184) (hs:s.Short 17179869184):Calls Tryz.prog 66 #[va,vb] w fun e w'=>(∃ v',e=.returned v'/\RatAt w' v' (ai (gJ (al r) (al s))))/\ag w w':=by
 have HCM:=af (fun W (hk:ag w W)=>lN va vb r s W (ha.kept hk) (hb.kept hk) ⟨Nat.le_trans hr.1 (by omega),Nat.le_trans hr.2 (by omega)⟩ ⟨Nat.le_trans hs.1 (by omega),Nat.le_trans hs.2 (by omega)⟩);have hz0:(⟨false,[],[]⟩:Rw).Short 17179869184:=⟨Nat.zero_le _,Nat.zero_le _⟩
 have HSA:Hid (∀ W,ag w W->Calls Tryz.prog 113 #[va,.agg #[.bool false,.slice none 0 0,.slice none 0 0]] W fun e w'=>(∃ v',e=.returned v'/\RatAt w' v' (ai (al r)))/\ag W w'):=af fun W hk=>by
  have h:=gR va _ r _ W (ha.kept hk) (RatAt.zero W) ⟨Nat.le_trans hr.1 (by omega),Nat.le_trans hr.2 (by omega)⟩ ⟨Nat.le_trans hz0.1 (by omega),Nat.le_trans hz0.2 (by omega)⟩;rw [show al ⟨false,[],[]⟩=0 from rfl,Rat.add_zero] at h;exact h
 have HSB:Hid (∀ W,ag w W->Calls Tryz.prog 113 #[vb,.agg #[.bool false,.slice none 0 0,.slice none 0 0]] W fun e w'=>(∃ v',e=.returned v'/\RatAt w' v' (ai (al s)))/\ag W w'):=af fun W hk=>by
  have h:=gR vb _ s _ W (hb.kept hk) (RatAt.zero W) ⟨Nat.le_trans hs.1 (by omega),Nat.le_trans hs.2 (by omega)⟩ ⟨Nat.le_trans hz0.1 (by omega),Nat.le_trans hz0.2 (by omega)⟩;rw [show al ⟨false,[],[]⟩=0 from rfl,Rat.add_zero] at h;exact h
 obtain ⟨R,hR⟩:∃ R,R=ai (gJ (al r) (al s)):=⟨_,rfl⟩;rw [<-hR];have HRR:=af hR;obtain ⟨S,hS⟩:∃ S,S=bT (al r - al s):=⟨_,rfl⟩;rw [<-hS] at HCM;have HSS:=af hS;obtain ⟨u1,u2,rfl,h1,h2⟩:=ha;obtain ⟨u3,u4,rfl,h3,h4⟩:=hb;obtain ⟨a1,c1,rfl⟩:=h1.shape;obtain ⟨a2,c2,rfl⟩:=h2.shape;obtain ⟨a3,c3,rfl⟩:=h3.shape;obtain ⟨a4,c4,rfl⟩:=h4.shape;generalize r.num.length=n1 at *;generalize r.den.length=n2 at *;generalize s.num.length=n3 at *;generalize s.den.length=n4 at *;generalize r.neg=neg1 at *;generalize s.neg=neg2 at *;obtain ⟨w2,hw2⟩:∃ w2,w2=((w.alloc (.cells #[.bool neg1,.slice a1 n1 c1,.slice a2 n2 c2] 29)).alloc (.cells #[.bool neg2,.slice a3 n3 c3,.slice a4 n4 c4] 29)).alloc (.cells #[.bool false,.slice none 0 0,.slice none 0 0] 29):=⟨_,rfl⟩;have HM:=af (bC w (.cells #[.bool neg1,.slice a1 n1 c1,.slice a2 n2 c2] 29) (.cells #[.bool neg2,.slice a3 n3 c3,.slice a4 n4 c4] 29));rw [<-hw2] at HM;have ha2:=aj.made w #[.bool neg1,.slice a1 n1 c1,.slice a2 n2 c2] 29;have HA2:Hid (aj w2 w.heap.size 29 [.bool neg1,.slice a1 n1 c1,.slice a2 n2 c2]):=af (by rw [hw2];exact ha2.kept (((ag.refl _).alloc _).alloc _));have hb2:=aj.made (w.alloc (.cells #[.bool neg1,.slice a1 n1 c1,.slice a2 n2 c2] 29)) #[.bool neg2,.slice a3 n3 c3,.slice a4 n4 c4] 29;simp only [World.size_alloc] at hb2;have HB2:Hid (aj w2 (w.heap.size+1) 29 [.bool neg2,.slice a3 n3 c3,.slice a4 n4 c4]):=af (by rw [hw2];exact hb2.kept ((ag.refl _).alloc _))
 have HW2:=af hw2;have p0:=HA2.out.cell (i:=0) (by simp);have p1:=HA2.out.cell (i:=1) (by simp);have p2:=HA2.out.cell (i:=2) (by simp);have g0:=HB2.out.cell (i:=0) (by simp);have g1:=HB2.out.cell (i:=1) (by simp);have g2:=HB2.out.cell (i:=2) (by simp);simp only [List.getElem_cons_succ,List.getElem_cons_zero] at p0 p1 p2 g0 g1 g2;clear hR h1 h2 h3 h4 hr hs hw2 ha2 hb2 hS hz0;by_cases hc:0<S
 ·have HE:Hid (R=ai (al s)):=af (by rw [HRR.out,gJ,if_neg (fun h=>by have:=(eJ _ _).2 h;rw [<-HSS.out] at this;omega)]);have HSA2:Hid (∀ W,ag w W->Calls Tryz.prog 113 #[.agg #[.bool neg2,.slice a3 n3 c3,.slice a4 n4 c4],.agg #[.bool false,.slice none 0 0,.slice none 0 0]] W fun e w'=>(∃ v',e=.returned v'/\RatAt w' v' R)/\ag W w'):=af (by rw [HE.out];exact HSB.out);have dc:decide (S > 0)=true:=by simp;omega
  go_enter Tryz.func66,Tryz.ntmps66;go_wp2_with fail;rw [<-HW2.out];refine (HCM.out _ HM.out.2.2).mono ?_;rintro e w3 ⟨rfl,hk3⟩;have x0:=hk3.cell g0;have x1:=hk3.cell g1;have x2:=hk3.cell g2;have hA3:=HA2.out.kept hk3;have q0:=hk3.cell p0;have q1:=hk3.cell p1;have q2:=hk3.cell p2;have f0:=hA3.free 0;have f1:=hA3.free 1;have f2:=hA3.free 2;have hlt3:=hA3.lt;have hst:=((hA3.store 0 (.bool neg2)).store 1 (.slice a3 n3 c3)).store 2 (.slice a4 n4 c4);simp only [List.set_cons_zero,List.set_cons_succ] at hst;have y0:=hst.cell (i:=0) (by simp);have y1:=hst.cell (i:=1) (by simp);have y2:=hst.cell (i:=2) (by simp);simp only [List.getElem_cons_succ,List.getElem_cons_zero] at y0 y1 y2;obtain ⟨w4,hw4⟩:∃ w4,w4=((w3.setCell ⟨w.heap.size,0,none⟩ (.bool neg2)).setCell ⟨w.heap.size,1,none⟩ (.slice a3 n3 c3)).setCell ⟨w.heap.size,2,none⟩ (.slice a4 n4 c4):=⟨_,rfl⟩;have HK3:=af (HM.out.2.2.trans hk3);have HO:=(((aw.refl w.heap.size w3).store 0 (.bool neg2)).store 1 (.slice a3 n3 c3)).store 2 (.slice a4 n4 c4);rw [<-hw4] at HO;have HK4:Hid (ag w w4):=af (HO.toKept HK3.out (Nat.le_refl _));have HR4:Hid (aj w4 (w.heap.size+1+1) 29 [.bool false,.slice none 0 0,.slice none 0 0]):=af (HO.row (HM.out.1.kept hk3) (by omega))
  have HF4:Hid (bn w4 (w.heap.size+1+1) [.bool false,.slice none 0 0,.slice none 0 0]):=af (by
   obtain ⟨cur,e,h1,h2⟩:=HM.out.2.1.kept hk3;exact ⟨cur,e,(HO.block _ (HM.out.2.1.kept hk3).lt (by omega)).trans h1,h2⟩)
  have HW4:=af hw4;clear hk3 hst hA3 HO hw4;go_wp2_with fail;rw [<-HW4.out];refine (HSA2.out _ HK4.out).mono ?_;rintro e w5 ⟨⟨v5,rfl,hv5⟩,hk5⟩;have hr5:=HR4.out.kept hk5;have HF5:=af (HF4.out.kept hk5);have HK5:=af (HK4.out.trans hk5);clear x0 x1 x2 q0 q1 q2 f0 f1 f2 y0 y1 y2;obtain ⟨u5,u6,rfl,k5,k6⟩:=hv5;obtain ⟨a5,c5,rfl⟩:=k5.shape;obtain ⟨a6,c6,rfl⟩:=k6.shape;obtain ⟨y0,y1,y2,hra⟩:=aS hr5 HF5.out k5 k6;have g0:=hr5.cell (i:=0) (by simp);have g1:=hr5.cell (i:=1) (by simp);have g2:=hr5.cell (i:=2) (by simp);have f0:=hr5.free 0;have f1:=hr5.free 1;have f2:=hr5.free 2;have HRA:=af hra;have Y0:=af y0;have Y1:=af y1;have Y2:=af y2;clear hra y0 y1 y2 k5 k6 hr5 hk5;generalize R.num.length=n5 at *;generalize R.den.length=n6 at *;go_wp2;refine bodyPost_ret (v:=.agg #[.bool R.neg,.slice a5 n5 c5,.slice a6 n6 c6]) ?_ rfl ⟨⟨_,rfl,HRA.out⟩,?_⟩
  ·simp [results,Tryz.results66,go_sem,Y0.out,Y1.out,Y2.out]
  ·exact ((HK5.out.store (by omega) _ _).store (by omega) _ _).store (by omega) _ _
 ·have HE:Hid (R=ai (al r)):=af (by rw [HRR.out,gJ,if_pos ((eJ _ _).1 (by rw [<-HSS.out];omega))]);have HSA2:Hid (∀ W,ag w W->Calls Tryz.prog 113 #[.agg #[.bool neg1,.slice a1 n1 c1,.slice a2 n2 c2],.agg #[.bool false,.slice none 0 0,.slice none 0 0]] W fun e w'=>(∃ v',e=.returned v'/\RatAt w' v' R)/\ag W w'):=af (by rw [HE.out];exact HSA.out);have dc:decide (S > 0)=false:=by simp;omega
  go_enter Tryz.func66,Tryz.ntmps66;go_wp2_with fail;rw [<-HW2.out];refine (HCM.out _ HM.out.2.2).mono ?_;rintro e w3 ⟨rfl,hk3⟩;have x0:=hk3.cell p0;have x1:=hk3.cell p1;have x2:=hk3.cell p2;have HR3:=af (HM.out.1.kept hk3);have HF3:=af (HM.out.2.1.kept hk3);have HK3:=af (HM.out.2.2.trans hk3);clear hk3;go_wp2_with fail;refine (HSA2.out _ HK3.out).mono ?_;rintro e w5 ⟨⟨v5,rfl,hv5⟩,hk5⟩;have hr5:=HR3.out.kept hk5;have HF5:=af (HF3.out.kept hk5);have HK5:=af (HK3.out.trans hk5);obtain ⟨u5,u6,rfl,k5,k6⟩:=hv5;obtain ⟨a5,c5,rfl⟩:=k5.shape;obtain ⟨a6,c6,rfl⟩:=k6.shape;obtain ⟨y0,y1,y2,hra⟩:=aS hr5 HF5.out k5 k6;have g0:=hr5.cell (i:=0) (by simp);have g1:=hr5.cell (i:=1) (by simp);have g2:=hr5.cell (i:=2) (by simp);have f0:=hr5.free 0;have f1:=hr5.free 1;have f2:=hr5.free 2;have HRA:=af hra;have Y0:=af y0;have Y1:=af y1;have Y2:=af y2;clear hra y0 y1 y2 k5 k6 hr5 hk5;generalize R.num.length=n5 at *;generalize R.den.length=n6 at *;go_wp2;refine bodyPost_ret (v:=.agg #[.bool R.neg,.slice a5 n5 c5,.slice a6 n6 c6]) ?_ rfl ⟨⟨_,rfl,HRA.out⟩,?_⟩
  ·simp [results,Tryz.results66,go_sem,Y0.out,Y1.out,Y2.out]
  ·exact ((HK5.out.store (by omega) _ _).store (by omega) _ _).store (by omega) _ _
theorem CK (a b:Rat):- gJ (- a) (- b)=gb a b:=by
 unfold gJ gb;split
 ·rw [if_pos (by grind)];grind
 ·rw [if_neg (by grind)];grind
theorem vl (va vb:Value) (r s:Rw) (w:World) (ha:RatAt w va r) (hb:RatAt w vb s) (hr:r.Short 17179869184) (hs:s.Short 17179869184):Calls Tryz.prog 65 #[va,vb] w fun e w'=>(∃ v',e=.returned v'/\RatAt w' v' (ai (gb (al r) (al s))))/\ag w w':=by
 have HN1:=af (fun W (hk:ag w W)=>gS va r W (ha.kept hk) ⟨Nat.le_trans hr.1 (by omega),Nat.le_trans hr.2 (by omega)⟩);have HN2:=af (fun W (hk:ag w W)=>gS vb s W (hb.kept hk) ⟨Nat.le_trans hs.1 (by omega),Nat.le_trans hs.2 (by omega)⟩);have sh1:=dT ha.ok hr (by omega);have sh2:=dT hb.ok hs (by omega);obtain ⟨M,hM⟩:∃ M,M=ai (gJ (- al r) (- al s)):=⟨_,rfl⟩
 have HMI:Hid (∀ W u1 u2,RatAt W u1 (ai (- al r))->RatAt W u2 (ai (- al s))->Calls Tryz.prog 66 #[u1,u2] W fun e w'=>(∃ v',e=.returned v'/\RatAt w' v' M)/\ag W w'):=af fun W u1 u2 k1 k2=>by
  have h:=vm u1 u2 _ _ W k1 k2 sh1 sh2;rw [ap,ap,<-hM] at h;exact h
 have shM:M.Short 17179869184:=by
  rw [hM];unfold gJ;split
  ·exact sh1
  ·exact sh2
 obtain ⟨R,hR⟩:∃ R,R=ai (gb (al r) (al s)):=⟨_,rfl⟩
 have HN3:Hid (∀ W u,RatAt W u M->Calls Tryz.prog 111 #[u] W fun e w'=>(∃ v',e=.returned v'/\RatAt w' v' R)/\ag W w'):=af fun W u k=>by
  have h:=gS u _ W k ⟨Nat.le_trans shM.1 (by omega),Nat.le_trans shM.2 (by omega)⟩;rw [hM,ap,CK,<-hR] at h;exact h
 rw [<-hR];obtain ⟨u1,u2,rfl,h1,h2⟩:=ha;obtain ⟨u3,u4,rfl,h3,h4⟩:=hb;obtain ⟨a1,c1,rfl⟩:=h1.shape;obtain ⟨a2,c2,rfl⟩:=h2.shape;obtain ⟨a3,c3,rfl⟩:=h3.shape;obtain ⟨a4,c4,rfl⟩:=h4.shape;generalize r.num.length=n1 at *;generalize r.den.length=n2 at *;generalize s.num.length=n3 at *;generalize s.den.length=n4 at *;generalize r.neg=neg1 at *;generalize s.neg=neg2 at *;obtain ⟨w2,hw2⟩:∃ w2,w2=((w.alloc (.cells #[.bool neg1,.slice a1 n1 c1,.slice a2 n2 c2] 29)).alloc (.cells #[.bool neg2,.slice a3 n3 c3,.slice a4 n4 c4] 29)).alloc (.cells #[.bool false,.slice none 0 0,.slice none 0 0] 29):=⟨_,rfl⟩;have HM:=af (bC w (.cells #[.bool neg1,.slice a1 n1 c1,.slice a2 n2 c2] 29) (.cells #[.bool neg2,.slice a3 n3 c3,.slice a4 n4 c4] 29));rw [<-hw2] at HM;have ha2:=aj.made w #[.bool neg1,.slice a1 n1 c1,.slice a2 n2 c2] 29;have HA2:Hid (aj w2 w.heap.size 29 [.bool neg1,.slice a1 n1 c1,.slice a2 n2 c2]):=af (by rw [hw2];exact ha2.kept (((ag.refl _).alloc _).alloc _));have hb2:=aj.made (w.alloc (.cells #[.bool neg1,.slice a1 n1 c1,.slice a2 n2 c2] 29)) #[.bool neg2,.slice a3 n3 c3,.slice a4 n4 c4] 29;simp only [World.size_alloc] at hb2;have HB2:Hid (aj w2 (w.heap.size+1) 29 [.bool neg2,.slice a3 n3 c3,.slice a4 n4 c4]):=af (by rw [hw2];exact hb2.kept ((ag.refl _).alloc _));have HW2:=af hw2;have p0:=HA2.out.cell (i:=0) (by simp);have p1:=HA2.out.cell (i:=1) (by simp)
 have p2:=HA2.out.cell (i:=2) (by simp);have g0:=HB2.out.cell (i:=0) (by simp);have g1:=HB2.out.cell (i:=1) (by simp);have g2:=HB2.out.cell (i:=2) (by simp);simp only [List.getElem_cons_succ,List.getElem_cons_zero] at p0 p1 p2 g0 g1 g2;clear hR h1 h2 h3 h4 hr hs hw2 ha2 hb2 hM sh1 sh2 shM;go_enter Tryz.func65,Tryz.ntmps65;go_wp2_with fail;rw [<-HW2.out]
 go_region_with (first
  | (go_at_call 111;(with_reducible refine (HN1.out _ HM.out.2.2.drew).mono ?_);rintro e w3 ⟨⟨v3,rfl,hv3⟩,hk3⟩;have hkd:=(ag.refl w2).drew.trans hk3;have x0:=hkd.cell g0;have x1:=hkd.cell g1;have x2:=hkd.cell g2;have HV3:=af hv3;have HKD:=af (HM.out.2.2.trans hkd);have HR3:=af (HM.out.1.kept hkd);have HF3:=af (HM.out.2.1.kept hkd);clear hv3 hk3 hkd)
  | (go_at_call 111;(with_reducible refine (HN2.out _ HKD.out).mono ?_);rintro e w4 ⟨⟨v4,rfl,hv4⟩,hk4⟩;have HV4:=af hv4;have HV5:=af (HV3.out.kept hk4);have HKE:=af (HKD.out.trans hk4);have HR4:=af (HR3.out.kept hk4);have HF4:=af (HF3.out.kept hk4);clear hv4 hk4)
  | (go_at_call 66;(with_reducible refine (HMI.out _ _ _ HV5.out HV4.out).mono ?_);rintro e w6 ⟨⟨v6,rfl,hv6⟩,hk6⟩;have HV6:=af hv6;have HK6:=af (HKE.out.trans hk6);have HR6:=af (HR4.out.kept hk6);have HF6:=af (HF4.out.kept hk6);clear hv6 hk6)
  | (go_at_call 111;(with_reducible refine (HN3.out _ _ HV6.out).mono ?_);rintro e w7 ⟨⟨v7,rfl,hv7⟩,hk7⟩;have hr7:=HR6.out.kept hk7;have HR7:=af hr7;have HF7:=af (HF6.out.kept hk7);have HK7:=af (HK6.out.trans hk7);obtain ⟨u5,u6,rfl,k5,k6⟩:=hv7;obtain ⟨a5,c5,rfl⟩:=k5.shape;obtain ⟨a6,c6,rfl⟩:=k6.shape;have K5:=af k5;have K6:=af k6;have z0:=hr7.cell (i:=0) (by simp);have z1:=hr7.cell (i:=1) (by simp);have z2:=hr7.cell (i:=2) (by simp);have f0:=hr7.free 0;have f1:=hr7.free 1;have f2:=hr7.free 2;clear k5 k6 hr7 hk7))
 all_goals
  obtain ⟨y0,y1,y2,hra⟩:=aS HR7.out HF7.out K5.out K6.out;generalize R.num.length=n7 at *;generalize R.den.length=n8 at *;go_wp2;refine bodyPost_ret (v:=.agg #[.bool R.neg,.slice a5 n7 c5,.slice a6 n8 c6]) ?_ rfl ⟨⟨_,rfl,hra⟩,?_⟩
  ·simp [results,Tryz.results65,go_sem,y0,y1,y2]
  ·exact ((HK7.out.store (by omega) _ _).store (by omega) _ _).store (by omega) _ _
theorem mv {f:Nat->Rat} {l:List Nat} (h:∀ s∈l,(ai (f s)).Short 91):∀ k,k<=l.length->(ai (aA f (l.take k))).Short 91:=sA (by decide) h
theorem Be {w:World} {v:Value} {f:Nat->Rat} {ss:List Nat} (h:RatsAt w v (ss.map fun s=>ai (f s))):∃ a c,v=.slice a ss.length c:=by
 obtain ⟨a,c,e⟩:=h.shape;exact ⟨a,c,by rw [e,List.length_map]⟩
theorem sK {f:Nat->Rat} {ss:List Nat} {k:Nat} (hk:k<ss.length):(ss.map fun s=>ai (f s)).getD k default=ai (f ss[k]):=by
 simp [List.getD_eq_getElem?_getD,hk]
theorem esnone_any (g:Nat) (eg:∀ args w,(callFunc g args).run Tryz.prog w=.ok (.enter g args) w) (f:Nat->Rat) (ss:List Nat) (xv v:Value) (w:World) (hx:am w xv (aL ss)) (hl:ss.length<=1024) (hs:∀ s∈ss,(ai (f s)).Short 91)
  (hch:∀ s∈ss,∀ W,ag w W->Calls Tryz.prog g #[.int .i64 s,v] W fun e w'=>(∃ v',e=.returned v'/\RatAt w' v' (ai (f s)))/\ag W w') :
  Calls Tryz.prog 48 #[xv,v,.func (.func g) #[] #[]] w fun e w'=>(∃ v',e=.returned v'/\RatAt w' v' (ai (aO f ss)))/\ag w w':=by
 have HOF:Hid (∀ W,Calls Tryz.prog 96 #[.int .i64 1] W fun e w'=>(∃ v',e=.returned v'/\RatAt w' v' (ai (aO f (ss.take 0))))/\ag W w'):=af fun W=>rK 1 W (by omega) (by omega)
 have HSH:=af (fun k hk=>kH (by decide) hs k hk);have HF:=af hx;have HCH:=af hch;have HS91:=af hs;obtain ⟨xa,xn,xc,rfl⟩:=hx.shape;obtain ⟨n,hn⟩:∃ n,n=ss.length:=⟨_,rfl⟩
 have hxn:xn=n:=by
  obtain ⟨_,_,e,_⟩:=hx;injection e with _ e2 _
  rw [e2,hn];simp [aL]
 subst hxn;rw [<-hn] at hl;have HN:=af hn;obtain ⟨R,hR⟩:∃ R,R=ai (aO f ss):=⟨_,rfl⟩;rw [<-hR];have HRR:=af hR;clear hR hn hx hs hch;obtain ⟨w2,hw2⟩:∃ w2,w2=w.alloc (.cells #[.bool false,.slice none 0 0,.slice none 0 0] 29):=⟨_,rfl⟩;have HZ:Hid (RatCell w2 w.heap.size ⟨false,[],[]⟩):=af (by rw [hw2];exact RatCell.zero w);have HK0:Hid (ag w w2):=af (by rw [hw2];exact (ag.refl w).alloc _);have HW2:=af hw2;clear hw2;go_enter Tryz.func48,Tryz.ntmps48;go_wp2_with fail;rw [<-HW2.out];refine (HOF.out _).mono ?_;rintro e w3 ⟨⟨v3,rfl,hv3⟩,hk3⟩;have HZ3:=af (HZ.out.kept hk3);have HK3:=af (HK0.out.trans hk3);obtain ⟨n3,l3,m3,a3,c3,b3,d3,w4,rfl,hw4,hc4,hk4,_,_⟩:=hv3.box;have HW4:=af hw4;have HC:=af hc4;have HK4:=af hk4;clear hv3 hk3 hw4 hc4 hk4;go_wp2_with fail;rw [<-HW4.out];go_loopg [13] xn (fun kx s10 wr=>∃ k:Nat,k<=xn/\s10=.int .i64 k/\xn - k<=kx/\Hid (RatCell wr w3.heap.size (ai (aO f (ss.take k))))/\Hid (ag w3 wr))
 case atStart=>exact ⟨0,Nat.zero_le _,rfl,by omega,HC,HK4⟩
 case round =>
  obtain ⟨k,hk,rfl,hkx,HX,HKr⟩:=hrel;by_cases hlt:k<xn
  ·have hkn:(k:Int)<(xn:Int):=by omega
   have hkl:k<ss.length:=by have:=HN.out;omega
   have HKw:=af (HK3.out.trans HKr.out);obtain ⟨b,o,rfl,hce⟩:=HF.out.get k (by simpa [aL] using hkl);have hsk:=HSH.out k (by omega);have hst:=kG f ss hkl;obtain ⟨s,hsx⟩:∃ s,s=ss[k]:=⟨_,rfl⟩;have eo:(aL ss)[k]'(by simpa [aL] using hkl)=(s:Int):=by rw [hsx];simp [aL]
   rw [eo] at hce;rw [<-hsx] at hst;have hcr:=HKw.out.cell hce;have HC1:Hid (∀ W,ag w W->Calls Tryz.prog g #[.int .i64 s,v] W fun e w'=>(∃ v',e=.returned v'/\RatAt w' v' (ai (f s)))/\ag W w'):=af (HCH.out s (by rw [hsx];exact List.getElem_mem _));have h91:=HS91.out s (by rw [hsx];exact List.getElem_mem _)
   have HNT:Hid (∀ W u,RatAt W u (ai (f s))->Calls Tryz.prog 47 #[u] W fun e w'=>(∃ v',e=.returned v'/\RatAt w' v' (ai (1 - f s)))/\ag W w'):=af fun W u k1=>by
    have h:=eK u _ W k1 ⟨Nat.le_trans h91.1 (by omega),Nat.le_trans h91.2 (by omega)⟩;rw [ap] at h;exact h
   have HML:Hid (∀ W u1 u2,RatAt W u1 (ai (aO f (ss.take k)))->RatAt W u2 (ai (1 - f s))->Calls Tryz.prog 97 #[u1,u2] W fun e w'=>(∃ v',e=.returned v'/\RatAt w' v' (ai (aO f (ss.take (k+1)))))/\ag W w'):=af fun W u1 u2 k1 k2=>by
    have h2:=cX h91 (by decide);have h:=ts u1 u2 _ _ W k1 k2 ⟨Nat.le_trans hsk.1 (by omega),Nat.le_trans hsk.2 (by omega)⟩ ⟨Nat.le_trans h2.1 (by omega),Nat.le_trans h2.2 (by omega)⟩;rw [ap,ap,<-hst] at h;exact h
   obtain ⟨p1,p2,p3,e1,e2,e3,e4,x0,x1,x2,hlx,HXA⟩:=HX.out.read;clear hce hsk hst hsx h91 eo hkl;go_wp2_with fail
   go_region_with (first
    | (go_at_fn g;(with_reducible refine (HC1.out _ HKw.out.drew).mono ?_);rintro e w5 ⟨⟨v5,rfl,hv5⟩,hk5⟩;have hk15:=(ag.refl _).drew.trans hk5;have HV5:=af hv5;have HX5:=af (HX.out.kept hk15);have HA5:=af (HXA.out.kept hk15);have q0:=hk15.cell x0;have q1:=hk15.cell x1;have q2:=hk15.cell x2;have HK5:=af (HKr.out.trans hk15);clear hv5 hk5 hk15)
    | (go_at_call 47;(with_reducible refine (HNT.out _ _ HV5.out).mono ?_);rintro e w6 ⟨⟨v6,rfl,hv6⟩,hk6⟩;have HV6:=af hv6;have HX6:=af (HX5.out.kept hk6);have HA6:=af (HA5.out.kept hk6);have r0:=hk6.cell q0;have r1:=hk6.cell q1;have r2:=hk6.cell q2;have HK6:=af (HK5.out.trans hk6);clear hv6 hk6)
    | (go_at_call 97;(with_reducible refine (HML.out _ _ _ HA6.out HV6.out).mono ?_);rintro e w7 ⟨⟨v7,rfl,hv7⟩,hk7⟩;obtain ⟨n8,l8,m8,a8,c8,b8,d8,w8,rfl,hw8,⟨⟨z0,j0⟩,⟨z1,j1⟩,⟨z2,j2⟩⟩,⟨f0,f1,f2⟩,hl8,_,_,HX8,HKP⟩:=(HX6.out.kept hk7).save hv7;have HKE:=af (HKP.out _ (HK6.out.trans hk7) (Nat.le_refl _));have HW8:=af hw8;clear hv7 hk7 hw8 HKP))
   all_goals
    rw [<-HW8.out];go_wp2_with fail;go_roundg (xn - (k+1))
    case measure=>omega
    case rel=>exact ⟨k+1,by omega,by go_num,Nat.le_refl _,HX8,HKE⟩
  ·have hke:k=xn:=by omega
   have hkn:¬ (k:Int)<(xn:Int):=by omega
   have HX2:Hid (RatCell wr w3.heap.size R):=af (by
    have h:=HX.out;rw [List.take_of_length_le (by have:=HN.out;omega),<-HRR.out] at h;exact h)
   obtain ⟨p1,p2,p3,e1,e2,e3,e4,x0,x1,x2,hlx,HXA⟩:=HX2.out.read;obtain ⟨n8,l8,m8,a8,c8,b8,d8,w8,he,hw8,⟨⟨z0,j0⟩,⟨z1,j1⟩,⟨z2,j2⟩⟩,⟨f0,f1,f2⟩,hl8,Y,HRV,_,HKP⟩:=(HZ3.out.kept HKr.out).save HXA.out;have HKE:=af (HKP.out _ (HK3.out.trans HKr.out) (Nat.le_refl _));simp only [Value.agg.injEq,Array.mk.injEq,List.cons.injEq,Value.bool.injEq,Value.slice.injEq,and_true] at he;obtain ⟨rfl,⟨rfl,rfl,rfl⟩,rfl,rfl,rfl⟩:=he;rw [hw8] at Y HRV HKE;clear hw8 HKP hke;go_wp2;refine bodyPost_ret (v:=.agg #[.bool p1,.slice e1 p2 e2,.slice e3 p3 e4]) ?_ rfl ⟨⟨_,rfl,HRV.out⟩,HKE.out⟩;simp [results,Tryz.results48,go_sem,Y.out.1,Y.out.2.1,Y.out.2.2]
theorem esgreat_any (g:Nat) (eg:∀ args w,(callFunc g args).run Tryz.prog w=.ok (.enter g args) w) (f:Nat->Rat) (ss:List Nat) (xv v:Value) (w:World) (hx:am w xv (aL ss)) (hl:ss.length<=1024) (hs:∀ s∈ss,(ai (f s)).Short 91)
  (hch:∀ s∈ss,∀ W,ag w W->Calls Tryz.prog g #[.int .i64 s,v] W fun e w'=>(∃ v',e=.returned v'/\RatAt w' v' (ai (f s)))/\ag W w') :
  Calls Tryz.prog 58 #[xv,v,.func (.func g) #[] #[]] w fun e w'=>(∃ v',e=.returned v'/\RatAt w' v' (ai (aA f ss)))/\ag w w':=by
 have HSH:=af (fun k hk=>mv hs k hk);have HF:=af hx;have HCH:=af hch;have HS91:=af hs;obtain ⟨xa,xn,xc,rfl⟩:=hx.shape;obtain ⟨n,hn⟩:∃ n,n=ss.length:=⟨_,rfl⟩
 have hxn:xn=n:=by
  obtain ⟨_,_,e,_⟩:=hx;injection e with _ e2 _
  rw [e2,hn];simp [aL]
 subst hxn;rw [<-hn] at hl;have HN:=af hn;obtain ⟨R,hR⟩:∃ R,R=ai (aA f ss):=⟨_,rfl⟩;rw [<-hR];have HRR:=af hR;clear hR hn hx hs hch;obtain ⟨w3,hw3⟩:∃ w3,w3=w.alloc (.cells #[.bool false,.slice none 0 0,.slice none 0 0] 29):=⟨_,rfl⟩;have HZ3:Hid (RatCell w3 w.heap.size ⟨false,[],[]⟩):=af (by rw [hw3];exact RatCell.zero w);have HK3:Hid (ag w w3):=af (by rw [hw3];exact (ag.refl w).alloc _);have hs3:w3.heap.size=w.heap.size+1:=by rw [hw3];simp
 obtain ⟨w4,hw4⟩:∃ w4,w4=w3.alloc (.cells #[.bool false,.slice none 0 0,.slice none 0 0] 29):=⟨_,rfl⟩;have HC:Hid (RatCell w4 (w.heap.size+1) (ai 0)):=af (by rw [hw4,<-hs3];exact RatCell.zero w3);have HK4:Hid (ag w3 w4):=af (by rw [hw4];exact (ag.refl w3).alloc _);have HW4:Hid (w4=(w.alloc (.cells #[.bool false,.slice none 0 0,.slice none 0 0] 29)).alloc (.cells #[.bool false,.slice none 0 0,.slice none 0 0] 29)):=af (by rw [hw4,hw3]);have HS3:=af hs3;clear hw3 hw4 hs3;go_enter Tryz.func58,Tryz.ntmps58;go_wp2_with fail;rw [<-HW4.out];go_loopg [12] xn (fun kx s10 wr=>∃ k:Nat,k<=xn/\s10=.int .i64 k/\xn - k<=kx/\Hid (RatCell wr (w.heap.size+1) (ai (aA f (ss.take k))))/\Hid (ag w3 wr))
 case atStart=>exact ⟨0,Nat.zero_le _,rfl,by omega,HC,HK4⟩
 case round =>
  obtain ⟨k,hk,rfl,hkx,HX,HKr⟩:=hrel;by_cases hlt:k<xn
  ·have hkn:(k:Int)<(xn:Int):=by omega
   have hkl:k<ss.length:=by have:=HN.out;omega
   have HKw:=af (HK3.out.trans HKr.out);obtain ⟨b,o,rfl,hce⟩:=HF.out.get k (by simpa [aL] using hkl);have hsk:=HSH.out k (by omega);have hst:=ji f ss hkl;obtain ⟨s,hsx⟩:∃ s,s=ss[k]:=⟨_,rfl⟩;have eo:(aL ss)[k]'(by simpa [aL] using hkl)=(s:Int):=by rw [hsx];simp [aL]
   rw [eo] at hce;rw [<-hsx] at hst;have hcr:=HKw.out.cell hce;have HC1:Hid (∀ W,ag w W->Calls Tryz.prog g #[.int .i64 s,v] W fun e w'=>(∃ v',e=.returned v'/\RatAt w' v' (ai (f s)))/\ag W w'):=af (HCH.out s (by rw [hsx];exact List.getElem_mem _));have h91:=HS91.out s (by rw [hsx];exact List.getElem_mem _)
   have HMX:Hid (∀ W u1 u2,RatAt W u1 (ai (aA f (ss.take k)))->RatAt W u2 (ai (f s))->Calls Tryz.prog 57 #[u1,u2] W fun e w'=>(∃ v',e=.returned v'/\RatAt w' v' (ai (aA f (ss.take (k+1)))))/\ag W w'):=af fun W u1 u2 k1 k2=>by
    have h:=pB u1 u2 _ _ W k1 k2 ⟨Nat.le_trans hsk.1 (by omega),Nat.le_trans hsk.2 (by omega)⟩ ⟨Nat.le_trans h91.1 (by omega),Nat.le_trans h91.2 (by omega)⟩;rw [ap,ap,<-hst] at h;exact h
   obtain ⟨p1,p2,p3,e1,e2,e3,e4,x0,x1,x2,hlx,HXA⟩:=HX.out.read;clear hce hsk hst hsx h91 eo hkl;go_wp2_with fail
   go_region_with (first
    | (go_at_fn g;(with_reducible refine (HC1.out _ HKw.out.drew).mono ?_);rintro e w5 ⟨⟨v5,rfl,hv5⟩,hk5⟩;have hk15:=(ag.refl _).drew.trans hk5;have HV5:=af hv5;have HX5:=af (HX.out.kept hk15);have HA5:=af (HXA.out.kept hk15);have q0:=hk15.cell x0;have q1:=hk15.cell x1;have q2:=hk15.cell x2;have HK5:=af (HKr.out.trans hk15);clear hv5 hk5 hk15)
    | (go_at_call 57;(with_reducible refine (HMX.out _ _ _ HA5.out HV5.out).mono ?_);rintro e w7 ⟨⟨v7,rfl,hv7⟩,hk7⟩;obtain ⟨n8,l8,m8,a8,c8,b8,d8,w8,rfl,hw8,⟨⟨z0,j0⟩,⟨z1,j1⟩,⟨z2,j2⟩⟩,⟨f0,f1,f2⟩,hl8,_,_,HX8,HKP⟩:=(HX5.out.kept hk7).save hv7;have HKE:=af (HKP.out _ (HK5.out.trans hk7) (by first | exact Nat.le_refl _ | (rw [HS3.out];exact Nat.le_refl _)));have HW8:=af hw8;clear hv7 hk7 hw8 HKP))
   all_goals
    rw [<-HW8.out];go_wp2_with fail;go_roundg (xn - (k+1))
    case measure=>omega
    case rel=>exact ⟨k+1,by omega,by go_num,Nat.le_refl _,HX8,HKE⟩
  ·have hke:k=xn:=by omega
   have hkn:¬ (k:Int)<(xn:Int):=by omega
   have HX2:Hid (RatCell wr (w.heap.size+1) R):=af (by
    have h:=HX.out;rw [List.take_of_length_le (by have:=HN.out;omega),<-HRR.out] at h;exact h)
   obtain ⟨p1,p2,p3,e1,e2,e3,e4,x0,x1,x2,hlx,HXA⟩:=HX2.out.read;obtain ⟨n8,l8,m8,a8,c8,b8,d8,w8,he,hw8,⟨⟨z0,j0⟩,⟨z1,j1⟩,⟨z2,j2⟩⟩,⟨f0,f1,f2⟩,hl8,Y,HRV,_,HKP⟩:=(HZ3.out.kept HKr.out).save HXA.out;have HKE:=af (HKP.out _ (HK3.out.trans HKr.out) (Nat.le_refl _));simp only [Value.agg.injEq,Array.mk.injEq,List.cons.injEq,Value.bool.injEq,Value.slice.injEq,and_true] at he;obtain ⟨rfl,⟨rfl,rfl,rfl⟩,rfl,rfl,rfl⟩:=he;rw [hw8] at Y HRV HKE;clear hw8 HKP hke;go_wp2;refine bodyPost_ret (v:=.agg #[.bool p1,.slice e1 p2 e2,.slice e3 p3 e4]) ?_ rfl ⟨⟨_,rfl,HRV.out⟩,HKE.out⟩;simp [results,Tryz.results58,go_sem,Y.out.1,Y.out.2.1,Y.out.2.2]
theorem kn (f:Nat->Rat) (ss:List Nat) (v:Value) (w:World) (hv:RatsAt w v (ss.map fun s=>ai (f s))) (hl:ss.length<=1024) (hs:∀ s∈ss,(ai (f s)).Short 91) :
  Calls Tryz.prog 52 #[v] w fun e w'=>(∃ v',e=.returned v'/\RatAt w' v' (ai (aO f ss)))/\ag w w':=by
 have HOF:Hid (∀ W,Calls Tryz.prog 102 #[.int .i64 1] W fun e w'=>(∃ v',e=.returned v'/\RatAt w' v' (ai (aO f (ss.take 0))))/\ag W w'):=af fun W=>jM 1 W (by omega)
 have HSH:=af (fun k hk=>kH (by decide) hs k hk);have HF:=af hv;have HS91:=af hs;obtain ⟨xa,xc,rfl⟩:=Be hv;obtain ⟨n,hn⟩:∃ n,n=ss.length:=⟨_,rfl⟩;rw [<-hn] at hl HF⊢;have HN:=af hn;obtain ⟨R,hR⟩:∃ R,R=ai (aO f ss):=⟨_,rfl⟩;rw [<-hR];have HRR:=af hR;clear hR hn hv hs;obtain ⟨w2,hw2⟩:∃ w2,w2=w.alloc (.cells #[.bool false,.slice none 0 0,.slice none 0 0] 29):=⟨_,rfl⟩;have HZ:Hid (RatCell w2 w.heap.size ⟨false,[],[]⟩):=af (by rw [hw2];exact RatCell.zero w);have HK0:Hid (ag w w2):=af (by rw [hw2];exact (ag.refl w).alloc _);have HW2:=af hw2;clear hw2;go_enter Tryz.func52,Tryz.ntmps52;go_wp2_with fail;rw [<-HW2.out];refine (HOF.out _).mono ?_;rintro e w3 ⟨⟨v3,rfl,hv3⟩,hk3⟩;have HZ3:=af (HZ.out.kept hk3);have HK3:=af (HK0.out.trans hk3);obtain ⟨n3,l3,m3,a3,c3,b3,d3,w4,rfl,hw4,hc4,hk4,_,_⟩:=hv3.box;have HW4:=af hw4;have HC:=af hc4;have HK4:=af hk4;clear hv3 hk3 hw4 hc4 hk4;go_wp2_with fail;rw [<-HW4.out];go_loopg [9] n (fun kx s10 wr=>∃ k:Nat,k<=n/\s10=.int .i64 k/\n - k<=kx/\Hid (RatCell wr w3.heap.size (ai (aO f (ss.take k))))/\Hid (ag w3 wr))
 case atStart=>exact ⟨0,Nat.zero_le _,rfl,by omega,HC,HK4⟩
 case round =>
  obtain ⟨k,hk,rfl,hkx,HX,HKr⟩:=hrel;by_cases hlt:k<n
  ·have hkn:(k:Int)<(n:Int):=by omega
   have hkl:k<ss.length:=by have:=HN.out;omega
   have HKw:=af (HK3.out.trans HKr.out);obtain ⟨b,o,u1,u2,rfl,hrg,hw1,hw2⟩:=HF.out.get k (by rw [List.length_map];exact hkl);rw [sK hkl] at hrg hw1 hw2;have hsk:=HSH.out k (by omega);have hst:=kG f ss hkl;obtain ⟨s,hsx⟩:∃ s,s=ss[k]:=⟨_,rfl⟩;rw [<-hsx] at hst hrg hw1 hw2;have h91:=HS91.out s (by rw [hsx];exact List.getElem_mem _);obtain ⟨a6,c6,rfl⟩:=hw1.shape;obtain ⟨a7,c7,rfl⟩:=hw2.shape;have hrg2:=bY hrg HKw.out;have hq:RatAt wr (.agg #[.bool (ai (f s)).neg,.slice a6 (ai (f s)).num.length c6,.slice a7 (ai (f s)).den.length c7]) (ai (f s)):=⟨_,_,rfl,hw1.kept HKw.out,hw2.kept HKw.out⟩
   have HNT:Hid (∀ W u,RatAt W u (ai (f s))->Calls Tryz.prog 51 #[u] W fun e w'=>(∃ v',e=.returned v'/\RatAt w' v' (ai (1 - f s)))/\ag W w'):=af fun W u k1=>by
    have h:=eF u _ W k1 ⟨Nat.le_trans h91.1 (by omega),Nat.le_trans h91.2 (by omega)⟩;rw [ap] at h;exact h
   have HML:Hid (∀ W u1 u2,RatAt W u1 (ai (aO f (ss.take k)))->RatAt W u2 (ai (1 - f s))->Calls Tryz.prog 103 #[u1,u2] W fun e w'=>(∃ v',e=.returned v'/\RatAt w' v' (ai (aO f (ss.take (k+1)))))/\ag W w'):=af fun W u1 u2 k1 k2=>by
    have h2:=cX h91 (by decide);have h:=lQ u1 u2 _ _ W k1 k2 ⟨Nat.le_trans hsk.1 (by omega),Nat.le_trans hsk.2 (by omega)⟩ ⟨Nat.le_trans h2.1 (by omega),Nat.le_trans h2.2 (by omega)⟩;rw [ap,ap,<-hst] at h;exact h
   obtain ⟨y0,hy0⟩:∃ y,y=(ai (f s)).neg:=⟨_,rfl⟩;obtain ⟨y1,hy1⟩:∃ y,y=(ai (f s)).num.length:=⟨_,rfl⟩;obtain ⟨y2,hy2⟩:∃ y,y=(ai (f s)).den.length:=⟨_,rfl⟩;rw [<-hy0,<-hy1,<-hy2] at hrg2 hq;obtain ⟨w5,hw5⟩:∃ w5,w5=wr.alloc (.cells #[.bool y0,.slice a6 y1 c6,.slice a7 y2 c7] 29):=⟨_,rfl⟩;have hr5:=aj.made wr #[.bool y0,.slice a6 y1 c6,.slice a7 y2 c7] 29;rw [<-hw5] at hr5;have hk5:ag wr w5:=by rw [hw5];exact (ag.refl _).alloc _
   have q0:=hr5.cell (i:=0) (by simp);have q1:=hr5.cell (i:=1) (by simp);have q2:=hr5.cell (i:=2) (by simp);simp only [List.getElem_cons_succ,List.getElem_cons_zero] at q0 q1 q2;have HQ5:=af (hq.kept hk5);have HRG:Hid (wr.rangeAt b (o+k*3) [.bool y0,.slice a6 y1 c6,.slice a7 y2 c7]):=af hrg2;have HW5:=af hw5;have HX5:=af (HX.out.kept hk5);have HKr5:=af (HKr.out.trans hk5);obtain ⟨p1,p2,p3,e1,e2,e3,e4,x0,x1,x2,hlx,HXA⟩:=HX5.out.read;clear hrg hrg2 hw1 hw2 hq hw5 hr5 hk5 hkl hsk hst hsx h91 hy0 hy1 hy2;go_wp2_with (with_reducible refine wpList_load_mid rfl 29 _ rfl b (o+k*3) rfl _ _ HRG.out Tryz.underlying29 rfl (by kernel_rfl) ?_);rw [<-HW5.out]
   go_region_with (first
    | (go_at_call 51;(with_reducible refine (HNT.out _ _ (HQ5.out.kept (ag.refl _).drew)).mono ?_);rintro e w6 ⟨⟨v6,rfl,hv6⟩,hk6⟩;have hk56:=(ag.refl _).drew.trans hk6;have HV6:=af hv6;have HX6:=af (HX5.out.kept hk56);have HA6:=af (HXA.out.kept hk56);have r0:=hk56.cell x0;have r1:=hk56.cell x1;have r2:=hk56.cell x2;have HK6:=af (HKr5.out.trans hk56);clear hv6 hk6 hk56)
    | (go_at_call 103;(with_reducible refine (HML.out _ _ _ HA6.out HV6.out).mono ?_);rintro e w7 ⟨⟨v7,rfl,hv7⟩,hk7⟩;obtain ⟨n8,l8,m8,a8,c8,b8,d8,w8,rfl,hw8,⟨⟨z0,j0⟩,⟨z1,j1⟩,⟨z2,j2⟩⟩,⟨f0,f1,f2⟩,hl8,_,_,HX8,HKP⟩:=(HX6.out.kept hk7).save hv7;have HKE:=af (HKP.out _ (HK6.out.trans hk7) (Nat.le_refl _));have HW8:=af hw8;clear hv7 hk7 hw8 HKP))
   all_goals
    rw [<-HW8.out];go_wp2_with fail;go_roundg (n - (k+1))
    case measure=>omega
    case rel=>exact ⟨k+1,by omega,by go_num,Nat.le_refl _,HX8,HKE⟩
  ·have hke:k=n:=by omega
   have hkn:¬ (k:Int)<(n:Int):=by omega
   have HX2:Hid (RatCell wr w3.heap.size R):=af (by
    have h:=HX.out;rw [List.take_of_length_le (by have:=HN.out;omega),<-HRR.out] at h;exact h)
   obtain ⟨p1,p2,p3,e1,e2,e3,e4,x0,x1,x2,hlx,HXA⟩:=HX2.out.read;obtain ⟨n8,l8,m8,a8,c8,b8,d8,w8,he,hw8,⟨⟨z0,j0⟩,⟨z1,j1⟩,⟨z2,j2⟩⟩,⟨f0,f1,f2⟩,hl8,Y,HRV,_,HKP⟩:=(HZ3.out.kept HKr.out).save HXA.out;have HKE:=af (HKP.out _ (HK3.out.trans HKr.out) (Nat.le_refl _));simp only [Value.agg.injEq,Array.mk.injEq,List.cons.injEq,Value.bool.injEq,Value.slice.injEq,and_true] at he;obtain ⟨rfl,⟨rfl,rfl,rfl⟩,rfl,rfl,rfl⟩:=he;rw [hw8] at Y HRV HKE;clear hw8 HKP hke;go_wp2;refine bodyPost_ret (v:=.agg #[.bool p1,.slice e1 p2 e2,.slice e3 p3 e4]) ?_ rfl ⟨⟨_,rfl,HRV.out⟩,HKE.out⟩;simp [results,Tryz.results52,go_sem,Y.out.1,Y.out.2.1,Y.out.2.2]
theorem js (f:Nat->Rat) (ss:List Nat) (v:Value) (w:World) (hv:RatsAt w v (ss.map fun s=>ai (f s))) (hl:ss.length<=1024) (hs:∀ s∈ss,(ai (f s)).Short 91) :
  Calls Tryz.prog 67 #[v] w fun e w'=>(∃ v',e=.returned v'/\RatAt w' v' (ai (aA f ss)))/\ag w w':=by
 have HSH:=af (fun k hk=>mv hs k hk);have HF:=af hv;have HS91:=af hs;obtain ⟨xa,xc,rfl⟩:=Be hv;obtain ⟨n,hn⟩:∃ n,n=ss.length:=⟨_,rfl⟩;rw [<-hn] at hl HF⊢;have HN:=af hn;obtain ⟨R,hR⟩:∃ R,R=ai (aA f ss):=⟨_,rfl⟩;rw [<-hR];have HRR:=af hR;clear hR hn hv hs;obtain ⟨w3,hw3⟩:∃ w3,w3=w.alloc (.cells #[.bool false,.slice none 0 0,.slice none 0 0] 29):=⟨_,rfl⟩;have HZ3:Hid (RatCell w3 w.heap.size ⟨false,[],[]⟩):=af (by rw [hw3];exact RatCell.zero w);have HK3:Hid (ag w w3):=af (by rw [hw3];exact (ag.refl w).alloc _);have hs3:w3.heap.size=w.heap.size+1:=by rw [hw3];simp
 obtain ⟨w4,hw4⟩:∃ w4,w4=w3.alloc (.cells #[.bool false,.slice none 0 0,.slice none 0 0] 29):=⟨_,rfl⟩;have HC:Hid (RatCell w4 (w.heap.size+1) (ai 0)):=af (by rw [hw4,<-hs3];exact RatCell.zero w3);have HK4:Hid (ag w3 w4):=af (by rw [hw4];exact (ag.refl w3).alloc _);have HW4:Hid (w4=(w.alloc (.cells #[.bool false,.slice none 0 0,.slice none 0 0] 29)).alloc (.cells #[.bool false,.slice none 0 0,.slice none 0 0] 29)):=af (by rw [hw4,hw3]);have HS3:=af hs3;clear hw3 hw4 hs3;go_enter Tryz.func67,Tryz.ntmps67;go_wp2_with fail;rw [<-HW4.out];go_loopg [9] n (fun kx s10 wr=>∃ k:Nat,k<=n/\s10=.int .i64 k/\n - k<=kx/\Hid (RatCell wr (w.heap.size+1) (ai (aA f (ss.take k))))/\Hid (ag w3 wr))
 case atStart=>exact ⟨0,Nat.zero_le _,rfl,by omega,HC,HK4⟩
 case round =>
  obtain ⟨k,hk,rfl,hkx,HX,HKr⟩:=hrel;by_cases hlt:k<n
  ·have hkn:(k:Int)<(n:Int):=by omega
   have hkl:k<ss.length:=by have:=HN.out;omega
   have HKw:=af (HK3.out.trans HKr.out);obtain ⟨b,o,u1,u2,rfl,hrg,hw1,hw2⟩:=HF.out.get k (by rw [List.length_map];exact hkl);rw [sK hkl] at hrg hw1 hw2;have hsk:=HSH.out k (by omega);have hst:=ji f ss hkl;obtain ⟨s,hsx⟩:∃ s,s=ss[k]:=⟨_,rfl⟩;rw [<-hsx] at hst hrg hw1 hw2;have h91:=HS91.out s (by rw [hsx];exact List.getElem_mem _);obtain ⟨a6,c6,rfl⟩:=hw1.shape;obtain ⟨a7,c7,rfl⟩:=hw2.shape;have hrg2:=bY hrg HKw.out;have hq:RatAt wr (.agg #[.bool (ai (f s)).neg,.slice a6 (ai (f s)).num.length c6,.slice a7 (ai (f s)).den.length c7]) (ai (f s)):=⟨_,_,rfl,hw1.kept HKw.out,hw2.kept HKw.out⟩
   have HMX:Hid (∀ W u1 u2,RatAt W u1 (ai (aA f (ss.take k)))->RatAt W u2 (ai (f s))->Calls Tryz.prog 65 #[u1,u2] W fun e w'=>(∃ v',e=.returned v'/\RatAt w' v' (ai (aA f (ss.take (k+1)))))/\ag W w'):=af fun W u1 u2 k1 k2=>by
    have h:=vl u1 u2 _ _ W k1 k2 ⟨Nat.le_trans hsk.1 (by omega),Nat.le_trans hsk.2 (by omega)⟩ ⟨Nat.le_trans h91.1 (by omega),Nat.le_trans h91.2 (by omega)⟩;rw [ap,ap,<-hst] at h;exact h
   obtain ⟨y0,hy0⟩:∃ y,y=(ai (f s)).neg:=⟨_,rfl⟩;obtain ⟨y1,hy1⟩:∃ y,y=(ai (f s)).num.length:=⟨_,rfl⟩;obtain ⟨y2,hy2⟩:∃ y,y=(ai (f s)).den.length:=⟨_,rfl⟩;rw [<-hy0,<-hy1,<-hy2] at hrg2 hq;obtain ⟨w5,hw5⟩:∃ w5,w5=wr.alloc (.cells #[.bool y0,.slice a6 y1 c6,.slice a7 y2 c7] 29):=⟨_,rfl⟩;have hr5:=aj.made wr #[.bool y0,.slice a6 y1 c6,.slice a7 y2 c7] 29;rw [<-hw5] at hr5;have hk5:ag wr w5:=by rw [hw5];exact (ag.refl _).alloc _
   have q0:=hr5.cell (i:=0) (by simp);have q1:=hr5.cell (i:=1) (by simp);have q2:=hr5.cell (i:=2) (by simp);simp only [List.getElem_cons_succ,List.getElem_cons_zero] at q0 q1 q2;have HQ5:=af (hq.kept hk5);have HRG:Hid (wr.rangeAt b (o+k*3) [.bool y0,.slice a6 y1 c6,.slice a7 y2 c7]):=af hrg2;have HW5:=af hw5;have HX5:=af (HX.out.kept hk5);have HKr5:=af (HKr.out.trans hk5);obtain ⟨p1,p2,p3,e1,e2,e3,e4,x0,x1,x2,hlx,HXA⟩:=HX5.out.read;clear hrg hrg2 hw1 hw2 hq hw5 hr5 hk5 hkl hsk hst hsx h91 hy0 hy1 hy2;go_upto_region 5 with (with_reducible refine wpList_load_mid rfl 29 _ rfl b (o+k*3) rfl _ _ HRG.out Tryz.underlying29 rfl (by kernel_rfl) ?_)
   rw [<-HW5.out];go_wp2_with fail;refine (HMX.out _ _ _ HXA.out HQ5.out).mono ?_;rintro e w7 ⟨⟨v7,rfl,hv7⟩,hk7⟩;obtain ⟨n8,l8,m8,a8,c8,b8,d8,w8,rfl,hw8,⟨⟨z0,j0⟩,⟨z1,j1⟩,⟨z2,j2⟩⟩,⟨f0,f1,f2⟩,hl8,_,_,HX8,HKP⟩:=(HX5.out.kept hk7).save hv7;have HKE:=af (HKP.out _ (HKr5.out.trans hk7) (by rw [HS3.out];exact Nat.le_refl _));have HW8:=af hw8;clear hv7 hk7 hw8 HKP x0 x1 x2 hlx q0 q1 q2;go_wp2_with fail;rw [<-HW8.out];go_roundg (n - (k+1))
   case measure=>omega
   case rel=>exact ⟨k+1,by omega,by go_num,Nat.le_refl _,HX8,HKE⟩
  ·have hke:k=n:=by omega
   have hkn:¬ (k:Int)<(n:Int):=by omega
   have HX2:Hid (RatCell wr (w.heap.size+1) R):=af (by
    have h:=HX.out;rw [List.take_of_length_le (by have:=HN.out;omega),<-HRR.out] at h;exact h)
   obtain ⟨p1,p2,p3,e1,e2,e3,e4,x0,x1,x2,hlx,HXA⟩:=HX2.out.read;obtain ⟨n8,l8,m8,a8,c8,b8,d8,w8,he,hw8,⟨⟨z0,j0⟩,⟨z1,j1⟩,⟨z2,j2⟩⟩,⟨f0,f1,f2⟩,hl8,Y,HRV,_,HKP⟩:=(HZ3.out.kept HKr.out).save HXA.out;have HKE:=af (HKP.out _ (HK3.out.trans HKr.out) (Nat.le_refl _));simp only [Value.agg.injEq,Array.mk.injEq,List.cons.injEq,Value.bool.injEq,Value.slice.injEq,and_true] at he;obtain ⟨rfl,⟨rfl,rfl,rfl⟩,rfl,rfl,rfl⟩:=he;rw [hw8] at Y HRV HKE;clear hw8 HKP hke;go_wp2;refine bodyPost_ret (v:=.agg #[.bool p1,.slice e1 p2 e2,.slice e3 p3 e4]) ?_ rfl ⟨⟨_,rfl,HRV.out⟩,HKE.out⟩;simp [results,Tryz.results67,go_sem,Y.out.1,Y.out.2.1,Y.out.2.2]
theorem yH {w:World} {b o:Nat}:∀ (ps:List Rw) (d:Nat),(∀ i (h:i<ps.length),∃ u1 u2,w.rangeAt b (o+(d+i)*3) [.bool ps[i].neg,u1,u2]/\WdsAt w u1 ps[i].num/\WdsAt w u2 ps[i].den) ->
  ∃ L:List rY,L.map Prod.fst=ps/\(∀ x∈L,h_ w x)/\w.rangeAt b (o+d*3) (L.flatMap kp):=by
 intro ps;induction ps with
 | nil=>intro d _;exact ⟨[],rfl,(fun x hx=>by cases hx),fun j v hj=>by simp at hj⟩
 | cons r ps ih =>
  intro d h;obtain ⟨u1,u2,h1,h2,h3⟩:=h 0 (by simp)
  obtain ⟨L,e,hL,hr⟩:=ih (d+1) fun i hi=>by
   obtain ⟨u1,u2,h1,h2,h3⟩:=h (i+1) (by simpa using hi);refine ⟨u1,u2,?_,h2,h3⟩;rw [show d+1+i=d+(i+1) by omega];exact h1
  refine ⟨(r,u1,u2) :: L,by rw [List.map_cons,e],fun x hx=>?_,fun j v hj=>?_⟩
  ·rcases List.mem_cons.1 hx with rfl | hx
   ·exact ⟨h2,h3⟩
   ·exact hL x hx
  ·rw [List.flatMap_cons] at hj;by_cases hj3:j<3
   ·rw [List.getElem?_append_left (by simpa [kp] using hj3)] at hj;have:=h1 j v hj
    rwa [Nat.add_zero] at this
   ·rw [List.getElem?_append_right (by simp [kp];omega)] at hj;have:=hr (j - 3) v (by simpa [kp] using hj);rw [show o+(d+1)*3+(j - 3)=o+d*3+j by omega] at this;exact this
theorem nY {ops:Array Oper} {rest:List Oper} {o:Oper} {a:Act} {Q:Exit->Act->World->Prop} {w:World} (hgd:o.guard=none) (s x:Operand)
  (ho:o.op=.call { callee:=.builtin .append,args:=#[s,x],argTypes:=#[23,23] }) (B:Nat) (v:Value) (rs:List Rw) (hs:a.eval s=v) (hown:OwnRats w B v rs)
  (u:Value) (ps:List Rw) (hx:a.eval x=u) (hu:RatsAt w u ps) (hl:rs.length+ps.length<1099511627776) (hB:B<=w.heap.size)
  (h:∀ v' w',OwnRats w' B v' (rs++ps)->Below B w w'->wpList Tryz.prog ops Q rest (a.put o.dst v') w'):wpList Tryz.prog ops Q (o :: rest) a w:=by
 obtain ⟨i0,hi0,hz0,hz1,hz2⟩:=info_parts oB;obtain ⟨L,h1,h2,h3,h4,h5⟩:=hown;have hll:L.length=rs.length:=by rw [<-h1,List.length_map]
 obtain ⟨ad,c,rfl,⟨hc,hcn⟩,hpl,hget⟩:=hu;cases ad with
 | none =>
  have hp:ps=[]:=by
   cases ps with
   | nil=>rfl
   | cons r ps=>obtain ⟨b,o,_,_,h,_⟩:=hget 0 (by simp);cases h
  subst hp;rw [hcn rfl] at hx;refine wpList_append_own_none hgd s x 23 ho B 29 i0 3 Tryz.underlying23 hi0 v L.length _ hs h2 hx ?_;exact h v w (by rw [List.append_nil];exact ⟨L,h1,h2,h3,h4,h5⟩) (Below.refl _ _)
 | some ad =>
  have hL2:∃ L2:List rY,L2.map Prod.fst=ps/\(∀ x∈L2,h_ w x)/\∀ j u,(L2.flatMap kp)[j]?=some u->w.cell? (ad.add j)=some u:=by
   cases ps with
   | nil=>exact ⟨[],rfl,(fun x hx=>by cases hx),fun j u hj=>by simp at hj⟩
   | cons r0 ps0 =>
    obtain ⟨b,o,_,_,he,_⟩:=hget 0 (by simp);cases he
    obtain ⟨L2,e1,e2,e3⟩:=yH (w:=w) (b:=b) (o:=o) (r0 :: ps0) 0 fun i hi=>by
     obtain ⟨b2,o2,u1,u2,he,k1,k2,k3⟩:=hget i hi;cases he;exact ⟨u1,u2,by rw [Nat.zero_add];exact k1,k2,k3⟩
    refine ⟨L2,e1,e2,fun j u hj=>?_⟩;have:=e3 j u hj;rw [Nat.zero_mul,Nat.add_zero] at this;rw [show ({ block:=b,off:=o }:Addr).add j=⟨b,o+j,none⟩ by unfold Addr.add;split <;> simp_all];exact this
  obtain ⟨L2,g1,g2,g3⟩:=hL2;have hl2:L2.length=ps.length:=by rw [<-g1,List.length_map]
  have hone:=vA (L:=L2) (w:=w) g2;refine wpList_plain hgd fun _ hK=>fP w s x 23 ho B 29 i0 _ 3 56 Tryz.underlying23 hi0 hz0 hz1 hz2 rfl (by decide) v L.length _ hs h2 ad ps.length c (L2.flatMap kp) hx (by rw [DO,hl2]) g3 (fun u hu=>(hone u hu).1) (by simp [maxLen];omega) (by omega) hB h4 (fun u hu=>(hone u hu).2) pP ?_
  intro v' w' h6 h7 h8;refine hK _ _ (h v' w' ⟨L++L2,by rw [List.map_append,h1,g1],?_,by simp;omega,h8,fun y hy=>?_⟩ (bf h7 h2 hB))
  ·rw [List.length_append,List.flatMap_append,hl2];exact h6
  ·rcases List.mem_append.1 hy with hy | hy
   ·exact (h5 y hy).only h4 h7.block
   ·exact (g2 y hy).only h4 h7.block
theorem OwnRats.shape {w:World} {B:Nat} {v:Value} {rs:List Rw} (h:OwnRats w B v rs) (h0:rs≠[]):∃ g cap,v=.slice (some ⟨g,0,none⟩) rs.length cap/\B<=g/\g<w.heap.size/\rs.length<=cap:=by
 obtain ⟨L,h1,⟨h2,h3⟩,_⟩:=h;have hll:L.length=rs.length:=by rw [<-h1,List.length_map]
 rcases h3 with ⟨_,h3⟩ | ⟨g,cap,cur,rfl,h4,h5,h6,_⟩
 ·exact absurd (List.eq_nil_of_length_eq_zero (hll.symm.trans h3)) h0
 ·exact ⟨g,cap,by rw [hll],h4,fD h5,by omega⟩
theorem OwnRats.free {w:World} {B g n cap:Nat} {rs:List Rw} (h:OwnRats w B (.slice (some ⟨g,0,none⟩) n cap) rs) (i:Nat):w.frozen? ⟨g,i,none⟩=false:=by
 obtain ⟨L,_,⟨_,h3⟩,_⟩:=h;rcases h3 with ⟨h3,_⟩ | ⟨g',cap',cur,h3,_,h4,_⟩
 ·cases h3
 ·cases h3;simp [World.frozen?,h4]
theorem mD {w:World} {g i:Nat} {u:Value} (h:qb w g) (hu:nJ u):qb (w.setCell ⟨g,i,none⟩ u) g:=by
 intro cur e fr hg x hx
 have hh:(w.setCell ⟨g,i,none⟩ u).heap[g]?=(w.heap[g]?).map (fun x=>match x with | .cells c e f=>.cells (c.setIfInBounds i u) e f | o=>o):=by
  simp [World.setCell,Array.getElem?_modify];congr 1
 rw [hh] at hg;obtain ⟨ob,hw,ho⟩:=Option.map_eq_some_iff.1 hg;cases ob with
 | cells c0 e0 fr0 =>
  simp only [Obj.cells.injEq] at ho;obtain ⟨rfl,_,_⟩:=ho;rw [Array.toList_setIfInBounds] at hx;rcases List.mem_or_eq_of_mem_set hx with hx | rfl
  ·exact h c0 _ _ hw x hx
  ·exact hu
 | _=>cases ho
theorem OwnRats.set {w:World} {B g n cap:Nat} {rs:List Rw} (h:OwnRats w B (.slice (some ⟨g,0,none⟩) n cap) rs) (hn:n=rs.length) (i:Nat) (hi:i<rs.length) {r:Rw} {u1 u2:Value} (h1:WdsAt w u1 r.num) (h2:WdsAt w u2 r.den) :
  OwnRats (((w.setCell ⟨g,i*3,none⟩ (.bool r.neg)).setCell ⟨g,i*3+1,none⟩ u1).setCell ⟨g,i*3+2,none⟩ u2) B (.slice (some ⟨g,0,none⟩) n cap) (rs.set i r):=by
 obtain ⟨L,e,k2,k3,k4,k5⟩:=h;have hll:L.length=rs.length:=by rw [<-e,List.length_map]
 rw [<-hll] at hn;subst hn;have hN:=k4 g (by simp [Value.ownBlock]);have s1:=k2.stored (i*3) (.bool r.neg);have s2:=s1.1.stored (i*3+1) u1;have s3:=s2.1.stored (i*3+2) u2;have n1:=mD (i:=i*3) hN (u:=.bool r.neg) (fun x e=>by cases e);have n2:=mD (i:=i*3+1) n1 h1.cell1.2;have n3:=mD (i:=i*3+2) n2 h2.cell1.2;have hO:=(((aw.refl g w).store (i*3) (.bool r.neg)).store (i*3+1) u1).store (i*3+2) u2;have keep:∀ x,h_ w x->h_ (((w.setCell ⟨g,i*3,none⟩ (.bool r.neg)).setCell ⟨g,i*3+1,none⟩ u1).setCell ⟨g,i*3+2,none⟩ u2) x:=fun x hx=>hx.only (g:=some g) (fun k hk=>by cases hk;exact hN) (fun k hk hne=>hO.block k hk (fun e=>hne (by rw [e])))
 refine ⟨L.set i (r,u1,u2),by rw [List.map_set,e],?_,by simpa using k3,fun g' hg'=>?_,fun x hx=>?_⟩
 ·rw [List.length_set,vB L (r,u1,u2) i (by omega)];exact s3.1
 ·simp [Value.ownBlock] at hg';subst hg';exact n3
 ·rcases List.mem_or_eq_of_mem_set hx with hx | rfl
  ·exact keep x (k5 x hx)
  ·exact keep (r,u1,u2) ⟨h1,h2⟩
theorem OwnRats.new (w:World) (B:Nat) (hB:B<=w.heap.size):OwnRats (w.alloc (.cells #[] 29)) B (.slice (some ⟨w.heap.size,0,none⟩) 0 0) [] :=
 ⟨[],rfl,⟨by simp,.inr ⟨w.heap.size,0,#[],rfl,hB,heap_alloc_new w _,Nat.le_refl _,by unfold maxLen;omega,by simp,by simp⟩⟩,by simp,(fun g hg=>by
  simp [Value.ownBlock] at hg;subst hg;exact CL w #[] 29 (fun u hu=>by simp at hu)),fun x hx=>by cases hx⟩
theorem jf (s:Nat) (v:Value) (ps:List Rw) (w:World) (hs:s<16777216) (hv:RatsAt w v ps) (hp3:∀ r∈ps,r.Short 3) (hp30:ps.length<=30) (hb:cK ps=false) :
  Calls Tryz.prog 54 #[.int .i64 s,v] w fun e w'=>(∃ v',e=.returned v'/\RatAt w' v' (ai (gQ ps s)))/\ag w w':=by
 have HFA:Hid (∀ W u,RatsAt W u (em ps)->Calls Tryz.prog 49 #[.int .i64 s,u] W fun e w'=>(∃ v',e=.returned v'/\RatAt w' v' (ai (gQ ps s)))/\ag W w'):=af fun W u hu =>
  fz s u (em ps) W hs hu (mX hv.ok hb hp3 (by decide)) (by rw [dZ];exact hp30)
 have HV:=af hv;have HP3:=af hp3;obtain ⟨a,c,rfl⟩:=hv.shape;obtain ⟨n,hn⟩:∃ n,n=ps.length:=⟨_,rfl⟩;rw [<-hn] at HV hp30⊢;have HN:=af hn;obtain ⟨R,hR⟩:∃ R,R=ai (gQ ps s):=⟨_,rfl⟩;rw [<-hR] at HFA⊢;obtain ⟨w2,hw2⟩:∃ w2,w2=w.alloc (.cells #[.bool false,.slice none 0 0,.slice none 0 0] 29):=⟨_,rfl⟩;have HZ:Hid (RatCell w2 w.heap.size ⟨false,[],[]⟩):=af (by rw [hw2];exact RatCell.zero w);have HK0:Hid (ag w w2):=af (by rw [hw2];exact (ag.refl w).alloc _);have HW2:=af hw2;clear hn hv hp3 hs hw2 hR hb;go_enter Tryz.func54,Tryz.ntmps54;go_wp2_with fail;rw [<-HW2.out];go_loopg [5,10] n (fun kx s5 s10 wr=>∃ k:Nat,k<=n/\s10=.int .i64 k/\n - k<=kx/\Hid (OwnRats wr w2.heap.size s5 ((em ps).take k))/\Hid (ag w2 wr))
 case atStart=>exact ⟨0,Nat.zero_le _,rfl,by omega,af (OwnRats.nil _ _),af (ag.refl _)⟩
 case round =>
  obtain ⟨k,hk,rfl,hkx,HO,HKr⟩:=hrel;have HKw:=af (HK0.out.trans HKr.out);by_cases hlt:k<n
  ·have hkn:(k:Int)<(n:Int):=by omega
   have hkl:k<ps.length:=by have:=HN.out;omega
   obtain ⟨b,o,u1,u2,rfl,hrg,hw1,hw2⟩:=HV.out.get k hkl;obtain ⟨a6,c6,rfl⟩:=hw1.shape;obtain ⟨a7,c7,rfl⟩:=hw2.shape;have hrg2:=bY hrg HKw.out;have hq:RatAt wr (.agg #[.bool (ps.getD k default).neg,.slice a6 (ps.getD k default).num.length c6,.slice a7 (ps.getD k default).den.length c7]) (ps.getD k default):=⟨_,_,rfl,hw1.kept HKw.out,hw2.kept HKw.out⟩
   have hx3:(ps.getD k default).Short 3:=by
    have e:ps.getD k default=ps[k]:=by simp [List.getD_eq_getElem?_getD,hkl]
    rw [e];exact HP3.out _ (List.getElem_mem _)
   have HTK:=af (tQ ps hkl);obtain ⟨x,hxx⟩:∃ x,x=ps.getD k default:=⟨_,rfl⟩;rw [<-hxx] at hrg2 hq hx3 HTK;have HNT:Hid (∀ W u,RatAt W u x->Calls Tryz.prog 47 #[u] W fun e w'=>(∃ v',e=.returned v'/\RatAt w' v' (ai (1 - al x)))/\ag W w'):=af fun W u k1=>eK u x W k1 ⟨Nat.le_trans hx3.1 (by omega),Nat.le_trans hx3.2 (by omega)⟩
   obtain ⟨w5,hw5⟩:∃ w5,w5=wr.alloc (.cells #[.bool x.neg,.slice a6 x.num.length c6,.slice a7 x.den.length c7] 29):=⟨_,rfl⟩;have hr5:=aj.made wr #[.bool x.neg,.slice a6 x.num.length c6,.slice a7 x.den.length c7] 29;rw [<-hw5] at hr5;have hk5:ag wr w5:=by rw [hw5];exact (ag.refl _).alloc _
   have q0:=hr5.cell (i:=0) (by simp);have q1:=hr5.cell (i:=1) (by simp);have q2:=hr5.cell (i:=2) (by simp);simp only [List.getElem_cons_succ,List.getElem_cons_zero] at q0 q1 q2;have HQ5:=af (hq.kept hk5);obtain ⟨Y,hY⟩:∃ Y,Y=ai (1 - al x):=⟨_,rfl⟩;rw [<-hY] at HNT HTK;generalize x.neg=y0 at *;generalize x.num.length=y1 at *;generalize x.den.length=y2 at *;have HRG:Hid (wr.rangeAt b (o+k*3) [.bool y0,.slice a6 y1 c6,.slice a7 y2 c7]):=af hrg2;have HK5:=af hk5;have HW5:=af hw5;have hlen:((em ps).take k).length<=30:=by rw [List.length_take];omega
   have HLEN:=af hlen;clear hrg hrg2 hw1 hw2 hq hx3 hxx hw5 hr5 hk5 hkl hY hlen;go_wp2_with (with_reducible refine wpList_load_mid rfl 29 _ rfl b (o+k*3) rfl _ _ HRG.out Tryz.underlying29 rfl (by kernel_rfl) ?_);rw [<-HW5.out];refine (HNT.out _ _ HQ5.out).mono ?_;rintro e w6 ⟨⟨v6,rfl,hv6⟩,hk6⟩;obtain ⟨u3,u4,rfl,hw3,hw4⟩:=hv6;obtain ⟨a8,c8,rfl⟩:=hw3.shape;obtain ⟨a9,c9,rfl⟩:=hw4.shape;have HK6:=af (HKr.out.trans (HK5.out.trans hk6));have ho7:=(HO.out.kept (HK5.out.trans hk6)).kept ((ag.refl w6).alloc (.cells #[.bool Y.neg,.slice a8 Y.num.length c8,.slice a9 Y.den.length c9] 29));have hs6:w2.heap.size<=w6.heap.size:=HK6.out.size;have HO7:=af ho7;have HW3:=af (hw3.kept ((ag.refl w6).alloc (.cells #[.bool Y.neg,.slice a8 Y.num.length c8,.slice a9 Y.den.length c9] 29)));have HW4:=af (hw4.kept ((ag.refl w6).alloc (.cells #[.bool Y.neg,.slice a8 Y.num.length c8,.slice a9 Y.den.length c9] 29)));have HS6:=af hs6;clear hk6 hw3 hw4 ho7 hs6 q0 q1 q2;go_wp2_with (at_builtin;refine qW rfl _ _ rfl w2.heap.size _ ((em ps).take k) rfl HO7.out w6.heap.size Y _ _ rfl (gO _ _ _ _ _) HW3.out HW4.out (by have:=HLEN.out;omega) (by have:=HS6.out;simp;omega) ?_;intro v8 w8 hown8 hb8;have HO8:=af hown8;have HK8:=af ((HK6.out.alloc _).app hb8);clear hown8 hb8);go_roundg (n - (k+1))
   case measure=>omega
   case rel=>exact ⟨k+1,by omega,by go_num,Nat.le_refl _,af (by rw [HTK.out];exact HO8.out),HK8⟩
  ·have hkn:¬ (k:Int)<(n:Int):=by omega
   have HRV:Hid (RatsAt wr u5 (em ps)):=af (by
    have h:=HO.out.at;rw [List.take_of_length_le (by rw [dZ];have:=HN.out;omega)] at h;exact h)
   go_wp2_with fail;refine (HFA.out _ _ HRV.out).mono ?_;rintro e w7 ⟨⟨v7,rfl,hv7⟩,hk7⟩;obtain ⟨n8,l8,m8,a8,c8,b8,d8,w8,rfl,hw8,⟨⟨z0,j0⟩,⟨z1,j1⟩,⟨z2,j2⟩⟩,⟨f0,f1,f2⟩,hl8,Y,HRW,_,HKP⟩:=(HZ.out.kept (HKr.out.trans hk7)).save hv7;have HKE:=af (HKP.out _ (HKw.out.trans hk7) (Nat.le_refl _));rw [hw8] at Y HRW HKE;clear hv7 hk7 hw8 HKP;go_wp2;refine bodyPost_ret (v:=.agg #[.bool n8,.slice a8 l8 c8,.slice b8 m8 d8]) ?_ rfl ⟨⟨_,rfl,HRW.out⟩,HKE.out⟩;simp [results,Tryz.results54,go_sem,Y.out.1,Y.out.2.1,Y.out.2.2]
theorem OwnRats.at3 {w:World} {B g n cap:Nat} {rs:List Rw} (h:OwnRats w B (.slice (some ⟨g,0,none⟩) n cap) rs) (i:Nat) (hi:i<rs.length):∃ a1 c1 a2 c2,w.cell? ⟨g,i*3,none⟩=some (.bool (rs.getD i default).neg)/\w.cell? ⟨g,i*3+1,none⟩=some (.slice a1 (rs.getD i default).num.length c1)/\w.cell? ⟨g,i*3+2,none⟩=some (.slice a2 (rs.getD i default).den.length c2) /\
  RatAt w (.agg #[.bool (rs.getD i default).neg,.slice a1 (rs.getD i default).num.length c1,.slice a2 (rs.getD i default).den.length c2]) (rs.getD i default):=by
 obtain ⟨b,o,u1,u2,e,h1,h2,h3⟩:=h.at.get i hi;obtain ⟨a1,c1,rfl⟩:=h2.shape;obtain ⟨a2,c2,rfl⟩:=h3.shape;simp only [Option.some.injEq,Addr.mk.injEq,and_true] at e;obtain ⟨rfl,rfl⟩:=e;rw [Nat.zero_add] at h1;have q0:=h1 0 _ rfl;rw [Nat.add_zero] at q0;exact ⟨a1,c1,a2,c2,q0,h1 1 _ rfl,h1 2 _ rfl,_,_,rfl,h2,h3⟩
def nP (ps:List Rw) (k:Nat):List Rw:=(em ps).take k++ps.drop k
theorem CH {ps:List Rw} {k:Nat} (hk:k<=ps.length):(nP ps k).length=ps.length:=by
 unfold nP;rw [List.length_append,List.length_take,List.length_drop,dZ];omega
theorem CG {ps:List Rw} {k:Nat} (hk:k<ps.length):(nP ps k).getD k default=ps.getD k default:=by
 unfold nP;rw [List.getD_eq_getElem?_getD,List.getElem?_append_right (by rw [List.length_take];omega),List.length_take,dZ,Nat.min_eq_left (by omega),Nat.sub_self,List.getElem?_drop,Nat.add_zero,<-List.getD_eq_getElem?_getD]
theorem CI {ps:List Rw} {k:Nat} (hk:k<ps.length):(nP ps k).set k (ai (1 - al (ps.getD k default)))=nP ps (k+1):=by
 unfold nP;have e:((em ps).take k).length=k:=by rw [List.length_take,dZ];omega
 rw [List.set_append_right _ _ (by omega),e,Nat.sub_self,tQ ps hk,List.drop_eq_getElem_cons hk,List.set_cons_zero,List.append_assoc];rfl
theorem CF (ps:List Rw):nP ps ps.length=em ps:=by
 unfold nP;rw [List.take_of_length_le (by rw [dZ];exact Nat.le_refl _),List.drop_length,List.append_nil]
theorem oJ {f:Nat->Rat} {ss:List Nat} {k:Nat} (hk:k<ss.length):((ss.take (k+1)).map fun s=>ai (f s))=((ss.take k).map fun s=>ai (f s))++[ai (f ss[k])]:=by
 rw [List.take_succ_eq_append_getElem hk,List.map_append];rfl
theorem lO (xv v:Value) (ss:List Nat) (ps:List Rw) (w:World) (hx:am w xv (aL ss)) (hl:ss.length<=1024) (hm:∀ s∈ss,s<16777216/\jE s<(ps.length:Int)) (hv:RatsAt w v ps) (hp3:∀ r∈ps,r.Short 3) (hp30:ps.length<=30) :
  Calls Tryz.prog 53 #[xv,v,.bool false] w fun e w'=>(∃ v',e=.returned v'/\RatsAt w' v' (ss.map fun s=>ai (fQ ps s)))/\ag w w':=by
 have HPR:Hid (∀ s W u,s∈ss->RatsAt W u ps->Calls Tryz.prog 104 #[u,.int .i64 s] W fun e w'=>(∃ v',e=.returned v'/\RatAt w' v' (ai (fQ ps s)))/\ag W w'):=af fun s W u hs hu=>by
  have h:=hm s hs;exact jt s u ps W h.1 hu hp3 h.2
 have HF:=af hx;have HV:=af hv;have HP3:=af hp3;obtain ⟨xa,xn,xc,rfl⟩:=hx.shape;obtain ⟨m,hmm⟩:∃ m,m=ss.length:=⟨_,rfl⟩
 have hxn:xn=m:=by
  obtain ⟨_,_,e,_⟩:=hx;injection e with _ e2 _
  rw [e2,hmm];simp [aL]
 subst hxn;rw [<-hmm] at hl;have HM:=af hmm;obtain ⟨pa,pc,rfl⟩:=hv.shape;obtain ⟨n,hn⟩:∃ n,n=ps.length:=⟨_,rfl⟩;rw [<-hn] at HV hp30⊢;have HN:=af hn;obtain ⟨w1,hw1⟩:∃ w1,w1=w.alloc (.cells #[] 29):=⟨_,rfl⟩;have HO1:Hid (OwnRats w1 w.heap.size (.slice (some ⟨w.heap.size,0,none⟩) 0 0) []):=af (by rw [hw1];exact OwnRats.new w _ (Nat.le_refl _));have HK1:Hid (ag w w1):=af (by rw [hw1];exact (ag.refl w).alloc _);have HW1:=af hw1;clear hmm hn hx hv hp3 hm hw1;go_enter Tryz.func53,Tryz.ntmps53;go_wp2_with (rw [<-HW1.out];at_builtin;refine nY rfl _ _ rfl w.heap.size _ [] rfl HO1.out _ ps rfl (HV.out.kept HK1.out) (by have:=HN.out;simp;omega) HK1.out.size ?_;intro qv w2 hown2 hb2;rw [List.nil_append] at hown2;have HK2:=af (HK1.out.app hb2);obtain ⟨qa,qc,rfl⟩:=hown2.at.shape;rw [<-HN.out] at hown2⊢;have HO3:=af hown2;clear hown2 hb2);have HQL:Hid (OwnRats w2 w.heap.size (.slice qa n qc) ps):=HO3;have HKr:=HK2;obtain ⟨w3,hw3⟩:∃ w3:World,w3=w2:=⟨_,rfl⟩;have HW3:=af hw3;rw [<-hw3] at HKr HQL;clear hw3 HO3 HK2;go_wp2_with fail;rw [<-HW3.out];go_loopg [9,32] xn (fun kx s9 s32 wq=>∃ j:Nat,j<=xn/\s32=.int .i64 j/\xn - j<=kx/\Hid (OwnRats wq w3.heap.size s9 ((ss.take j).map fun s=>ai (fQ ps s)))/\Hid (ag w3 wq))
 case atStart=>exact ⟨0,Nat.zero_le _,rfl,by omega,af (OwnRats.nil _ _),af (ag.refl _)⟩
 case round =>
  obtain ⟨j,hj,rfl,hjx,HOU,HKq⟩:=hrel;have HKw:=af (HKr.out.trans HKq.out);by_cases hlt2:j<xn
  ·have hjn:(j:Int)<(xn:Int):=by omega
   have hjl:j<ss.length:=by have:=HM.out;omega
   obtain ⟨b,o,rfl,hce⟩:=HF.out.get j (by simpa [aL] using hjl);have hst:=oJ (f:=fQ ps) hjl;obtain ⟨s,hsx⟩:∃ s,s=ss[j]:=⟨_,rfl⟩;have e1:(aL ss)[j]'(by simpa [aL] using hjl)=(s:Int):=by rw [hsx];simp [aL]
   rw [e1] at hce;rw [<-hsx] at hst;have hcr:=HKw.out.cell hce;have HPC:Hid (∀ W u,RatsAt W u ps->Calls Tryz.prog 104 #[u,.int .i64 s] W fun e w'=>(∃ v',e=.returned v'/\RatAt w' v' (ai (fQ ps s)))/\ag W w'):=af fun W u=>HPR.out s W u (by rw [hsx];exact List.getElem_mem _)
   obtain ⟨Y,hY⟩:∃ Y,Y=ai (fQ ps s):=⟨_,rfl⟩;rw [<-hY] at HPC hst;have HST:=af hst;have HLEN:Hid (((ss.take j).map fun s=>ai (fQ ps s)).length<=1024):=af (by rw [List.length_map,List.length_take];omega);clear hce hst hsx hY hjl e1;go_wp2_with fail;refine (HPC.out _ _ (HQL.out.at.kept HKq.out)).mono ?_;rintro e w6 ⟨⟨v6,rfl,hv6⟩,hk6⟩;obtain ⟨u3,u4,rfl,hw5,hw6⟩:=hv6;obtain ⟨a8,c8,rfl⟩:=hw5.shape;obtain ⟨a9,c9,rfl⟩:=hw6.shape;have HK6:=af (HKq.out.trans hk6);have ho7:=(HOU.out.kept hk6).kept ((ag.refl w6).alloc (.cells #[.bool Y.neg,.slice a8 Y.num.length c8,.slice a9 Y.den.length c9] 29));have HS6:=af (HKq.out.trans hk6).size;have HO7:=af ho7;have HW5:=af (hw5.kept ((ag.refl w6).alloc (.cells #[.bool Y.neg,.slice a8 Y.num.length c8,.slice a9 Y.den.length c9] 29)));have HW6:=af (hw6.kept ((ag.refl w6).alloc (.cells #[.bool Y.neg,.slice a8 Y.num.length c8,.slice a9 Y.den.length c9] 29)));clear hk6 hw5 hw6 ho7;go_wp2_with (at_builtin;refine qW rfl _ _ rfl w3.heap.size _ ((ss.take j).map fun s=>ai (fQ ps s)) rfl HO7.out w6.heap.size Y _ _ rfl (gO _ _ _ _ _) HW5.out HW6.out (by have:=HLEN.out;omega) (by have:=HS6.out;simp;omega) ?_;intro v8 w8 hown8 hb8;have HO8:=af hown8;have HK8:=af ((HK6.out.alloc _).app hb8);clear hown8 hb8);go_roundg (xn - (j+1))
   case measure=>omega
   case rel=>exact ⟨j+1,by omega,by go_num,Nat.le_refl _,af (by rw [HST.out];exact HO8.out),HK8⟩
  ·have hjn:¬ (j:Int)<(xn:Int):=by omega
   have HRV:Hid (RatsAt wr u9 (ss.map fun s=>ai (fQ ps s))):=af (by
    have h:=HOU.out.at;rw [List.take_of_length_le (by have:=HM.out;omega)] at h;exact h)
   go_wp2;go_ret;exact ⟨⟨_,rfl,HRV.out⟩,HKw.out⟩
theorem lP (xv v:Value) (ss:List Nat) (ps:List Rw) (w:World) (hx:am w xv (aL ss)) (hl:ss.length<=1024) (hm:∀ s∈ss,s<16777216/\jE s<(ps.length:Int)) (hv:RatsAt w v ps) (hp3:∀ r∈ps,r.Short 3) (hp30:ps.length<=30) (hb:cK ps=false) :
  Calls Tryz.prog 53 #[xv,v,.bool true] w fun e w'=>(∃ v',e=.returned v'/\RatsAt w' v' (ss.map fun s=>ai (gQ ps s)))/\ag w w':=by
 have HPR:Hid (∀ s W u,s∈ss->RatsAt W u (em ps)->Calls Tryz.prog 104 #[u,.int .i64 s] W fun e w'=>(∃ v',e=.returned v'/\RatAt w' v' (ai (gQ ps s)))/\ag W w'):=af fun s W u hs hu=>by
  have h:=hm s hs;exact jt s u (em ps) W h.1 hu (mX hv.ok hb hp3 (by decide)) (by rw [dZ];exact h.2)
 have HF:=af hx;have HV:=af hv;have HP3:=af hp3;obtain ⟨xa,xn,xc,rfl⟩:=hx.shape;obtain ⟨m,hmm⟩:∃ m,m=ss.length:=⟨_,rfl⟩
 have hxn:xn=m:=by
  obtain ⟨_,_,e,_⟩:=hx;injection e with _ e2 _
  rw [e2,hmm];simp [aL]
 subst hxn;rw [<-hmm] at hl;have HM:=af hmm;obtain ⟨pa,pc,rfl⟩:=hv.shape;obtain ⟨n,hn⟩:∃ n,n=ps.length:=⟨_,rfl⟩;rw [<-hn] at HV hp30⊢;have HN:=af hn;obtain ⟨w1,hw1⟩:∃ w1,w1=w.alloc (.cells #[] 29):=⟨_,rfl⟩;have HO1:Hid (OwnRats w1 w.heap.size (.slice (some ⟨w.heap.size,0,none⟩) 0 0) []):=af (by rw [hw1];exact OwnRats.new w _ (Nat.le_refl _));have HK1:Hid (ag w w1):=af (by rw [hw1];exact (ag.refl w).alloc _);have HW1:=af hw1;clear hmm hn hx hv hp3 hm hb hw1;go_enter Tryz.func53,Tryz.ntmps53;go_wp2_with (rw [<-HW1.out];at_builtin;refine nY rfl _ _ rfl w.heap.size _ [] rfl HO1.out _ ps rfl (HV.out.kept HK1.out) (by have:=HN.out;simp;omega) HK1.out.size ?_;intro qv w2 hown2 hb2;rw [List.nil_append] at hown2;have HK2:=af (HK1.out.app hb2);obtain ⟨qa,qc,rfl⟩:=hown2.at.shape;rw [<-HN.out] at hown2⊢;have HO3:=af hown2;clear hown2 hb2)
 have HNT:Hid (∀ k W u,k<ps.length->RatAt W u (ps.getD k default)->Calls Tryz.prog 51 #[u] W fun e w'=>(∃ v',e=.returned v'/\RatAt w' v' (ai (1 - al (ps.getD k default))))/\ag W w'):=af fun k W u hk k1=>by
  have e:ps.getD k default=ps[k]:=by simp [List.getD_eq_getElem?_getD,hk]
  have h3:=HP3.out ps[k] (List.getElem_mem _);rw [<-e] at h3;exact eF u _ W k1 ⟨Nat.le_trans h3.1 (by omega),Nat.le_trans h3.2 (by omega)⟩
 go_loopg [18] n (fun kx s10 wr=>∃ k:Nat,k<=n/\s10=.int .i64 k/\n - k<=kx/\Hid (OwnRats wr w.heap.size (.slice qa n qc) (nP ps k))/\Hid (ag w wr))
 case atStart=>exact ⟨0,Nat.zero_le _,rfl,by omega,HO3,HK2⟩
 case round =>
  obtain ⟨k,hk,rfl,hkx,HO,HKr⟩:=hrel;by_cases hlt:k<n
  ·have hkn:(k:Int)<(n:Int):=by omega
   have hkl:k<ps.length:=by have:=HN.out;omega
   have hml:=CH (Nat.le_of_lt hkl);obtain ⟨g,cap,he,hBg,hgl,hcap⟩:=HO.out.shape (by intro e;rw [e] at hml;simp at hml;omega);simp only [Value.slice.injEq] at he;obtain ⟨rfl,hdrop,rfl⟩:=he;clear hdrop;obtain ⟨a6,c6,a7,c7,x0,x1,x2,hq⟩:=HO.out.at3 k (by omega);rw [CG hkl] at x0 x1 x2 hq;obtain ⟨x,hxx⟩:∃ x,x=ps.getD k default:=⟨_,rfl⟩;have HST:=af (CI hkl);have HN1:Hid (∀ W u,RatAt W u x->Calls Tryz.prog 51 #[u] W fun e w'=>(∃ v',e=.returned v'/\RatAt w' v' (ai (1 - al x)))/\ag W w'):=af fun W u=>by rw [hxx];exact HNT.out k W u hkl
   rw [<-hxx] at x0 x1 x2 hq HST;obtain ⟨Y,hY⟩:∃ Y,Y=ai (1 - al x):=⟨_,rfl⟩;rw [<-hY] at HST HN1;have HQ:=af hq;have HML:Hid (k<(nP ps k).length/\n=(nP ps k).length):=af ⟨by omega,by rw [hml];exact HN.out⟩;have HBG:=af hBg;generalize x.neg=y0 at *;generalize x.num.length=y1 at *;generalize x.den.length=y2 at *;clear hq hY hxx hkl hml hBg hcap;go_wp2_with fail;refine (HN1.out _ _ HQ.out).mono ?_;rintro e w7 ⟨⟨v7,rfl,hv7⟩,hk7⟩;obtain ⟨u3,u4,rfl,hw3,hw4⟩:=hv7;obtain ⟨a8,c8,rfl⟩:=hw3.shape;obtain ⟨a9,c9,rfl⟩:=hw4.shape;have z0:=hk7.cell x0;have z1:=hk7.cell x1;have z2:=hk7.cell x2;have ho7:=HO.out.kept hk7;have f0:=ho7.free (k*3);have f1:=ho7.free (k*3+1);have f2:=ho7.free (k*3+2);have hs:=ho7.set HML.out.2 k HML.out.1 hw3 hw4;rw [HST.out] at hs;have HO9:=af hs;have HK9:=af ((((HKr.out.trans hk7).store HBG.out (k*3) (.bool Y.neg)).store HBG.out (k*3+1) (.slice a8 Y.num.length c8)).store HBG.out (k*3+2) (.slice a9 Y.den.length c9));clear hk7 hw3 hw4 ho7 hs x0 x1 x2;go_wp2_with fail;go_roundg (n - (k+1))
   case measure=>omega
   case rel=>exact ⟨k+1,by omega,by go_num,Nat.le_refl _,HO9,HK9⟩
  ·have hkn:¬ (k:Int)<(n:Int):=by omega
   have HQL:Hid (OwnRats wr w.heap.size (.slice qa n qc) (em ps)):=af (by
    have hkk:k=ps.length:=by have:=HN.out;omega
    have h:=HO.out;rw [hkk,CF] at h;exact h)
   obtain ⟨w3,hw3⟩:∃ w3:World,w3=wr:=⟨_,rfl⟩;have HW3:=af hw3;rw [<-hw3] at HKr HQL;clear hw3 HO hk hkx hlt HO3 HK2;go_wp2_with fail;rw [<-HW3.out];go_loopg [9,32] xn (fun kx s9 s32 wq=>∃ j:Nat,j<=xn/\s32=.int .i64 j/\xn - j<=kx/\Hid (OwnRats wq w3.heap.size s9 ((ss.take j).map fun s=>ai (gQ ps s)))/\Hid (ag w3 wq))
   case atStart=>exact ⟨0,Nat.zero_le _,rfl,by omega,af (OwnRats.nil _ _),af (ag.refl _)⟩
   case round =>
    obtain ⟨j,hj,rfl,hjx,HOU,HKq⟩:=hrel;have HKw:=af (HKr.out.trans HKq.out);by_cases hlt2:j<xn
    ·have hjn:(j:Int)<(xn:Int):=by omega
     have hjl:j<ss.length:=by have:=HM.out;omega
     obtain ⟨b,o,rfl,hce⟩:=HF.out.get j (by simpa [aL] using hjl);have hst:=oJ (f:=gQ ps) hjl;obtain ⟨s,hsx⟩:∃ s,s=ss[j]:=⟨_,rfl⟩;have e1:(aL ss)[j]'(by simpa [aL] using hjl)=(s:Int):=by rw [hsx];simp [aL]
     rw [e1] at hce;rw [<-hsx] at hst;have hcr:=HKw.out.cell hce;have HPC:Hid (∀ W u,RatsAt W u (em ps)->Calls Tryz.prog 104 #[u,.int .i64 s] W fun e w'=>(∃ v',e=.returned v'/\RatAt w' v' (ai (gQ ps s)))/\ag W w'):=af fun W u=>HPR.out s W u (by rw [hsx];exact List.getElem_mem _)
     obtain ⟨Y,hY⟩:∃ Y,Y=ai (gQ ps s):=⟨_,rfl⟩;rw [<-hY] at HPC hst;have HST:=af hst;have HLEN:Hid (((ss.take j).map fun s=>ai (gQ ps s)).length<=1024):=af (by rw [List.length_map,List.length_take];omega);clear hce hst hsx hY hjl e1;go_wp2_with fail;refine (HPC.out _ _ (HQL.out.at.kept HKq.out)).mono ?_;rintro e w6 ⟨⟨v6,rfl,hv6⟩,hk6⟩;obtain ⟨u3,u4,rfl,hw5,hw6⟩:=hv6;obtain ⟨a8,c8,rfl⟩:=hw5.shape;obtain ⟨a9,c9,rfl⟩:=hw6.shape;have HK6:=af (HKq.out.trans hk6);have ho7:=(HOU.out.kept hk6).kept ((ag.refl w6).alloc (.cells #[.bool Y.neg,.slice a8 Y.num.length c8,.slice a9 Y.den.length c9] 29));have HS6:=af (HKq.out.trans hk6).size;have HO7:=af ho7;have HW5:=af (hw5.kept ((ag.refl w6).alloc (.cells #[.bool Y.neg,.slice a8 Y.num.length c8,.slice a9 Y.den.length c9] 29)));have HW6:=af (hw6.kept ((ag.refl w6).alloc (.cells #[.bool Y.neg,.slice a8 Y.num.length c8,.slice a9 Y.den.length c9] 29)));clear hk6 hw5 hw6 ho7;go_wp2_with (at_builtin;refine qW rfl _ _ rfl w3.heap.size _ ((ss.take j).map fun s=>ai (gQ ps s)) rfl HO7.out w6.heap.size Y _ _ rfl (gO _ _ _ _ _) HW5.out HW6.out (by have:=HLEN.out;omega) (by have:=HS6.out;simp;omega) ?_;intro v8 w8 hown8 hb8;have HO8:=af hown8;have HK8:=af ((HK6.out.alloc _).app hb8);clear hown8 hb8);go_roundg (xn - (j+1))
     case measure=>omega
     case rel=>exact ⟨j+1,by omega,by go_num,Nat.le_refl _,af (by rw [HST.out];exact HO8.out),HK8⟩
    ·have hjn:¬ (j:Int)<(xn:Int):=by omega
     have HRV:Hid (RatsAt wr u9 (ss.map fun s=>ai (gQ ps s))):=af (by
      have h:=HOU.out.at;rw [List.take_of_length_le (by have:=HM.out;omega)] at h;exact h)
     go_wp2;go_ret;exact ⟨⟨_,rfl,HRV.out⟩,HKw.out⟩
structure F' (xs:List Int) (ps:List Rw):Prop where
 ok:c_ xs=0
 len:xs.length<=12
 gt:∀ s∈aC xs,s<16777216/\jE s<(ps.length:Int)
 bad:cK ps=false
theorem Ct (xs:List Int) (ps:List Rw) (k:Int):xT xs ps k<=13:=by
 have hc:c_ xs<=13:=by
  unfold c_;rcases xI xs with h | h | h <;> rw [h] <;> simp <;> (try split) <;> (try split) <;> omega
 unfold xT;split
 ·exact hc
 ·split
  ·omega
  ·split
   ·omega
   ·split
    ·omega
    ·split <;> omega
theorem cD {xs:List Int} {ps:List Rw} (h:dO xs ps=0):xs=aL (aC xs)/\(aC xs).length<=1024/\(∀ s∈aC xs,s<16777216/\jE s<(ps.length:Int))/\cK ps=false:=by
 unfold dO at h;by_cases h1:c_ xs=0
 ·rw [if_neg (by rw [h1];simp)] at h;obtain ⟨hlen,hok⟩:=tY h1;obtain ⟨hys,hmk⟩:=lF hok;by_cases h2:(aC xs).any (fun s=>decide ((ps.length:Int)<=jE s))=true
  ·rw [if_pos h2] at h;cases h
  ·rw [if_neg h2] at h;refine ⟨hys,by unfold aC;rw [List.length_map];exact hlen,fun s hs=>⟨by have:=hmk s hs;unfold Mk at this;omega,?_⟩,?_⟩
   ·have h3:(aC xs).any (fun s=>decide ((ps.length:Int)<=jE s))=false:=by simpa using h2
    rw [List.any_eq_false] at h3;have:=h3 s hs;simp at this;omega
   ·cases hb:cK ps with
    | false=>rfl
    | true=>rw [hb,if_pos rfl] at h;cases h
 ·rw [if_pos h1] at h;exact absurd h h1
theorem zY (xs:List Int) (ps:List Rw):dO xs ps<=100:=by
 have:=Ct xs ps 0;unfold xT at this;unfold dO;split
 ·rename_i h;rw [if_pos h] at this;omega
 ·split
  ·omega
  ·split <;> omega
def fp (xs:List Int) (ps:List Rw):Rat:=if dO xs ps=0 then 1 - aO (fQ ps) (aC xs) else 0
def fo (xs:List Int) (ps:List Rw):Rat:=if dO xs ps=0 then aO (gQ ps) (aC xs) else 0
def f' (xs:List Int) (ps:List Rw):Rat:=if dO xs ps=0 then aA (fQ ps) (aC xs) else 0
def gf (xs:List Int) (ps:List Rw):Rat:=if dO xs ps=0 then 1 - aA (gQ ps) (aC xs) else 0
theorem cq {f:Nat->Rat} {l:List Nat} (hl:l.length<=1024) (h:∀ s∈l,(ai (f s)).Short 91):(ai (aO f l)).Short 95233:=by
 have h1:=kH (by decide) h l.length (Nat.le_refl _);rw [List.take_length] at h1;exact ⟨Nat.le_trans h1.1 (by omega),Nat.le_trans h1.2 (by omega)⟩
theorem bQ {f:Nat->Rat} {l:List Nat} (h:∀ s∈l,(ai (f s)).Short 91):(ai (aA f l)).Short 95233:=by
 have h1:=mv h l.length (Nat.le_refl _);rw [List.take_length] at h1;exact ⟨Nat.le_trans h1.1 (by omega),Nat.le_trans h1.2 (by omega)⟩
theorem mN {r:Rw} (h:r.Short 95233):r.Short 34359738368:=⟨Nat.le_trans h.1 (by omega),Nat.le_trans h.2 (by omega)⟩
theorem fC (xv v:Value) (xs:List Int) (ps:List Rw) (w:World) (hx:am w xv xs) (hv:RatsAt w v ps) (h3:∀ r∈ps,r.Short 3) (h30:ps.length<=30) :
  Calls Tryz.prog 13 #[xv,v] w fun e w'=>(∃ v',e=.returned (.tuple #[v',aY (dO xs ps)])/\RatAt w' v' (ai (fp xs ps)))/\ag w w':=by
 obtain ⟨Q,hQ⟩:∃ Q,Q=dO xs ps:=⟨_,rfl⟩;have HCK:Hid (∀ W,ag w W->Calls Tryz.prog 46 #[xv,v] W fun e w'=>e=.returned (aY Q)/\ag W w'):=af fun W h=>by rw [hQ];exact fy xv v xs ps W (hx.kept h) (hv.kept h) h3
 obtain ⟨w2,hw2⟩:∃ w2,w2=w.alloc (.cells #[.bool false,.slice none 0 0,.slice none 0 0] 29):=⟨_,rfl⟩;have HZ:Hid (RatCell w2 w.heap.size ⟨false,[],[]⟩):=af (by rw [hw2];exact RatCell.zero w);have HK2:Hid (ag w w2):=af (by rw [hw2];exact (ag.refl w).alloc _);have HW2:=af hw2;clear hw2;by_cases h0:Q=0
 ·have he:dO xs ps=0:=by rw [<-hQ];exact h0
  obtain ⟨hxs,hlen,hm,hbad⟩:=cD he;have hR:fp xs ps=1 - aO (fQ ps) (aC xs):=by unfold fp;rw [if_pos he]
  rw [hR,<-hQ];subst h0;obtain ⟨ss,hss⟩:∃ ss,ss=aC xs:=⟨_,rfl⟩;rw [<-hss] at hxs hlen hm⊢;subst hxs;have h91:∀ s∈ss,(ai (fQ ps s)).Short 91:=fun s _=>gA hv.ok h3 h30 s
  have hsa:=cq hlen h91
  have HIN:Hid (∀ W,ag w W->Calls Tryz.prog 48 #[xv,v,.func (.func 49) #[] #[]] W fun e w'=>(∃ v',e=.returned v'/\RatAt w' v' (ai (aO (fQ ps) ss)))/\ag W w'):=af fun W h0 =>
   esnone_any 49 (enters_of Tryz.func49 (by kernel_rfl) rfl) (fQ ps) ss xv v W (hx.kept h0) hlen h91 (fun s hs W h1=>have h:=h0.trans h1;fz s v ps W (hm s hs).1 (hv.kept h) h3 h30)
  have HNT:Hid (∀ W u,RatAt W u (ai (aO (fQ ps) ss))->Calls Tryz.prog 47 #[u] W fun e w'=>(∃ v',e=.returned v'/\RatAt w' v' (ai (1 - aO (fQ ps) ss)))/\ag W w'):=af fun W u hu=>by
   have h:=eK u _ W hu (mN hsa);rw [ap] at h;exact h
  obtain ⟨R0,hR0⟩:∃ R0,R0=ai (aO (fQ ps) ss):=⟨_,rfl⟩;obtain ⟨R1,hR1⟩:∃ R1,R1=ai (1 - aO (fQ ps) ss):=⟨_,rfl⟩;try rw [<-hR0] at HIN
  try rw [<-hR0,<-hR1] at HNT
  try rw [<-hR1]
  try rw [<-hR0]
  clear hQ he hR h91 hsa hR0 hR1 hlen hm hbad hss hx hv h3 h30;rw [aW] at HCK⊢;go_enter Tryz.func13,Tryz.ntmps13;go_wp2_with fail;rw [<-HW2.out];refine (HCK.out _ HK2.out).mono ?_;rintro e w3 ⟨rfl,hk3⟩;have HK3:=af (HK2.out.trans hk3);have HZ3:=af (HZ.out.kept hk3);clear hk3;go_wp2_with fail;refine (HIN.out _ HK3.out).mono ?_;rintro e w5 ⟨⟨v5,rfl,hv5⟩,hk5⟩;have HV5:=af hv5;have HK5:=af (HK3.out.trans hk5);have HZ5:=af (HZ3.out.kept hk5);clear hv5 hk5;go_wp2_with fail;refine (HNT.out _ _ HV5.out).mono ?_;rintro e w6 ⟨⟨v6,rfl,hv6⟩,hk6⟩;have HVL:=af hv6;have HKL:=af (HK5.out.trans hk6);have HZL:=af (HZ5.out.kept hk6);clear hv6 hk6;obtain ⟨n8,l8,m8,a8,c8,b8,d8,w8,rfl,hw8,⟨⟨z0,j0⟩,⟨z1,j1⟩,⟨z2,j2⟩⟩,⟨f0,f1,f2⟩,hl8,Y,HRW,_,HKP⟩:=HZL.out.save HVL.out;have HKE:=af (HKP.out _ HKL.out (Nat.le_refl _));rw [hw8] at Y HRW HKE;clear hw8 HKP;go_wp2;refine bodyPost_ret (v:=.tuple #[.agg #[.bool n8,.slice a8 l8 c8,.slice b8 m8 d8],.nilIface]) ?_ rfl ⟨⟨_,rfl,HRW.out⟩,HKE.out⟩;simp [results,Tryz.results13,go_sem,Y.out.1,Y.out.2.1,Y.out.2.2]
 ·have hR:fp xs ps=0:=by unfold fp;rw [if_neg (by rw [<-hQ];exact h0)]
  rw [hR,<-hQ];have hqn:((Q:Nat):Int)≠0:=by omega
  have hqb:(((Q:Nat):Int) != 0)=true:=by simpa using hqn
  have hqe:aY Q=.iface 60 (.int .i64 Q):=aN h0;rw [hqe] at HCK⊢;clear hQ hR h0 hqe hx hv h3 h30;go_enter Tryz.func13,Tryz.ntmps13;go_wp2_with fail;rw [<-HW2.out];refine (HCK.out _ HK2.out).mono ?_;rintro e w3 ⟨rfl,hk3⟩;obtain ⟨n8,l8,m8,a8,c8,b8,d8,w8,he,hw8,⟨⟨z0,j0⟩,⟨z1,j1⟩,⟨z2,j2⟩⟩,⟨f0,f1,f2⟩,hl8,Y,HRW,_,HKP⟩:=(HZ.out.kept hk3).save (RatAt.zero w3);have HKE:=af (HKP.out _ (HK2.out.trans hk3) (Nat.le_refl _));simp only [Value.agg.injEq,Array.mk.injEq,List.cons.injEq,Value.bool.injEq,Value.slice.injEq,and_true] at he;obtain ⟨rfl,⟨rfl,rfl,rfl⟩,rfl,rfl,rfl⟩:=he;rw [hw8] at Y HRW HKE;clear hk3 hw8 HKP;go_wp2;refine bodyPost_ret (v:=.tuple #[.agg #[.bool false,.slice none 0 0,.slice none 0 0],.iface 60 (.int .i64 (Q:Nat))]) ?_ rfl ⟨⟨_,rfl,HRW.out⟩,HKE.out⟩;simp [results,Tryz.results13,go_sem,Y.out.1,Y.out.2.1,Y.out.2.2]
theorem pr (xv v:Value) (xs:List Int) (ps:List Rw) (w:World) (hx:am w xv xs) (hv:RatsAt w v ps) (h3:∀ r∈ps,r.Short 3) (h30:ps.length<=30) :
  Calls Tryz.prog 14 #[xv,v] w fun e w'=>(∃ v',e=.returned (.tuple #[v',.int .i64 (dO xs ps:Nat)])/\RatAt w' v' (ai (fp xs ps)))/\ag w w':=by
 obtain ⟨Q,hQ⟩:∃ Q,Q=dO xs ps:=⟨_,rfl⟩;have HCK:Hid (∀ W,ag w W->Calls Tryz.prog 50 #[xv,v] W fun e w'=>e=.returned (.int .i64 (Q:Nat))/\ag W w'):=af fun W h=>by rw [hQ];exact dM xv v xs ps W (hx.kept h) (hv.kept h) h3
 obtain ⟨w2,hw2⟩:∃ w2,w2=w.alloc (.cells #[.bool false,.slice none 0 0,.slice none 0 0] 29):=⟨_,rfl⟩;have HZ:Hid (RatCell w2 w.heap.size ⟨false,[],[]⟩):=af (by rw [hw2];exact RatCell.zero w);have HK2:Hid (ag w w2):=af (by rw [hw2];exact (ag.refl w).alloc _);have HW2:=af hw2;clear hw2;by_cases h0:Q=0
 ·have he:dO xs ps=0:=by rw [<-hQ];exact h0
  obtain ⟨hxs,hlen,hm,hbad⟩:=cD he;have hR:fp xs ps=1 - aO (fQ ps) (aC xs):=by unfold fp;rw [if_pos he]
  rw [hR,<-hQ];subst h0;obtain ⟨ss,hss⟩:∃ ss,ss=aC xs:=⟨_,rfl⟩;rw [<-hss] at hxs hlen hm⊢;subst hxs;have h91:∀ s∈ss,(ai (fQ ps s)).Short 91:=fun s _=>gA hv.ok h3 h30 s
  have hsa:=cq hlen h91;have HEA:Hid (∀ W,ag w W->Calls Tryz.prog 53 #[xv,v,.bool false] W fun e w'=>(∃ v',e=.returned v'/\RatsAt w' v' (ss.map fun s=>ai (fQ ps s)))/\ag W w'):=af fun W h=>lO xv v ss ps W (hx.kept h) hlen hm (hv.kept h) h3 h30
  have HIN:Hid (∀ W u,RatsAt W u (ss.map fun s=>ai (fQ ps s))->Calls Tryz.prog 52 #[u] W fun e w'=>(∃ v',e=.returned v'/\RatAt w' v' (ai (aO (fQ ps) ss)))/\ag W w'):=af fun W u hu=>kn (fQ ps) ss u W hu hlen h91
  have HNT:Hid (∀ W u,RatAt W u (ai (aO (fQ ps) ss))->Calls Tryz.prog 51 #[u] W fun e w'=>(∃ v',e=.returned v'/\RatAt w' v' (ai (1 - aO (fQ ps) ss)))/\ag W w'):=af fun W u hu=>by
   have h:=eF u _ W hu (mN hsa);rw [ap] at h;exact h
  obtain ⟨R0,hR0⟩:∃ R0,R0=ai (aO (fQ ps) ss):=⟨_,rfl⟩;obtain ⟨R1,hR1⟩:∃ R1,R1=ai (1 - aO (fQ ps) ss):=⟨_,rfl⟩;try rw [<-hR0] at HIN
  try rw [<-hR0,<-hR1] at HNT
  try rw [<-hR1]
  try rw [<-hR0]
  clear hQ he hR h91 hsa hR0 hR1 hlen hm hbad hss hx hv h3 h30
  skip
  go_enter Tryz.func14,Tryz.ntmps14;go_wp2_with fail;rw [<-HW2.out];refine (HCK.out _ HK2.out).mono ?_;rintro e w3 ⟨rfl,hk3⟩;have HK3:=af (HK2.out.trans hk3);have HZ3:=af (HZ.out.kept hk3);clear hk3;go_wp2_with fail;refine (HEA.out _ HK3.out).mono ?_;rintro e w4 ⟨⟨v4,rfl,hv4⟩,hk4⟩;have HV4:=af hv4;have HK4:=af (HK3.out.trans hk4);have HZ4:=af (HZ3.out.kept hk4);clear hv4 hk4;go_wp2_with fail;refine (HIN.out _ _ HV4.out).mono ?_;rintro e w5 ⟨⟨v5,rfl,hv5⟩,hk5⟩;have HV5:=af hv5;have HK5:=af (HK4.out.trans hk5);have HZ5:=af (HZ4.out.kept hk5);clear hv5 hk5;go_wp2_with fail;refine (HNT.out _ _ HV5.out).mono ?_;rintro e w6 ⟨⟨v6,rfl,hv6⟩,hk6⟩;have HVL:=af hv6;have HKL:=af (HK5.out.trans hk6);have HZL:=af (HZ5.out.kept hk6);clear hv6 hk6;obtain ⟨n8,l8,m8,a8,c8,b8,d8,w8,rfl,hw8,⟨⟨z0,j0⟩,⟨z1,j1⟩,⟨z2,j2⟩⟩,⟨f0,f1,f2⟩,hl8,Y,HRW,_,HKP⟩:=HZL.out.save HVL.out;have HKE:=af (HKP.out _ HKL.out (Nat.le_refl _));rw [hw8] at Y HRW HKE;clear hw8 HKP;go_wp2;refine bodyPost_ret (v:=.tuple #[.agg #[.bool n8,.slice a8 l8 c8,.slice b8 m8 d8],.int .i64 0]) ?_ rfl ⟨⟨_,rfl,HRW.out⟩,HKE.out⟩;simp [results,Tryz.results14,go_sem,Y.out.1,Y.out.2.1,Y.out.2.2]
 ·have hR:fp xs ps=0:=by unfold fp;rw [if_neg (by rw [<-hQ];exact h0)]
  rw [hR,<-hQ];have hqn:((Q:Nat):Int)≠0:=by omega
  have hqb:(((Q:Nat):Int) != 0)=true:=by simpa using hqn
  have hqe:aY Q=.iface 60 (.int .i64 Q):=aN h0
  skip
  clear hQ hR h0 hqe hx hv h3 h30;go_enter Tryz.func14,Tryz.ntmps14;go_wp2_with fail;rw [<-HW2.out];refine (HCK.out _ HK2.out).mono ?_;rintro e w3 ⟨rfl,hk3⟩;obtain ⟨n8,l8,m8,a8,c8,b8,d8,w8,he,hw8,⟨⟨z0,j0⟩,⟨z1,j1⟩,⟨z2,j2⟩⟩,⟨f0,f1,f2⟩,hl8,Y,HRW,_,HKP⟩:=(HZ.out.kept hk3).save (RatAt.zero w3);have HKE:=af (HKP.out _ (HK2.out.trans hk3) (Nat.le_refl _));simp only [Value.agg.injEq,Array.mk.injEq,List.cons.injEq,Value.bool.injEq,Value.slice.injEq,and_true] at he;obtain ⟨rfl,⟨rfl,rfl,rfl⟩,rfl,rfl,rfl⟩:=he;rw [hw8] at Y HRW HKE;clear hk3 hw8 HKP;go_wp2;refine bodyPost_ret (v:=.tuple #[.agg #[.bool false,.slice none 0 0,.slice none 0 0],.int .i64 (Q:Nat)]) ?_ rfl ⟨⟨_,rfl,HRW.out⟩,HKE.out⟩;simp [results,Tryz.results14,go_sem,Y.out.1,Y.out.2.1,Y.out.2.2]
theorem fA (xv v:Value) (xs:List Int) (ps:List Rw) (w:World) (hx:am w xv xs) (hv:RatsAt w v ps) (h3:∀ r∈ps,r.Short 3) (h30:ps.length<=30) :
  Calls Tryz.prog 15 #[xv,v] w fun e w'=>(∃ v',e=.returned (.tuple #[v',aY (dO xs ps)])/\RatAt w' v' (ai (fo xs ps)))/\ag w w':=by
 obtain ⟨Q,hQ⟩:∃ Q,Q=dO xs ps:=⟨_,rfl⟩;have HCK:Hid (∀ W,ag w W->Calls Tryz.prog 46 #[xv,v] W fun e w'=>e=.returned (aY Q)/\ag W w'):=af fun W h=>by rw [hQ];exact fy xv v xs ps W (hx.kept h) (hv.kept h) h3
 obtain ⟨w2,hw2⟩:∃ w2,w2=w.alloc (.cells #[.bool false,.slice none 0 0,.slice none 0 0] 29):=⟨_,rfl⟩;have HZ:Hid (RatCell w2 w.heap.size ⟨false,[],[]⟩):=af (by rw [hw2];exact RatCell.zero w);have HK2:Hid (ag w w2):=af (by rw [hw2];exact (ag.refl w).alloc _);have HW2:=af hw2;clear hw2;by_cases h0:Q=0
 ·have he:dO xs ps=0:=by rw [<-hQ];exact h0
  obtain ⟨hxs,hlen,hm,hbad⟩:=cD he;have hR:fo xs ps=aO (gQ ps) (aC xs):=by unfold fo;rw [if_pos he]
  rw [hR,<-hQ];subst h0;obtain ⟨ss,hss⟩:∃ ss,ss=aC xs:=⟨_,rfl⟩;rw [<-hss] at hxs hlen hm⊢;subst hxs;have h91:∀ s∈ss,(ai (gQ ps s)).Short 91:=fun s _=>jD hv.ok hbad h3 h30 s
  have hsa:=cq hlen h91
  have HIN:Hid (∀ W,ag w W->Calls Tryz.prog 48 #[xv,v,.func (.func 54) #[] #[]] W fun e w'=>(∃ v',e=.returned v'/\RatAt w' v' (ai (aO (gQ ps) ss)))/\ag W w'):=af fun W h0 =>
   esnone_any 54 (enters_of Tryz.func54 (by kernel_rfl) rfl) (gQ ps) ss xv v W (hx.kept h0) hlen h91 (fun s hs W h1=>have h:=h0.trans h1;jf s v ps W (hm s hs).1 (hv.kept h) h3 h30 hbad)
  obtain ⟨R0,hR0⟩:∃ R0,R0=ai (aO (gQ ps) ss):=⟨_,rfl⟩;obtain ⟨R1,hR1⟩:∃ R1,R1=ai (1 - aO (gQ ps) ss):=⟨_,rfl⟩;try rw [<-hR0] at HIN
  try rw [<-hR0,<-hR1] at HNT
  try rw [<-hR1]
  try rw [<-hR0]
  clear hQ he hR h91 hsa hR0 hR1 hlen hm hbad hss hx hv h3 h30;rw [aW] at HCK⊢;go_enter Tryz.func15,Tryz.ntmps15;go_wp2_with fail;rw [<-HW2.out];refine (HCK.out _ HK2.out).mono ?_;rintro e w3 ⟨rfl,hk3⟩;have HK3:=af (HK2.out.trans hk3);have HZ3:=af (HZ.out.kept hk3);clear hk3;go_wp2_with fail;refine (HIN.out _ HK3.out).mono ?_;rintro e w5 ⟨⟨v5,rfl,hv5⟩,hk5⟩;have HV5:=af hv5;have HK5:=af (HK3.out.trans hk5);have HZ5:=af (HZ3.out.kept hk5);clear hv5 hk5;have HVL:=HV5;have HKL:=HK5;have HZL:=HZ5;obtain ⟨n8,l8,m8,a8,c8,b8,d8,w8,rfl,hw8,⟨⟨z0,j0⟩,⟨z1,j1⟩,⟨z2,j2⟩⟩,⟨f0,f1,f2⟩,hl8,Y,HRW,_,HKP⟩:=HZL.out.save HVL.out;have HKE:=af (HKP.out _ HKL.out (Nat.le_refl _));rw [hw8] at Y HRW HKE;clear hw8 HKP;go_wp2;refine bodyPost_ret (v:=.tuple #[.agg #[.bool n8,.slice a8 l8 c8,.slice b8 m8 d8],.nilIface]) ?_ rfl ⟨⟨_,rfl,HRW.out⟩,HKE.out⟩;simp [results,Tryz.results15,go_sem,Y.out.1,Y.out.2.1,Y.out.2.2]
 ·have hR:fo xs ps=0:=by unfold fo;rw [if_neg (by rw [<-hQ];exact h0)]
  rw [hR,<-hQ];have hqn:((Q:Nat):Int)≠0:=by omega
  have hqb:(((Q:Nat):Int) != 0)=true:=by simpa using hqn
  have hqe:aY Q=.iface 60 (.int .i64 Q):=aN h0;rw [hqe] at HCK⊢;clear hQ hR h0 hqe hx hv h3 h30;go_enter Tryz.func15,Tryz.ntmps15;go_wp2_with fail;rw [<-HW2.out];refine (HCK.out _ HK2.out).mono ?_;rintro e w3 ⟨rfl,hk3⟩;obtain ⟨n8,l8,m8,a8,c8,b8,d8,w8,he,hw8,⟨⟨z0,j0⟩,⟨z1,j1⟩,⟨z2,j2⟩⟩,⟨f0,f1,f2⟩,hl8,Y,HRW,_,HKP⟩:=(HZ.out.kept hk3).save (RatAt.zero w3);have HKE:=af (HKP.out _ (HK2.out.trans hk3) (Nat.le_refl _));simp only [Value.agg.injEq,Array.mk.injEq,List.cons.injEq,Value.bool.injEq,Value.slice.injEq,and_true] at he;obtain ⟨rfl,⟨rfl,rfl,rfl⟩,rfl,rfl,rfl⟩:=he;rw [hw8] at Y HRW HKE;clear hk3 hw8 HKP;go_wp2;refine bodyPost_ret (v:=.tuple #[.agg #[.bool false,.slice none 0 0,.slice none 0 0],.iface 60 (.int .i64 (Q:Nat))]) ?_ rfl ⟨⟨_,rfl,HRW.out⟩,HKE.out⟩;simp [results,Tryz.results15,go_sem,Y.out.1,Y.out.2.1,Y.out.2.2]
theorem pq (xv v:Value) (xs:List Int) (ps:List Rw) (w:World) (hx:am w xv xs) (hv:RatsAt w v ps) (h3:∀ r∈ps,r.Short 3) (h30:ps.length<=30) :
  Calls Tryz.prog 16 #[xv,v] w fun e w'=>(∃ v',e=.returned (.tuple #[v',.int .i64 (dO xs ps:Nat)])/\RatAt w' v' (ai (fo xs ps)))/\ag w w':=by
 obtain ⟨Q,hQ⟩:∃ Q,Q=dO xs ps:=⟨_,rfl⟩;have HCK:Hid (∀ W,ag w W->Calls Tryz.prog 50 #[xv,v] W fun e w'=>e=.returned (.int .i64 (Q:Nat))/\ag W w'):=af fun W h=>by rw [hQ];exact dM xv v xs ps W (hx.kept h) (hv.kept h) h3
 obtain ⟨w2,hw2⟩:∃ w2,w2=w.alloc (.cells #[.bool false,.slice none 0 0,.slice none 0 0] 29):=⟨_,rfl⟩;have HZ:Hid (RatCell w2 w.heap.size ⟨false,[],[]⟩):=af (by rw [hw2];exact RatCell.zero w);have HK2:Hid (ag w w2):=af (by rw [hw2];exact (ag.refl w).alloc _);have HW2:=af hw2;clear hw2;by_cases h0:Q=0
 ·have he:dO xs ps=0:=by rw [<-hQ];exact h0
  obtain ⟨hxs,hlen,hm,hbad⟩:=cD he;have hR:fo xs ps=aO (gQ ps) (aC xs):=by unfold fo;rw [if_pos he]
  rw [hR,<-hQ];subst h0;obtain ⟨ss,hss⟩:∃ ss,ss=aC xs:=⟨_,rfl⟩;rw [<-hss] at hxs hlen hm⊢;subst hxs;have h91:∀ s∈ss,(ai (gQ ps s)).Short 91:=fun s _=>jD hv.ok hbad h3 h30 s
  have hsa:=cq hlen h91;have HEA:Hid (∀ W,ag w W->Calls Tryz.prog 53 #[xv,v,.bool true] W fun e w'=>(∃ v',e=.returned v'/\RatsAt w' v' (ss.map fun s=>ai (gQ ps s)))/\ag W w'):=af fun W h=>lP xv v ss ps W (hx.kept h) hlen hm (hv.kept h) h3 h30 hbad
  have HIN:Hid (∀ W u,RatsAt W u (ss.map fun s=>ai (gQ ps s))->Calls Tryz.prog 52 #[u] W fun e w'=>(∃ v',e=.returned v'/\RatAt w' v' (ai (aO (gQ ps) ss)))/\ag W w'):=af fun W u hu=>kn (gQ ps) ss u W hu hlen h91
  obtain ⟨R0,hR0⟩:∃ R0,R0=ai (aO (gQ ps) ss):=⟨_,rfl⟩;obtain ⟨R1,hR1⟩:∃ R1,R1=ai (1 - aO (gQ ps) ss):=⟨_,rfl⟩;try rw [<-hR0] at HIN
  try rw [<-hR0,<-hR1] at HNT
  try rw [<-hR1]
  try rw [<-hR0]
  clear hQ he hR h91 hsa hR0 hR1 hlen hm hbad hss hx hv h3 h30
  skip
  go_enter Tryz.func16,Tryz.ntmps16;go_wp2_with fail;rw [<-HW2.out];refine (HCK.out _ HK2.out).mono ?_;rintro e w3 ⟨rfl,hk3⟩;have HK3:=af (HK2.out.trans hk3);have HZ3:=af (HZ.out.kept hk3);clear hk3;go_wp2_with fail;refine (HEA.out _ HK3.out).mono ?_;rintro e w4 ⟨⟨v4,rfl,hv4⟩,hk4⟩;have HV4:=af hv4;have HK4:=af (HK3.out.trans hk4);have HZ4:=af (HZ3.out.kept hk4);clear hv4 hk4;go_wp2_with fail;refine (HIN.out _ _ HV4.out).mono ?_;rintro e w5 ⟨⟨v5,rfl,hv5⟩,hk5⟩;have HV5:=af hv5;have HK5:=af (HK4.out.trans hk5);have HZ5:=af (HZ4.out.kept hk5);clear hv5 hk5;have HVL:=HV5;have HKL:=HK5;have HZL:=HZ5;obtain ⟨n8,l8,m8,a8,c8,b8,d8,w8,rfl,hw8,⟨⟨z0,j0⟩,⟨z1,j1⟩,⟨z2,j2⟩⟩,⟨f0,f1,f2⟩,hl8,Y,HRW,_,HKP⟩:=HZL.out.save HVL.out;have HKE:=af (HKP.out _ HKL.out (Nat.le_refl _));rw [hw8] at Y HRW HKE;clear hw8 HKP;go_wp2;refine bodyPost_ret (v:=.tuple #[.agg #[.bool n8,.slice a8 l8 c8,.slice b8 m8 d8],.int .i64 0]) ?_ rfl ⟨⟨_,rfl,HRW.out⟩,HKE.out⟩;simp [results,Tryz.results16,go_sem,Y.out.1,Y.out.2.1,Y.out.2.2]
 ·have hR:fo xs ps=0:=by unfold fo;rw [if_neg (by rw [<-hQ];exact h0)]
  rw [hR,<-hQ];have hqn:((Q:Nat):Int)≠0:=by omega
  have hqb:(((Q:Nat):Int) != 0)=true:=by simpa using hqn
  have hqe:aY Q=.iface 60 (.int .i64 Q):=aN h0
  skip
  clear hQ hR h0 hqe hx hv h3 h30;go_enter Tryz.func16,Tryz.ntmps16;go_wp2_with fail;rw [<-HW2.out];refine (HCK.out _ HK2.out).mono ?_;rintro e w3 ⟨rfl,hk3⟩;obtain ⟨n8,l8,m8,a8,c8,b8,d8,w8,he,hw8,⟨⟨z0,j0⟩,⟨z1,j1⟩,⟨z2,j2⟩⟩,⟨f0,f1,f2⟩,hl8,Y,HRW,_,HKP⟩:=(HZ.out.kept hk3).save (RatAt.zero w3);have HKE:=af (HKP.out _ (HK2.out.trans hk3) (Nat.le_refl _));simp only [Value.agg.injEq,Array.mk.injEq,List.cons.injEq,Value.bool.injEq,Value.slice.injEq,and_true] at he;obtain ⟨rfl,⟨rfl,rfl,rfl⟩,rfl,rfl,rfl⟩:=he;rw [hw8] at Y HRW HKE;clear hk3 hw8 HKP;go_wp2;refine bodyPost_ret (v:=.tuple #[.agg #[.bool false,.slice none 0 0,.slice none 0 0],.int .i64 (Q:Nat)]) ?_ rfl ⟨⟨_,rfl,HRW.out⟩,HKE.out⟩;simp [results,Tryz.results16,go_sem,Y.out.1,Y.out.2.1,Y.out.2.2]
theorem je (xv v:Value) (xs:List Int) (ps:List Rw) (w:World) (hx:am w xv xs) (hv:RatsAt w v ps) (h3:∀ r∈ps,r.Short 3) (h30:ps.length<=30) :
  Calls Tryz.prog 24 #[xv,v] w fun e w'=>(∃ v',e=.returned (.tuple #[v',aY (dO xs ps)])/\RatAt w' v' (ai (f' xs ps)))/\ag w w':=by
 obtain ⟨Q,hQ⟩:∃ Q,Q=dO xs ps:=⟨_,rfl⟩;have HCK:Hid (∀ W,ag w W->Calls Tryz.prog 46 #[xv,v] W fun e w'=>e=.returned (aY Q)/\ag W w'):=af fun W h=>by rw [hQ];exact fy xv v xs ps W (hx.kept h) (hv.kept h) h3
 obtain ⟨w2,hw2⟩:∃ w2,w2=w.alloc (.cells #[.bool false,.slice none 0 0,.slice none 0 0] 29):=⟨_,rfl⟩;have HZ:Hid (RatCell w2 w.heap.size ⟨false,[],[]⟩):=af (by rw [hw2];exact RatCell.zero w);have HK2:Hid (ag w w2):=af (by rw [hw2];exact (ag.refl w).alloc _);have HW2:=af hw2;clear hw2;by_cases h0:Q=0
 ·have he:dO xs ps=0:=by rw [<-hQ];exact h0
  obtain ⟨hxs,hlen,hm,hbad⟩:=cD he;have hR:f' xs ps=aA (fQ ps) (aC xs):=by unfold f';rw [if_pos he]
  rw [hR,<-hQ];subst h0;obtain ⟨ss,hss⟩:∃ ss,ss=aC xs:=⟨_,rfl⟩;rw [<-hss] at hxs hlen hm⊢;subst hxs;have h91:∀ s∈ss,(ai (fQ ps s)).Short 91:=fun s _=>gA hv.ok h3 h30 s
  have hsa:=bQ h91
  have HIN:Hid (∀ W,ag w W->Calls Tryz.prog 58 #[xv,v,.func (.func 49) #[] #[]] W fun e w'=>(∃ v',e=.returned v'/\RatAt w' v' (ai (aA (fQ ps) ss)))/\ag W w'):=af fun W h0 =>
   esgreat_any 49 (enters_of Tryz.func49 (by kernel_rfl) rfl) (fQ ps) ss xv v W (hx.kept h0) hlen h91 (fun s hs W h1=>have h:=h0.trans h1;fz s v ps W (hm s hs).1 (hv.kept h) h3 h30)
  obtain ⟨R0,hR0⟩:∃ R0,R0=ai (aA (fQ ps) ss):=⟨_,rfl⟩;obtain ⟨R1,hR1⟩:∃ R1,R1=ai (1 - aA (fQ ps) ss):=⟨_,rfl⟩;try rw [<-hR0] at HIN
  try rw [<-hR0,<-hR1] at HNT
  try rw [<-hR1]
  try rw [<-hR0]
  clear hQ he hR h91 hsa hR0 hR1 hlen hm hbad hss hx hv h3 h30;rw [aW] at HCK⊢;go_enter Tryz.func24,Tryz.ntmps24;go_wp2_with fail;rw [<-HW2.out];refine (HCK.out _ HK2.out).mono ?_;rintro e w3 ⟨rfl,hk3⟩;have HK3:=af (HK2.out.trans hk3);have HZ3:=af (HZ.out.kept hk3);clear hk3;go_wp2_with fail;refine (HIN.out _ HK3.out).mono ?_;rintro e w5 ⟨⟨v5,rfl,hv5⟩,hk5⟩;have HV5:=af hv5;have HK5:=af (HK3.out.trans hk5);have HZ5:=af (HZ3.out.kept hk5);clear hv5 hk5;have HVL:=HV5;have HKL:=HK5;have HZL:=HZ5;obtain ⟨n8,l8,m8,a8,c8,b8,d8,w8,rfl,hw8,⟨⟨z0,j0⟩,⟨z1,j1⟩,⟨z2,j2⟩⟩,⟨f0,f1,f2⟩,hl8,Y,HRW,_,HKP⟩:=HZL.out.save HVL.out;have HKE:=af (HKP.out _ HKL.out (Nat.le_refl _));rw [hw8] at Y HRW HKE;clear hw8 HKP;go_wp2;refine bodyPost_ret (v:=.tuple #[.agg #[.bool n8,.slice a8 l8 c8,.slice b8 m8 d8],.nilIface]) ?_ rfl ⟨⟨_,rfl,HRW.out⟩,HKE.out⟩;simp [results,Tryz.results24,go_sem,Y.out.1,Y.out.2.1,Y.out.2.2]
 ·have hR:f' xs ps=0:=by unfold f';rw [if_neg (by rw [<-hQ];exact h0)]
  rw [hR,<-hQ];have hqn:((Q:Nat):Int)≠0:=by omega
  have hqb:(((Q:Nat):Int) != 0)=true:=by simpa using hqn
  have hqe:aY Q=.iface 60 (.int .i64 Q):=aN h0;rw [hqe] at HCK⊢;clear hQ hR h0 hqe hx hv h3 h30;go_enter Tryz.func24,Tryz.ntmps24;go_wp2_with fail;rw [<-HW2.out];refine (HCK.out _ HK2.out).mono ?_;rintro e w3 ⟨rfl,hk3⟩;obtain ⟨n8,l8,m8,a8,c8,b8,d8,w8,he,hw8,⟨⟨z0,j0⟩,⟨z1,j1⟩,⟨z2,j2⟩⟩,⟨f0,f1,f2⟩,hl8,Y,HRW,_,HKP⟩:=(HZ.out.kept hk3).save (RatAt.zero w3);have HKE:=af (HKP.out _ (HK2.out.trans hk3) (Nat.le_refl _));simp only [Value.agg.injEq,Array.mk.injEq,List.cons.injEq,Value.bool.injEq,Value.slice.injEq,and_true] at he;obtain ⟨rfl,⟨rfl,rfl,rfl⟩,rfl,rfl,rfl⟩:=he;rw [hw8] at Y HRW HKE;clear hk3 hw8 HKP;go_wp2;refine bodyPost_ret (v:=.tuple #[.agg #[.bool false,.slice none 0 0,.slice none 0 0],.iface 60 (.int .i64 (Q:Nat))]) ?_ rfl ⟨⟨_,rfl,HRW.out⟩,HKE.out⟩;simp [results,Tryz.results24,go_sem,Y.out.1,Y.out.2.1,Y.out.2.2]
theorem pp (xv v:Value) (xs:List Int) (ps:List Rw) (w:World) (hx:am w xv xs) (hv:RatsAt w v ps) (h3:∀ r∈ps,r.Short 3) (h30:ps.length<=30) :
  Calls Tryz.prog 25 #[xv,v] w fun e w'=>(∃ v',e=.returned (.tuple #[v',.int .i64 (dO xs ps:Nat)])/\RatAt w' v' (ai (f' xs ps)))/\ag w w':=by
 obtain ⟨Q,hQ⟩:∃ Q,Q=dO xs ps:=⟨_,rfl⟩;have HCK:Hid (∀ W,ag w W->Calls Tryz.prog 50 #[xv,v] W fun e w'=>e=.returned (.int .i64 (Q:Nat))/\ag W w'):=af fun W h=>by rw [hQ];exact dM xv v xs ps W (hx.kept h) (hv.kept h) h3
 obtain ⟨w2,hw2⟩:∃ w2,w2=w.alloc (.cells #[.bool false,.slice none 0 0,.slice none 0 0] 29):=⟨_,rfl⟩;have HZ:Hid (RatCell w2 w.heap.size ⟨false,[],[]⟩):=af (by rw [hw2];exact RatCell.zero w);have HK2:Hid (ag w w2):=af (by rw [hw2];exact (ag.refl w).alloc _);have HW2:=af hw2;clear hw2;by_cases h0:Q=0
 ·have he:dO xs ps=0:=by rw [<-hQ];exact h0
  obtain ⟨hxs,hlen,hm,hbad⟩:=cD he;have hR:f' xs ps=aA (fQ ps) (aC xs):=by unfold f';rw [if_pos he]
  rw [hR,<-hQ];subst h0;obtain ⟨ss,hss⟩:∃ ss,ss=aC xs:=⟨_,rfl⟩;rw [<-hss] at hxs hlen hm⊢;subst hxs;have h91:∀ s∈ss,(ai (fQ ps s)).Short 91:=fun s _=>gA hv.ok h3 h30 s
  have hsa:=bQ h91;have HEA:Hid (∀ W,ag w W->Calls Tryz.prog 53 #[xv,v,.bool false] W fun e w'=>(∃ v',e=.returned v'/\RatsAt w' v' (ss.map fun s=>ai (fQ ps s)))/\ag W w'):=af fun W h=>lO xv v ss ps W (hx.kept h) hlen hm (hv.kept h) h3 h30
  have HIN:Hid (∀ W u,RatsAt W u (ss.map fun s=>ai (fQ ps s))->Calls Tryz.prog 67 #[u] W fun e w'=>(∃ v',e=.returned v'/\RatAt w' v' (ai (aA (fQ ps) ss)))/\ag W w'):=af fun W u hu=>js (fQ ps) ss u W hu hlen h91
  obtain ⟨R0,hR0⟩:∃ R0,R0=ai (aA (fQ ps) ss):=⟨_,rfl⟩;obtain ⟨R1,hR1⟩:∃ R1,R1=ai (1 - aA (fQ ps) ss):=⟨_,rfl⟩;try rw [<-hR0] at HIN
  try rw [<-hR0,<-hR1] at HNT
  try rw [<-hR1]
  try rw [<-hR0]
  clear hQ he hR h91 hsa hR0 hR1 hlen hm hbad hss hx hv h3 h30
  skip
  go_enter Tryz.func25,Tryz.ntmps25;go_wp2_with fail;rw [<-HW2.out];refine (HCK.out _ HK2.out).mono ?_;rintro e w3 ⟨rfl,hk3⟩;have HK3:=af (HK2.out.trans hk3);have HZ3:=af (HZ.out.kept hk3);clear hk3;go_wp2_with fail;refine (HEA.out _ HK3.out).mono ?_;rintro e w4 ⟨⟨v4,rfl,hv4⟩,hk4⟩;have HV4:=af hv4;have HK4:=af (HK3.out.trans hk4);have HZ4:=af (HZ3.out.kept hk4);clear hv4 hk4;go_wp2_with fail;refine (HIN.out _ _ HV4.out).mono ?_;rintro e w5 ⟨⟨v5,rfl,hv5⟩,hk5⟩;have HV5:=af hv5;have HK5:=af (HK4.out.trans hk5);have HZ5:=af (HZ4.out.kept hk5);clear hv5 hk5;have HVL:=HV5;have HKL:=HK5;have HZL:=HZ5;obtain ⟨n8,l8,m8,a8,c8,b8,d8,w8,rfl,hw8,⟨⟨z0,j0⟩,⟨z1,j1⟩,⟨z2,j2⟩⟩,⟨f0,f1,f2⟩,hl8,Y,HRW,_,HKP⟩:=HZL.out.save HVL.out;have HKE:=af (HKP.out _ HKL.out (Nat.le_refl _));rw [hw8] at Y HRW HKE;clear hw8 HKP;go_wp2;refine bodyPost_ret (v:=.tuple #[.agg #[.bool n8,.slice a8 l8 c8,.slice b8 m8 d8],.int .i64 0]) ?_ rfl ⟨⟨_,rfl,HRW.out⟩,HKE.out⟩;simp [results,Tryz.results25,go_sem,Y.out.1,Y.out.2.1,Y.out.2.2]
 ·have hR:f' xs ps=0:=by unfold f';rw [if_neg (by rw [<-hQ];exact h0)]
  rw [hR,<-hQ];have hqn:((Q:Nat):Int)≠0:=by omega
  have hqb:(((Q:Nat):Int) != 0)=true:=by simpa using hqn
  have hqe:aY Q=.iface 60 (.int .i64 Q):=aN h0
  skip
  clear hQ hR h0 hqe hx hv h3 h30;go_enter Tryz.func25,Tryz.ntmps25;go_wp2_with fail;rw [<-HW2.out];refine (HCK.out _ HK2.out).mono ?_;rintro e w3 ⟨rfl,hk3⟩;obtain ⟨n8,l8,m8,a8,c8,b8,d8,w8,he,hw8,⟨⟨z0,j0⟩,⟨z1,j1⟩,⟨z2,j2⟩⟩,⟨f0,f1,f2⟩,hl8,Y,HRW,_,HKP⟩:=(HZ.out.kept hk3).save (RatAt.zero w3);have HKE:=af (HKP.out _ (HK2.out.trans hk3) (Nat.le_refl _));simp only [Value.agg.injEq,Array.mk.injEq,List.cons.injEq,Value.bool.injEq,Value.slice.injEq,and_true] at he;obtain ⟨rfl,⟨rfl,rfl,rfl⟩,rfl,rfl,rfl⟩:=he;rw [hw8] at Y HRW HKE;clear hk3 hw8 HKP;go_wp2;refine bodyPost_ret (v:=.tuple #[.agg #[.bool false,.slice none 0 0,.slice none 0 0],.int .i64 (Q:Nat)]) ?_ rfl ⟨⟨_,rfl,HRW.out⟩,HKE.out⟩;simp [results,Tryz.results25,go_sem,Y.out.1,Y.out.2.1,Y.out.2.2]
theorem kC (xv v:Value) (xs:List Int) (ps:List Rw) (w:World) (hx:am w xv xs) (hv:RatsAt w v ps) (h3:∀ r∈ps,r.Short 3) (h30:ps.length<=30) :
  Calls Tryz.prog 26 #[xv,v] w fun e w'=>(∃ v',e=.returned (.tuple #[v',aY (dO xs ps)])/\RatAt w' v' (ai (gf xs ps)))/\ag w w':=by
 obtain ⟨Q,hQ⟩:∃ Q,Q=dO xs ps:=⟨_,rfl⟩;have HCK:Hid (∀ W,ag w W->Calls Tryz.prog 46 #[xv,v] W fun e w'=>e=.returned (aY Q)/\ag W w'):=af fun W h=>by rw [hQ];exact fy xv v xs ps W (hx.kept h) (hv.kept h) h3
 obtain ⟨w2,hw2⟩:∃ w2,w2=w.alloc (.cells #[.bool false,.slice none 0 0,.slice none 0 0] 29):=⟨_,rfl⟩;have HZ:Hid (RatCell w2 w.heap.size ⟨false,[],[]⟩):=af (by rw [hw2];exact RatCell.zero w);have HK2:Hid (ag w w2):=af (by rw [hw2];exact (ag.refl w).alloc _);have HW2:=af hw2;clear hw2;by_cases h0:Q=0
 ·have he:dO xs ps=0:=by rw [<-hQ];exact h0
  obtain ⟨hxs,hlen,hm,hbad⟩:=cD he;have hR:gf xs ps=1 - aA (gQ ps) (aC xs):=by unfold gf;rw [if_pos he]
  rw [hR,<-hQ];subst h0;obtain ⟨ss,hss⟩:∃ ss,ss=aC xs:=⟨_,rfl⟩;rw [<-hss] at hxs hlen hm⊢;subst hxs;have h91:∀ s∈ss,(ai (gQ ps s)).Short 91:=fun s _=>jD hv.ok hbad h3 h30 s
  have hsa:=bQ h91
  have HIN:Hid (∀ W,ag w W->Calls Tryz.prog 58 #[xv,v,.func (.func 54) #[] #[]] W fun e w'=>(∃ v',e=.returned v'/\RatAt w' v' (ai (aA (gQ ps) ss)))/\ag W w'):=af fun W h0 =>
   esgreat_any 54 (enters_of Tryz.func54 (by kernel_rfl) rfl) (gQ ps) ss xv v W (hx.kept h0) hlen h91 (fun s hs W h1=>have h:=h0.trans h1;jf s v ps W (hm s hs).1 (hv.kept h) h3 h30 hbad)
  have HNT:Hid (∀ W u,RatAt W u (ai (aA (gQ ps) ss))->Calls Tryz.prog 47 #[u] W fun e w'=>(∃ v',e=.returned v'/\RatAt w' v' (ai (1 - aA (gQ ps) ss)))/\ag W w'):=af fun W u hu=>by
   have h:=eK u _ W hu (mN hsa);rw [ap] at h;exact h
  obtain ⟨R0,hR0⟩:∃ R0,R0=ai (aA (gQ ps) ss):=⟨_,rfl⟩;obtain ⟨R1,hR1⟩:∃ R1,R1=ai (1 - aA (gQ ps) ss):=⟨_,rfl⟩;try rw [<-hR0] at HIN
  try rw [<-hR0,<-hR1] at HNT
  try rw [<-hR1]
  try rw [<-hR0]
  clear hQ he hR h91 hsa hR0 hR1 hlen hm hbad hss hx hv h3 h30;rw [aW] at HCK⊢;go_enter Tryz.func26,Tryz.ntmps26;go_wp2_with fail;rw [<-HW2.out];refine (HCK.out _ HK2.out).mono ?_;rintro e w3 ⟨rfl,hk3⟩;have HK3:=af (HK2.out.trans hk3);have HZ3:=af (HZ.out.kept hk3);clear hk3;go_wp2_with fail;refine (HIN.out _ HK3.out).mono ?_;rintro e w5 ⟨⟨v5,rfl,hv5⟩,hk5⟩;have HV5:=af hv5;have HK5:=af (HK3.out.trans hk5);have HZ5:=af (HZ3.out.kept hk5);clear hv5 hk5;go_wp2_with fail;refine (HNT.out _ _ HV5.out).mono ?_;rintro e w6 ⟨⟨v6,rfl,hv6⟩,hk6⟩;have HVL:=af hv6;have HKL:=af (HK5.out.trans hk6);have HZL:=af (HZ5.out.kept hk6);clear hv6 hk6;obtain ⟨n8,l8,m8,a8,c8,b8,d8,w8,rfl,hw8,⟨⟨z0,j0⟩,⟨z1,j1⟩,⟨z2,j2⟩⟩,⟨f0,f1,f2⟩,hl8,Y,HRW,_,HKP⟩:=HZL.out.save HVL.out;have HKE:=af (HKP.out _ HKL.out (Nat.le_refl _));rw [hw8] at Y HRW HKE;clear hw8 HKP;go_wp2;refine bodyPost_ret (v:=.tuple #[.agg #[.bool n8,.slice a8 l8 c8,.slice b8 m8 d8],.nilIface]) ?_ rfl ⟨⟨_,rfl,HRW.out⟩,HKE.out⟩;simp [results,Tryz.results26,go_sem,Y.out.1,Y.out.2.1,Y.out.2.2]
 ·have hR:gf xs ps=0:=by unfold gf;rw [if_neg (by rw [<-hQ];exact h0)]
  rw [hR,<-hQ];have hqn:((Q:Nat):Int)≠0:=by omega
  have hqb:(((Q:Nat):Int) != 0)=true:=by simpa using hqn
  have hqe:aY Q=.iface 60 (.int .i64 Q):=aN h0;rw [hqe] at HCK⊢;clear hQ hR h0 hqe hx hv h3 h30;go_enter Tryz.func26,Tryz.ntmps26;go_wp2_with fail;rw [<-HW2.out];refine (HCK.out _ HK2.out).mono ?_;rintro e w3 ⟨rfl,hk3⟩;obtain ⟨n8,l8,m8,a8,c8,b8,d8,w8,he,hw8,⟨⟨z0,j0⟩,⟨z1,j1⟩,⟨z2,j2⟩⟩,⟨f0,f1,f2⟩,hl8,Y,HRW,_,HKP⟩:=(HZ.out.kept hk3).save (RatAt.zero w3);have HKE:=af (HKP.out _ (HK2.out.trans hk3) (Nat.le_refl _));simp only [Value.agg.injEq,Array.mk.injEq,List.cons.injEq,Value.bool.injEq,Value.slice.injEq,and_true] at he;obtain ⟨rfl,⟨rfl,rfl,rfl⟩,rfl,rfl,rfl⟩:=he;rw [hw8] at Y HRW HKE;clear hk3 hw8 HKP;go_wp2;refine bodyPost_ret (v:=.tuple #[.agg #[.bool false,.slice none 0 0,.slice none 0 0],.iface 60 (.int .i64 (Q:Nat))]) ?_ rfl ⟨⟨_,rfl,HRW.out⟩,HKE.out⟩;simp [results,Tryz.results26,go_sem,Y.out.1,Y.out.2.1,Y.out.2.2]
theorem p_ (xv v:Value) (xs:List Int) (ps:List Rw) (w:World) (hx:am w xv xs) (hv:RatsAt w v ps) (h3:∀ r∈ps,r.Short 3) (h30:ps.length<=30) :
  Calls Tryz.prog 27 #[xv,v] w fun e w'=>(∃ v',e=.returned (.tuple #[v',.int .i64 (dO xs ps:Nat)])/\RatAt w' v' (ai (gf xs ps)))/\ag w w':=by
 obtain ⟨Q,hQ⟩:∃ Q,Q=dO xs ps:=⟨_,rfl⟩;have HCK:Hid (∀ W,ag w W->Calls Tryz.prog 50 #[xv,v] W fun e w'=>e=.returned (.int .i64 (Q:Nat))/\ag W w'):=af fun W h=>by rw [hQ];exact dM xv v xs ps W (hx.kept h) (hv.kept h) h3
 obtain ⟨w2,hw2⟩:∃ w2,w2=w.alloc (.cells #[.bool false,.slice none 0 0,.slice none 0 0] 29):=⟨_,rfl⟩;have HZ:Hid (RatCell w2 w.heap.size ⟨false,[],[]⟩):=af (by rw [hw2];exact RatCell.zero w);have HK2:Hid (ag w w2):=af (by rw [hw2];exact (ag.refl w).alloc _);have HW2:=af hw2;clear hw2;by_cases h0:Q=0
 ·have he:dO xs ps=0:=by rw [<-hQ];exact h0
  obtain ⟨hxs,hlen,hm,hbad⟩:=cD he;have hR:gf xs ps=1 - aA (gQ ps) (aC xs):=by unfold gf;rw [if_pos he]
  rw [hR,<-hQ];subst h0;obtain ⟨ss,hss⟩:∃ ss,ss=aC xs:=⟨_,rfl⟩;rw [<-hss] at hxs hlen hm⊢;subst hxs;have h91:∀ s∈ss,(ai (gQ ps s)).Short 91:=fun s _=>jD hv.ok hbad h3 h30 s
  have hsa:=bQ h91;have HEA:Hid (∀ W,ag w W->Calls Tryz.prog 53 #[xv,v,.bool true] W fun e w'=>(∃ v',e=.returned v'/\RatsAt w' v' (ss.map fun s=>ai (gQ ps s)))/\ag W w'):=af fun W h=>lP xv v ss ps W (hx.kept h) hlen hm (hv.kept h) h3 h30 hbad
  have HIN:Hid (∀ W u,RatsAt W u (ss.map fun s=>ai (gQ ps s))->Calls Tryz.prog 67 #[u] W fun e w'=>(∃ v',e=.returned v'/\RatAt w' v' (ai (aA (gQ ps) ss)))/\ag W w'):=af fun W u hu=>js (gQ ps) ss u W hu hlen h91
  have HNT:Hid (∀ W u,RatAt W u (ai (aA (gQ ps) ss))->Calls Tryz.prog 51 #[u] W fun e w'=>(∃ v',e=.returned v'/\RatAt w' v' (ai (1 - aA (gQ ps) ss)))/\ag W w'):=af fun W u hu=>by
   have h:=eF u _ W hu (mN hsa);rw [ap] at h;exact h
  obtain ⟨R0,hR0⟩:∃ R0,R0=ai (aA (gQ ps) ss):=⟨_,rfl⟩;obtain ⟨R1,hR1⟩:∃ R1,R1=ai (1 - aA (gQ ps) ss):=⟨_,rfl⟩;try rw [<-hR0] at HIN
  try rw [<-hR0,<-hR1] at HNT
  try rw [<-hR1]
  try rw [<-hR0]
  clear hQ he hR h91 hsa hR0 hR1 hlen hm hbad hss hx hv h3 h30
  skip
  go_enter Tryz.func27,Tryz.ntmps27;go_wp2_with fail;rw [<-HW2.out];refine (HCK.out _ HK2.out).mono ?_;rintro e w3 ⟨rfl,hk3⟩;have HK3:=af (HK2.out.trans hk3);have HZ3:=af (HZ.out.kept hk3);clear hk3;go_wp2_with fail;refine (HEA.out _ HK3.out).mono ?_;rintro e w4 ⟨⟨v4,rfl,hv4⟩,hk4⟩;have HV4:=af hv4;have HK4:=af (HK3.out.trans hk4);have HZ4:=af (HZ3.out.kept hk4);clear hv4 hk4;go_wp2_with fail;refine (HIN.out _ _ HV4.out).mono ?_;rintro e w5 ⟨⟨v5,rfl,hv5⟩,hk5⟩;have HV5:=af hv5;have HK5:=af (HK4.out.trans hk5);have HZ5:=af (HZ4.out.kept hk5);clear hv5 hk5;go_wp2_with fail;refine (HNT.out _ _ HV5.out).mono ?_;rintro e w6 ⟨⟨v6,rfl,hv6⟩,hk6⟩;have HVL:=af hv6;have HKL:=af (HK5.out.trans hk6);have HZL:=af (HZ5.out.kept hk6);clear hv6 hk6;obtain ⟨n8,l8,m8,a8,c8,b8,d8,w8,rfl,hw8,⟨⟨z0,j0⟩,⟨z1,j1⟩,⟨z2,j2⟩⟩,⟨f0,f1,f2⟩,hl8,Y,HRW,_,HKP⟩:=HZL.out.save HVL.out;have HKE:=af (HKP.out _ HKL.out (Nat.le_refl _));rw [hw8] at Y HRW HKE;clear hw8 HKP;go_wp2;refine bodyPost_ret (v:=.tuple #[.agg #[.bool n8,.slice a8 l8 c8,.slice b8 m8 d8],.int .i64 0]) ?_ rfl ⟨⟨_,rfl,HRW.out⟩,HKE.out⟩;simp [results,Tryz.results27,go_sem,Y.out.1,Y.out.2.1,Y.out.2.2]
 ·have hR:gf xs ps=0:=by unfold gf;rw [if_neg (by rw [<-hQ];exact h0)]
  rw [hR,<-hQ];have hqn:((Q:Nat):Int)≠0:=by omega
  have hqb:(((Q:Nat):Int) != 0)=true:=by simpa using hqn
  have hqe:aY Q=.iface 60 (.int .i64 Q):=aN h0
  skip
  clear hQ hR h0 hqe hx hv h3 h30;go_enter Tryz.func27,Tryz.ntmps27;go_wp2_with fail;rw [<-HW2.out];refine (HCK.out _ HK2.out).mono ?_;rintro e w3 ⟨rfl,hk3⟩;obtain ⟨n8,l8,m8,a8,c8,b8,d8,w8,he,hw8,⟨⟨z0,j0⟩,⟨z1,j1⟩,⟨z2,j2⟩⟩,⟨f0,f1,f2⟩,hl8,Y,HRW,_,HKP⟩:=(HZ.out.kept hk3).save (RatAt.zero w3);have HKE:=af (HKP.out _ (HK2.out.trans hk3) (Nat.le_refl _));simp only [Value.agg.injEq,Array.mk.injEq,List.cons.injEq,Value.bool.injEq,Value.slice.injEq,and_true] at he;obtain ⟨rfl,⟨rfl,rfl,rfl⟩,rfl,rfl,rfl⟩:=he;rw [hw8] at Y HRW HKE;clear hk3 hw8 HKP;go_wp2;refine bodyPost_ret (v:=.tuple #[.agg #[.bool false,.slice none 0 0,.slice none 0 0],.int .i64 (Q:Nat)]) ?_ rfl ⟨⟨_,rfl,HRW.out⟩,HKE.out⟩;simp [results,Tryz.results27,go_sem,Y.out.1,Y.out.2.1,Y.out.2.2]
def km (arg:List Nat):List Nat->List (List Nat)->Option (List (List Nat))
 | _,[]=>some []
 | p,q :: t=>(aM p arg).bind fun x=>(bK q x).bind fun y=>(km arg q t).map fun r=>y :: r
def eh (t:List (List Nat)) (arg:List Nat):Option (List (List Nat)):=match t with
 | []=>some []
 | p :: t=>(km arg p t).map fun r=>p :: r
def gj (t:List (List Nat)) (args:List (List Nat)):Option (List (List Nat)):=args.foldlM eh t
def ff (args:List (List Nat)) (m:Nat):Option (List Nat):=(gj ([0] :: List.replicate m []) args).map fun t=>t.getD m []
theorem yC {arg:List Nat}:∀ {t r:List (List Nat)} {p:List Nat},km arg p t=some r->r.length=t.length:=by
 intro t;induction t with
 | nil=>intro r p h;cases h;rfl
 | cons q t ih =>
  intro r p h;obtain ⟨x,_,h⟩:=Option.bind_eq_some_iff.1 h;obtain ⟨y,_,h⟩:=Option.bind_eq_some_iff.1 h;obtain ⟨u,hu,h⟩:=Option.map_eq_some_iff.1 h;rw [<-h,List.length_cons,List.length_cons,ih hu]
theorem vd {arg:List Nat} {t r:List (List Nat)} (h:eh t arg=some r):r.length=t.length:=by
 cases t with
 | nil=>cases h;rfl
 | cons p t =>
  obtain ⟨u,hu,h⟩:=Option.map_eq_some_iff.1 h;rw [<-h,List.length_cons,List.length_cons,yC hu]
theorem BX {arg:List Nat} {s c:Nat}:∀ {t r:List (List Nat)} {p:List Nat} {j:Nat},(up p s ↔ j<=c)->(∀ i (h:i<t.length),(up t[i] s ↔ j+1+i<=c))->km arg p t=some r ->
  ∀ i (h:i<r.length),(up r[i] s ↔ j+1+i<=c+pS s [arg]):=by
 intro t;induction t with
 | nil=>intro r p j _ _ h i hi;cases h;cases hi
 | cons q t ih =>
  intro r p j hp ht h i hi;obtain ⟨x,hx,h⟩:=Option.bind_eq_some_iff.1 h;obtain ⟨y,hy,h⟩:=Option.bind_eq_some_iff.1 h;obtain ⟨u,hu,h⟩:=Option.map_eq_some_iff.1 h;subst h;have hq:=ht 0 (by simp);cases i with
  | zero =>
   show up y s ↔ _;rw [tN hy,nH hx,hp,show (up q s ↔ _) from hq];simp only [pS];by_cases h1:up arg s
   ·rw [if_pos h1];constructor
    ·rintro (h | ⟨h,_⟩) <;> omega
    ·intro h;exact .inr ⟨by omega,h1⟩
   ·rw [if_neg h1];constructor
    ·rintro (h | ⟨_,h⟩)
     ·omega
     ·exact absurd h h1
    ·intro h;exact .inl (by omega)
  | succ i =>
   have:=ih (j:=j+1) hq (fun i hi=>by
    have:=ht (i+1) (by simpa using hi);rw [show j+1+1+i=j+1+(i+1) by omega];exact this) hu i (by simpa using hi)
   rw [show j+1+(i+1)=j+1+1+i by omega];exact this
theorem zm {arg:List Nat} {s c:Nat} {t r:List (List Nat)} (ht:∀ i (h:i<t.length),(up t[i] s ↔ i<=c)) (h:eh t arg=some r):∀ i (h:i<r.length),(up r[i] s ↔ i<=c+pS s [arg]):=by
 cases t with
 | nil=>cases h;intro i hi;cases hi
 | cons p t =>
  obtain ⟨u,hu,h⟩:=Option.map_eq_some_iff.1 h;subst h;intro i hi;cases i with
  | zero =>
   have h0:=ht 0 (by simp);show up p s ↔ _;rw [show (up p s ↔ _) from h0];exact ⟨fun _=>by omega,fun _=>by omega⟩
  | succ i =>
   have:=BX (j:=0) (ht 0 (by simp)) (fun i hi=>by
    have:=ht (i+1) (by simpa using hi);rw [show 0+1+i=i+1 by omega];exact this) hu i (by simpa using hi)
   rw [show 0+1+i=i+1 by omega] at this;exact this
theorem BW {s:Nat}:∀ {args:List (List Nat)} {t r:List (List Nat)} {c:Nat},(∀ i (h:i<t.length),(up t[i] s ↔ i<=c))->gj t args=some r->r.length=t.length/\∀ i (h:i<r.length),(up r[i] s ↔ i<=c+pS s args):=by
 intro args;induction args with
 | nil=>intro t r c ht h;cases h;exact ⟨rfl,fun i hi=>by simpa [pS] using ht i hi⟩
 | cons a args ih =>
  intro t r c ht h;unfold gj at h;rw [List.foldlM_cons] at h;obtain ⟨u,hu,h⟩:=Option.bind_eq_some_iff.1 h;obtain ⟨h1,h2⟩:=ih (c:=c+pS s [a]) (zm ht hu) h;refine ⟨h1.trans (vd hu),fun i hi=>?_⟩;rw [h2 i hi];simp only [pS];omega
theorem zo {args:List (List Nat)} {m:Nat} {l:List Nat} (h:ff args m=some l) (s:Nat):up l s ↔ m<=pS s args:=by
 obtain ⟨r,hr,h⟩:=Option.map_eq_some_iff.1 h
 obtain ⟨h1,h2⟩:=BW (c:=0) (s:=s) (fun i hi=>by
  cases i with
  | zero=>exact ⟨fun _=>by omega,fun _=>rW s⟩
  | succ i =>
   have e:([0] :: List.replicate m ([]:List Nat))[i+1]=[]:=by simp
   rw [e];exact ⟨fun h=>absurd h (vV s),fun h=>by omega⟩) hr
 have hl:m<r.length:=by rw [h1];simp
 have e:r.getD m []=r[m]:=by rw [List.getD_eq_getElem?_getD,List.getElem?_eq_getElem hl];rfl
 rw [<-h,e,h2 m hl];omega
def cz (kind:Int) (k:Int) (fams:List (List Nat)):Option (List Nat) :=
 if kind=0 then some (if k=1 then [] else [0]) else if kind=2 then bO bK [] fams else if kind=3 then bO aM [0] fams else ff fams (fams.length - k.toNat+1)
def dL (V:Nat) (mark:List Bool) (nodes:List Nd) (out:List (List Nat)) (i:Nat):Option (List (List Nat)) :=
 if mark.getD (V+i) false then (cz (nodes.getD i bz).kind (nodes.getD i bz).k ((nodes.getD i bz).args.map (eV V out))).map fun l=>out.set i l else some out
def dd (V:Nat) (mark:List Bool) (nodes:List Nd):Nat->Option (List (List Nat))
 | 0=>some (List.replicate nodes.length [])
 | k+1=>(dd V mark nodes k).bind fun out=>dL V mark nodes out k
theorem zl {kind k:Int} {fams:List (List Nat)} {l:List Nat} (h:cz kind k fams=some l) (hk:kind=0\/kind=2\/kind=3\/kind=4) (h4:kind=4->1<=k/\k<=fams.length) (s:Nat):up l s ↔ nr kind k (fams.length - pS s fams) fams.length=false:=by
 have hle:=BS s fams;unfold cz at h;unfold nr;rcases hk with rfl | rfl | rfl | rfl
 ·simp only [if_true] at h⊢;by_cases e:k=1
  ·rw [if_pos e] at h;cases h;simp [e,vV]
  ·rw [if_neg e] at h;cases h;simp [e,rW]
 ·simp only [show ¬ (2:Int)=0 by decide,show ¬ (2:Int)=3 by decide,show ¬ (2:Int)=1 by decide,if_true,if_false] at h⊢;rw [zk fams s [] l h,<-Da];simp [vV];omega
 ·simp only [show ¬ (3:Int)=0 by decide,show ¬ (3:Int)=2 by decide,show ¬ (3:Int)=1 by decide,if_true,if_false] at h⊢;rw [vU fams s [0] l h,<-C'];simp [rW];omega
 ·simp only [show ¬ (4:Int)=0 by decide,show ¬ (4:Int)=2 by decide,show ¬ (4:Int)=1 by decide,show ¬ (4:Int)=3 by decide,if_true,if_false] at h⊢;rw [zo h,decide_eq_false_iff_not];have:=h4 rfl;omega
theorem ux {arg:List Nat}:∀ {t r:List (List Nat)} {p:List Nat},km arg p t=some r->∀ l∈r,Good l:=by
 intro t;induction t with
 | nil=>intro r p h l hl;cases h;cases hl
 | cons q t ih =>
  intro r p h l hl;obtain ⟨x,hx,h⟩:=Option.bind_eq_some_iff.1 h;obtain ⟨y,hy,h⟩:=Option.bind_eq_some_iff.1 h;obtain ⟨u,hu,h⟩:=Option.map_eq_some_iff.1 h;subst h;rcases List.mem_cons.1 hl with e | e
  ·rw [e];exact oA hy
  ·exact ih hu l e
theorem sy {arg:List Nat} {t r:List (List Nat)} (ht:∀ l∈t,Good l) (h:eh t arg=some r):∀ l∈r,Good l:=by
 cases t with
 | nil=>cases h;exact ht
 | cons p t =>
  obtain ⟨u,hu,h⟩:=Option.map_eq_some_iff.1 h;subst h;intro l hl;rcases List.mem_cons.1 hl with e | e
  ·rw [e];exact ht p (List.mem_cons_self ..)
  ·exact ux hu l e
theorem uw:∀ {args:List (List Nat)} {t r:List (List Nat)},(∀ l∈t,Good l)->gj t args=some r->∀ l∈r,Good l:=by
 intro args;induction args with
 | nil=>intro t r ht h;cases h;exact ht
 | cons a args ih =>
  intro t r ht h;unfold gj at h;rw [List.foldlM_cons] at h;obtain ⟨u,hu,h⟩:=Option.bind_eq_some_iff.1 h;exact ih (sy ht hu) h
theorem uy (m:Nat):∀ l∈([0] :: List.replicate m ([]:List Nat)),Good l:=fun l hl=>by
 rcases List.mem_cons.1 hl with e | e
 ·rw [e];exact jh 0
 ·rw [(List.mem_replicate.1 e).2];exact jg
theorem ni {kind k:Int} {fams:List (List Nat)} {l:List Nat} (h:cz kind k fams=some l):Good l:=by
 unfold cz at h;split at h
 ·split at h
  ·cases h;exact jg
  ·cases h;exact jh 0
 ·split at h
  ·exact qo _ (fun _ _ _ h=>oA h) _ _ _ jg h
  ·split at h
   ·exact qo _ (fun _ _ _ h=>pW h) _ _ _ (jh 0) h
   ·obtain ⟨r,hr,h⟩:=Option.map_eq_some_iff.1 h;have hg:=uw (uy _) hr;rw [<-h];rw [List.getD_eq_getElem?_getD];cases e:r[fams.length - k.toNat+1]? with
    | none=>exact jg
    | some x=>exact hg x (List.mem_of_getElem? e)
theorem jm (V:Nat) (mark:List Bool) (nodes:List Nd):∀ k out,dd V mark nodes k=some out->out.length=nodes.length:=by
 intro k;induction k with
 | zero=>intro out h;cases h;simp
 | succ k ih =>
  intro out h;obtain ⟨o,h1,h2⟩:=Option.bind_eq_some_iff.1 h;unfold dL at h2;split at h2
  ·obtain ⟨l,_,h4⟩:=Option.map_eq_some_iff.1 h2;rw [<-h4,List.length_set,ih o h1]
  ·cases h2;exact ih _ h1
def rf (s:Nat):Nat:=bk 16777215 s
theorem fw (s i:Nat) (hi:i<24):(rf s).testBit i=!s.testBit i:=by
 unfold rf;rw [dA,show (16777215:Nat)=2^24 - 1 from rfl,Nat.testBit_two_pow_sub_one];simp [hi]
theorem vW (V T s:Nat) (f:Fm) (hok:Ok f V T) (mark:List Bool) (hmono:∀ i (hi:i<f.nodes.length),mark.getD (V+i) false=true->f.nodes[i].kind=0\/f.nodes[i].kind=2\/f.nodes[i].kind=3\/f.nodes[i].kind=4)
  (hcl:∀ i (hi:i<f.nodes.length),mark.getD (V+i) false=true->∀ a∈f.nodes[i].args,mark.getD a.toNat false=true) :
  ∀ k out,k<=f.nodes.length->dd V mark f.nodes k=some out->∀ i,i<k->mark.getD (V+i) false=true->(up (out.getD i []) (rf s) ↔ (bu V s f.nodes k).getD (V+i) false=false):=by
 intro k;induction k with
 | zero=>intro out _ _ i hi;omega
 | succ k ih =>
  intro out hk h i hi hm;obtain ⟨o,h1,h2⟩:=Option.bind_eq_some_iff.1 h;have hkx:k<f.nodes.length:=by omega
  have hnd:f.nodes.getD k bz=f.nodes[k]:=by simp [List.getD_eq_getElem?_getD,hkx]
  have hol:=jm V mark f.nodes k o h1
  have hold:∀ i,i<k->mark.getD (V+i) false=true->(up (o.getD i []) (rf s) ↔ (bu V s f.nodes (k+1)).getD (V+i) false=false):=fun i hi hm=>by
   rw [gX V s f.nodes k (k+1) (V+i) (by omega) (by omega)];exact ih o (by omega) h1 i hi hm
  unfold dL at h2;rw [hnd] at h2;by_cases e:i=k
  ·subst e;rw [if_pos hm] at h2;obtain ⟨l,hl,h4⟩:=Option.map_eq_some_iff.1 h2;subst h4;rw [List.getD_eq_getElem?_getD,List.getElem?_set_self (by omega)];show up l (rf s) ↔ _
   have hval:(bu V s f.nodes (i+1)).getD (V+i) false=nr f.nodes[i].kind f.nodes[i].k (cJ (bu V s f.nodes i) f.nodes[i].args) f.nodes[i].args.length:=by
    show (bu V s f.nodes i++_).getD (V+i) false=_;rw [List.getD_eq_getElem?_getD,List.getElem?_append_right (by rw [gC];omega),gC,Nat.sub_self,hnd];rfl
   have hcnt:∀ bs:List Int,(∀ a∈bs,(0<=a/\a<(V:Int)+i)/\mark.getD a.toNat false=true)->pS (rf s) (bs.map (eV V o))+cJ (bu V s f.nodes i) bs=bs.length:=by
    intro bs;induction bs with
    | nil=>intro _;rfl
    | cons a bs iha =>
     intro ha;have h3:=ha a (List.mem_cons_self ..);have ih2:=iha fun x hx=>ha x (List.mem_cons_of_mem _ hx)
     simp only [List.map_cons,pS,cJ,List.length_cons]
     have key:up (eV V o a) (rf s) ↔ (bu V s f.nodes i).getD a.toNat false=false:=by
      obtain ⟨A,rfl⟩:=Int.eq_ofNat_of_zero_le h3.1.1;simp only [Int.toNat_natCast] at h3⊢;unfold eV;by_cases hAV:A<V
      ·have:=hok.v24;rw [if_pos (by omega),gW V s f.nodes i A hAV];constructor
       ·rintro ⟨t,ht,hts⟩;simp at ht;subst ht;rw [xf,fw s A (by omega)] at hts;simpa using hts
       ·intro hb;exact ⟨2^A,by simp,by rw [xf,fw s A (by omega),hb];rfl⟩
      ·rw [if_neg (by omega),show ((A:Int) - (V:Int)).toNat=A - V by omega];have:=ih o (by omega) h1 (A - V) (by omega) (by rw [show V+(A - V)=A by omega];exact h3.2);rw [show V+(A - V)=A by omega] at this;exact this
     by_cases hu:up (eV V o a) (rf s)
     ·rw [if_pos hu,key.1 hu];simp;omega
     ·rw [if_neg hu];cases hv:(bu V s f.nodes i).getD a.toNat false with
      | false=>exact absurd (key.2 hv) hu
      | true=>simp;omega
   have hc:=hcnt f.nodes[i].args (fun a ha=>⟨hok.args i hkx a ha,hcl i hkx hm a ha⟩)
   rw [zl hl (hmono i hkx hm) (fun h4=>by
    have:=hok.arity i hkx;unfold jQ at this;rw [if_neg (by omega),if_pos h4] at this;rw [List.length_map];split at this
    ·omega
    ·cases this) (rf s),hval,List.length_map]
   rw [show f.nodes[i].args.length - pS (rf s) (f.nodes[i].args.map (eV V o))=cJ (bu V s f.nodes i) f.nodes[i].args by omega]
  ·split at h2
   ·obtain ⟨l,hl,h4⟩:=Option.map_eq_some_iff.1 h2;subst h4;rw [List.getD_eq_getElem?_getD,List.getElem?_set_ne (by omega),<-List.getD_eq_getElem?_getD];exact hold i (by omega) hm
   ·cases h2;exact hold i (by omega) hm
end Go.Proofs.YtofibjflkebkpaaGreatDoor
