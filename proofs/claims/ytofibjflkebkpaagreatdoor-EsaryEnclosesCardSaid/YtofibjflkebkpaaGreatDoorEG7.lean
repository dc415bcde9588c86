import Derived.WalkKit
import Derived.WalkSpells
import Derived.WalkLawsBesides
import Derived.Deep.QuietTactic
import Derived.BigQuiet
import Derived.Lib.Hide
import Derived.Shelf.Abstract
import Derived.Deep.RegionWith
import Derived.Laws.AppendOwnNone
import Derived.Lib.AppendZerosOnto
import Derived.Lib.SliceRun
import Derived.Lib.SlicesCompact
import Derived.Shelf.SlSortCmp.NoneTotal
import Derived.Maps.OwnOps
import Derived.Maps.OwnSet
import Derived.Maps.Views
import Derived.Deep.MidRow
import Derived.Deep.RegionHeld3
import Derived.Deep.AppendLies
import Derived.Deep.RegionLaw
import Derived.IntWalk
import Derived.StillTailTactics
import Derived.RegionTactic
import Derived.BigRegion
import Derived.ChangeAlike
import Derived.Sort.LotD2
import Derived.Sort.LotA
import Derived.Shelf.SlSortCmp.PdqK
import Derived.Deep.DeepCutAuto
import Derived.Lib.ItoaNum
import Derived.Deep.LoopGhost
import Derived.ProofKit
import Derived.OpenShut
import Derived.SizedLaws
import Derived.Lib.SmallJoins
import Derived.Deep.Slices
import Derived.Deep.Fields
import Derived.Deep.Strs
import Derived.Carry
import Derived.Lib.BitFns
import Derived.Deep.CutBlock
import Derived.Test.YtofibjflkebkpaaGreatDoorEG6
import Derived.Test.YtofibjflkebkpaaGreatDoorEG4
import Derived.Test.YtofibjflkebkpaaGreatDoorEG2
import Derived.Test.YtofibjflkebkpaaGreatDoorEG1
set_option maxRecDepth 100000
set_option maxHeartbeats 16000000
namespace Go.Proofs.YtofibjflkebkpaaGreatDoor
open Go.RowKit
theorem eH {w:World} {g:Nat} {T:TypeId} {v1 v2:Value} {r:Rw} (C:Obj) (hr:ai w g T [.bool false,.slice none 0 0,.slice none 0 0]) (hf:bo w g [.bool false,.slice none 0 0,.slice none 0 0]) (h1:WdsAt w v1 r.num) (h2:WdsAt w v2 r.den) :
  ((((w.setCell ⟨g,0,none⟩ (.bool r.neg)).setCell ⟨g,1,none⟩ v1).setCell ⟨g,2,none⟩ v2).alloc C).cell? ⟨g,0,none⟩=some (.bool r.neg) /\
  ((((w.setCell ⟨g,0,none⟩ (.bool r.neg)).setCell ⟨g,1,none⟩ v1).setCell ⟨g,2,none⟩ v2).alloc C).cell? ⟨g,1,none⟩=some v1 /\
  ((((w.setCell ⟨g,0,none⟩ (.bool r.neg)).setCell ⟨g,1,none⟩ v1).setCell ⟨g,2,none⟩ v2).alloc C).cell? ⟨g,2,none⟩=some v2 /\
  RatAt ((((w.setCell ⟨g,0,none⟩ (.bool r.neg)).setCell ⟨g,1,none⟩ v1).setCell ⟨g,2,none⟩ v2).alloc C) (.agg #[.bool r.neg,v1,v2]) r:=by
 obtain ⟨y0,y1,y2,hra⟩:=aL hr hf h1 h2;have hk:=(af.refl (((w.setCell ⟨g,0,none⟩ (.bool r.neg)).setCell ⟨g,1,none⟩ v1).setCell ⟨g,2,none⟩ v2)).alloc C;exact ⟨hk.cell y0,hk.cell y1,hk.cell y2,hra.kept hk⟩
theorem qx (n:Nat) (w:World) (hn:n<9223372036854775808):Calls Tryz.prog 224 #[.int .i64 n] w fun e w'=>(∃ v' xs,e=.returned v'/\WdsAt w' v' xs/\nv xs=n/\xs.length=2)/\af w w':=by
 obtain ⟨x,hx⟩:∃ x,x=n % 4294967296:=⟨_,rfl⟩;obtain ⟨y,hy⟩:∃ y,y=n / 4294967296:=⟨_,rfl⟩;have hx9:x<4294967296:=by omega
 have hy9:y<4294967296:=by omega
 have HV:Hid (nv [x,y]=n):=ae (by simp [nv];omega);have e0:IntKind.u64.wrap (n:Int)=(n:Int):=by rw [IntKind.wrap_u64];omega
 have e1:IntKind.u32.wrap (n:Int)=(x:Int):=by rw [IntKind.wrap_u32];omega
 have e2:(n:Int) / 4294967296=(y:Int):=by omega
 have e3:IntKind.u32.wrap (y:Int)=(y:Int):=by rw [IntKind.wrap_u32];omega
 have hp:¬ (n:Int)<0:=by omega
 clear hx hy;go_enter Tryz.func224,Tryz.ntmps224;go_wp2;go_ret;exact ⟨⟨_,rfl,[x,y],uh w x y hx9 hy9,HV.out,rfl⟩,(af.refl _).alloc _⟩
theorem tH (n:Nat) (w:World) (hn:n<9223372036854775808):Calls Tryz.prog 161 #[.int .i64 n,.int .i64 1] w fun e w'=>(∃ v',e=.returned (.tuple #[v',.int .i64 0])/\RatAt w' v' (ah ((n:Int):Rat)))/\af w w':=by
 have HS1:=ae (fun W=>qx n W hn);have HS2:Hid (∀ W,Calls Tryz.prog 224 #[.int .i64 1] W fun e w'=>(∃ v' xs,e=.returned v'/\WdsAt w' v' xs/\nv xs=1/\xs.length=2)/\af W w'):=ae fun W=>qx 1 W (by omega)
 obtain ⟨R,hR⟩:∃ R,R=ah ((n:Int):Rat):=⟨_,rfl⟩
 have HFO:Hid (∀ W u1 u2 xs ys,WdsAt W u1 xs->WdsAt W u2 ys->nv xs=n->nv ys=1->xs.length=2->ys.length=2->Calls Tryz.prog 163 #[.bool false,u1,u2] W fun e w'=>(∃ v,e=.returned (.tuple #[v,.int .i64 0])/\RatAt w' v R)/\af W w'):=ae fun W u1 u2 xs ys k1 k2 n1 n2 l1 l2=>by
  have h:=eI false u1 u2 xs ys W k1 k2 (by omega) (by omega) (by omega);rw [n1,n2,bV _ _ _ (by omega),show sg false n=(n:Int) from rfl,Rat.mkRat_one,<-hR] at h;exact h
 rw [<-hR];obtain ⟨w2,hw2⟩:∃ w2,w2=w.alloc (.cells #[.bool false,.slice none 0 0,.slice none 0 0] 29):=⟨_,rfl⟩;have HR:Hid (ai w2 w.heap.size 29 [.bool false,.slice none 0 0,.slice none 0 0]):=ae (by rw [hw2];exact ai.made w #[.bool false,.slice none 0 0,.slice none 0 0] 29);have HFX:Hid (bo w2 w.heap.size [.bool false,.slice none 0 0,.slice none 0 0]):=ae (by rw [hw2];exact bo.made w #[.bool false,.slice none 0 0,.slice none 0 0] 29);have HK0:Hid (af w w2):=ae (by rw [hw2];exact (af.refl w).alloc _);have HW2:=ae hw2;have hn0:¬ (n:Int)<0:=by omega
 clear hw2 hR;go_enter Tryz.func161,Tryz.ntmps161;go_wp2_with fail;rw [<-HW2.out];refine (HS1.out _).mono ?_;rintro e w3 ⟨⟨v3,xs,rfl,hv3,hn3,hl3⟩,hk3⟩;have HV3:=ae hv3;have HN3:=ae (And.intro hn3 hl3);have HR3:=ae (HR.out.kept hk3);have HF3:=ae (HFX.out.kept hk3);have HK3:=ae (HK0.out.trans hk3);clear hv3 hk3 hn3 hl3;go_wp2_with fail;refine (HS2.out _).mono ?_;rintro e w4 ⟨⟨v4,ys,rfl,hv4,hn4,hl4⟩,hk4⟩;have HV4:=ae hv4;have HN4:=ae (And.intro hn4 hl4);have HV3':=ae (HV3.out.kept hk4);have HR4:=ae (HR3.out.kept hk4);have HF4:=ae (HF3.out.kept hk4);have HK4:=ae (HK3.out.trans hk4);clear hv4 hk4 hn4 hl4;go_wp2_with fail;refine (HFO.out _ _ _ _ _ HV3'.out HV4.out HN3.out.1 HN4.out.1 HN3.out.2 HN4.out.2).mono ?_;rintro e w10 ⟨⟨v10,rfl,hv10⟩,hk10⟩;have hr10:=HR4.out.kept hk10;have HF10:=ae (HF4.out.kept hk10);have HK10:=ae (HK4.out.trans hk10);obtain ⟨u7,u8,rfl,k7,k8⟩:=hv10;obtain ⟨a7,c7,rfl⟩:=k7.shape;obtain ⟨a8,c8,rfl⟩:=k8.shape;obtain ⟨y0,y1,y2,hra⟩:=aL hr10 HF10.out k7 k8;have g0:=hr10.cell (i:=0) (by simp);have g1:=hr10.cell (i:=1) (by simp);have g2:=hr10.cell (i:=2) (by simp);have f0:=hr10.free 0;have f1:=hr10.free 1;have f2:=hr10.free 2;have HRA:=ae hra;have Y0:=ae y0;have Y1:=ae y1;have Y2:=ae y2;clear hra y0 y1 y2 k7 k8 hr10 hk10;generalize R.num.length=n7 at *
 generalize R.den.length=n8 at *;go_wp2;refine bodyPost_ret (v:=.tuple #[.agg #[.bool R.neg,.slice a7 n7 c7,.slice a8 n8 c8],.int .i64 0]) ?_ rfl ⟨⟨_,rfl,HRA.out⟩,?_⟩
 ·simp [results,Tryz.results161,go_sem,Y0.out,Y1.out,Y2.out]
 ·exact ((HK10.out.store (by omega) _ _).store (by omega) _ _).store (by omega) _ _
theorem zd (n:Nat) (w:World) (hn:n<9223372036854775808):Calls Tryz.prog 102 #[.int .i64 n] w fun e w'=>(∃ v',e=.returned v'/\RatAt w' v' (ah ((n:Int):Rat)))/\af w w':=by
 have HMA:=ae (fun W=>tH n W hn);generalize ah ((n:Int):Rat)=R at *;obtain ⟨w2,hw2⟩:∃ w2,w2=w.alloc (.cells #[.bool false,.slice none 0 0,.slice none 0 0] 29):=⟨_,rfl⟩;have HR:Hid (ai w2 w.heap.size 29 [.bool false,.slice none 0 0,.slice none 0 0]):=ae (by rw [hw2];exact ai.made w #[.bool false,.slice none 0 0,.slice none 0 0] 29);have HFX:Hid (bo w2 w.heap.size [.bool false,.slice none 0 0,.slice none 0 0]):=ae (by rw [hw2];exact bo.made w #[.bool false,.slice none 0 0,.slice none 0 0] 29);have HK0:Hid (af w w2):=ae (by rw [hw2];exact (af.refl w).alloc _);have HW2:=ae hw2;clear hw2;go_enter Tryz.func102,Tryz.ntmps102;go_wp2_with fail;rw [<-HW2.out];refine (HMA.out _).mono ?_;rintro e w10 ⟨⟨v10,rfl,hv10⟩,hk10⟩;have hr10:=HR.out.kept hk10;have HF10:=ae (HFX.out.kept hk10);have HK10:=ae (HK0.out.trans hk10);obtain ⟨u7,u8,rfl,k7,k8⟩:=hv10;obtain ⟨a7,c7,rfl⟩:=k7.shape;obtain ⟨a8,c8,rfl⟩:=k8.shape;obtain ⟨y0,y1,y2,hra⟩:=eH (.cells #[.bool R.neg,.slice a7 R.num.length c7,.slice a8 R.den.length c8] 29) hr10 HF10.out k7 k8;have hlt:=hr10.lt;have HRA:=ae hra;have Y0:=ae y0;have Y1:=ae y1;have Y2:=ae y2;have g0:=hr10.cell (i:=0) (by simp);have g1:=hr10.cell (i:=1) (by simp);have g2:=hr10.cell (i:=2) (by simp);have f0:=hr10.free 0;have f1:=hr10.free 1;have f2:=hr10.free 2
 clear hra y0 y1 y2 k7 k8 hr10 hk10;generalize R.num.length=n7 at *;generalize R.den.length=n8 at *;go_wp2;refine bodyPost_ret (v:=.agg #[.bool R.neg,.slice a7 n7 c7,.slice a8 n8 c8]) ?_ rfl ⟨⟨_,rfl,HRA.out⟩,?_⟩
 ·simp [results,Tryz.results102,go_sem,Y0.out,Y1.out,Y2.out]
 ·exact (((HK10.out.store (by omega) _ _).store (by omega) _ _).store (by omega) _ _).alloc _
theorem vM (v:Value) (r:Rw) (w:World) (hv:RatAt w v r) (hs:r.Short 137438953472):Calls Tryz.prog 111 #[v] w fun e w'=>(∃ v',e=.returned v'/\RatAt w' v' (ah (- aj r)))/\af w w':=by
 have HPA:=ae (fun W (hk:af w W)=>bY v r W (hv.kept hk) hs);have hok:=ay hv.ok;have hsh:=aB hs (by omega);obtain ⟨R,hR⟩:∃ R,R=ah (- aj r):=⟨_,rfl⟩
 have HFO:Hid (∀ W u1 u2,WdsAt W u1 (ag r).2.1->WdsAt W u2 (ag r).2.2->Calls Tryz.prog 163 #[.bool (!(ag r).1),u1,u2] W fun e w'=>(∃ v,e=.returned (.tuple #[v,.int .i64 0])/\RatAt w' v R)/\af W w'):=ae fun W u1 u2 k1 k2=>by
  have h:=eI (!(ag r).1) u1 u2 _ _ W k1 k2 hsh.1 hsh.2 hok.2.2.1;rw [bV _ _ _ hok.2.2.1,mn,<-hR] at h;exact h
 rw [<-hR];obtain ⟨u1,u2,rfl,h1,h2⟩:=hv;obtain ⟨a1,c1,rfl⟩:=h1.shape;obtain ⟨a2,c2,rfl⟩:=h2.shape;obtain ⟨w2,hw2⟩:∃ w2,w2=(w.alloc (.cells #[.bool r.neg,.slice a1 r.num.length c1,.slice a2 r.den.length c2] 29)).alloc (.cells #[.bool false,.slice none 0 0,.slice none 0 0] 29):=⟨_,rfl⟩;have HM:=ae (lv w (.cells #[.bool r.neg,.slice a1 r.num.length c1,.slice a2 r.den.length c2] 29));rw [<-hw2] at HM;have HW2:=ae hw2;generalize (ag r).1=s at *;generalize (ag r).2.1=N at *;generalize (ag r).2.2=D at *;generalize r.num.length=n1 at *;generalize r.den.length=n2 at *;generalize r.neg=neg at *;clear hok hsh hR h1 h2 hs hw2;go_enter Tryz.func111,Tryz.ntmps111;go_wp2_with fail;rw [<-HW2.out];refine (HPA.out _ HM.out.2.2).mono ?_;rintro e w3 ⟨⟨u3,u4,rfl,hu3,hu4⟩,hk3⟩;have H3:=ae hu3;have H4:=ae hu4;have HR3:=ae (HM.out.1.kept hk3);have HF3:=ae (HM.out.2.1.kept hk3);have HK3:=ae (HM.out.2.2.trans hk3);clear hu3 hu4 hk3;go_wp2_with fail;refine (HFO.out _ _ _ H3.out H4.out).mono ?_;rintro e w4 ⟨⟨v4,rfl,hv4⟩,hk4⟩;have HV4:=ae hv4;have hr4:=HR3.out.kept hk4;have HR4:=ae hr4;have HF4:=ae (HF3.out.kept hk4);have HK4:=ae (HK3.out.trans hk4);obtain ⟨u5,u6,rfl,k5,k6⟩:=hv4;obtain ⟨a5,c5,rfl⟩:=k5.shape;obtain ⟨a6,c6,rfl⟩:=k6.shape;obtain ⟨y0,y1,y2,hra⟩:=eH (.cells #[.bool R.neg,.slice a5 R.num.length c5,.slice a6 R.den.length c6] 29) hr4 HF4.out k5 k6
 have hlt:=hr4.lt;have g0:=hr4.cell (i:=0) (by simp);have g1:=hr4.cell (i:=1) (by simp);have g2:=hr4.cell (i:=2) (by simp);have f0:=hr4.free 0;have f1:=hr4.free 1;have f2:=hr4.free 2;have HRA:=ae hra;have Y0:=ae y0;have Y1:=ae y1;have Y2:=ae y2;clear hra y0 y1 y2 k5 k6 hr4 hk4;generalize R.num.length=n5 at *;generalize R.den.length=n6 at *;go_wp2;refine bodyPost_ret (v:=.agg #[.bool R.neg,.slice a5 n5 c5,.slice a6 n6 c6]) ?_ rfl ⟨⟨_,rfl,HRA.out⟩,?_⟩
 ·simp [results,Tryz.results111,go_sem,Y0.out,Y1.out,Y2.out]
 ·exact (((HK4.out.store (by omega) _ _).store (by omega) _ _).store (by omega) _ _).alloc _
theorem mT (v:Value) (r:Rw) (w:World) (hv:RatAt w v r) (hs:r.Short 137438953472):Calls Tryz.prog 121 #[v] w fun e w'=>e=.returned (.int .i64 (cO (aj r)))/\af w w':=by
 have HPA:=ae (fun W (hk:af w W)=>bY v r W (hv.kept hk) hs);obtain ⟨k1,k2⟩:=pg hv.ok;obtain ⟨u1,u2,rfl,h1,h2⟩:=hv;obtain ⟨a1,c1,rfl⟩:=h1.shape;obtain ⟨a2,c2,rfl⟩:=h2.shape;have HK0:Hid (af w (w.alloc (.cells #[.bool r.neg,.slice a1 r.num.length c1,.slice a2 r.den.length c2] 29))):=ae ((af.refl w).alloc _);obtain ⟨ln,hln⟩:∃ ln,ln=(ag r).2.1.length:=⟨_,rfl⟩;have HLN:=ae hln;rw [<-hln] at k1 k2;obtain ⟨S,hS⟩:∃ S,S=cO (aj r):=⟨_,rfl⟩;rw [<-hS]
 have hSS:S=if ln=0 then 0 else if (ag r).1=true then -1 else 1:=by
  rw [hS];unfold cO;by_cases h:ln=0
  ·rw [if_pos h,if_pos (k1.1 h)]
  ·rw [if_neg h,if_neg (fun e=>h (k1.2 e))];by_cases h3:(ag r).1=true
   ·rw [if_pos h3,if_pos ((k2 h).1 h3)]
   ·rw [if_neg h3,if_neg (fun e=>h3 ((k2 h).2 e))]
 generalize (ag r).1=s at *;generalize (ag r).2.1=N at *;generalize (ag r).2.2=D at *;generalize r.num.length=n1 at *;generalize r.den.length=n2 at *;generalize r.neg=neg at *;clear h1 h2 hs hS k1 k2 hln;by_cases h0:ln=0
 ·have hE:S=0:=by rw [hSS,if_pos h0]
  subst h0 hE;clear hSS;go_enter Tryz.func121,Tryz.ntmps121;go_wp2_with fail;refine (HPA.out _ HK0.out).mono ?_;rintro e w3 ⟨⟨u3,u4,rfl,hu3,hu4⟩,hk3⟩;obtain ⟨a3,c3,rfl⟩:=hu3.shape;rw [<-HLN.out];have HK3:=ae (HK0.out.trans hk3);clear hu3 hu4 hk3;go_wp2;go_ret;exact ⟨rfl,HK3.out⟩
 ·have hb:((ln:Int) == 0)=false:=by simp;exact h0
  cases s with
  | true =>
   have hE:S=-1:=by rw [hSS,if_neg h0,if_pos rfl]
   subst hE;clear hSS h0;go_enter Tryz.func121,Tryz.ntmps121;go_wp2_with fail;refine (HPA.out _ HK0.out).mono ?_;rintro e w3 ⟨⟨u3,u4,rfl,hu3,hu4⟩,hk3⟩;obtain ⟨a3,c3,rfl⟩:=hu3.shape;rw [<-HLN.out];have HK3:=ae (HK0.out.trans hk3);clear hu3 hu4 hk3;go_wp2;go_ret;exact ⟨rfl,HK3.out⟩
  | false =>
   have hE:S=1:=by rw [hSS,if_neg h0,if_neg (by simp)]
   subst hE;clear hSS h0;go_enter Tryz.func121,Tryz.ntmps121;go_wp2_with fail;refine (HPA.out _ HK0.out).mono ?_;rintro e w3 ⟨⟨u3,u4,rfl,hu3,hu4⟩,hk3⟩;obtain ⟨a3,c3,rfl⟩:=hu3.shape;rw [<-HLN.out];have HK3:=ae (HK0.out.trans hk3);clear hu3 hu4 hk3;go_wp2;go_ret;exact ⟨rfl,HK3.out⟩
theorem pH (va vb:Value) (r s:Rw) (w:World) (ha:RatAt w va r) (hb:RatAt w vb s) (hr:r.Short 34359738368) (hs:s.Short 34359738368) (hss:(ag r).1=(ag s).1):Calls Tryz.prog 113 #[va,vb] w fun e w'=>(∃ v',e=.returned v'/\RatAt w' v' (ah (aj r+aj s)))/\af w w':=by
 have HP1:=ae (fun W (hk:af w W)=>bY va r W (ha.kept hk) ⟨Nat.le_trans hr.1 (by omega),Nat.le_trans hr.2 (by omega)⟩);have HP2:=ae (fun W (hk:af w W)=>bY vb s W (hb.kept hk) ⟨Nat.le_trans hs.1 (by omega),Nat.le_trans hs.2 (by omega)⟩);have hok1:=ay ha.ok;have hok2:=ay hb.ok;have hsh1:=aB hr (by omega);have hsh2:=aB hs (by omega);obtain ⟨R,hR⟩:∃ R,R=ah (aj r+aj s):=⟨_,rfl⟩;obtain ⟨p,hp⟩:∃ p,p=nv (ag r).2.1*nv (ag s).2.2:=⟨_,rfl⟩;obtain ⟨q,hq⟩:∃ q,q=nv (ag s).2.1*nv (ag r).2.2:=⟨_,rfl⟩;obtain ⟨d,hd⟩:∃ d,d=nv (ag r).2.2*nv (ag s).2.2:=⟨_,rfl⟩;have hlp:(nw p).length<=68719476736:=by rw [hp];exact Nat.le_trans (aD hok1.1 hok2.2.1) (by omega)
 have hlq:(nw q).length<=68719476736:=by rw [hq];exact Nat.le_trans (aD hok2.1 hok1.2.1) (by omega)
 have hld:(nw d).length<=68719476736:=by rw [hd];exact Nat.le_trans (aD hok1.2.1 hok2.2.1) (by omega)
 have hd0:d≠0:=by rw [hd];exact Nat.mul_ne_zero hok1.2.2.1 hok2.2.2.1
 have HAD:Hid (∀ W u1 u2,WdsAt W u1 (nw p)->WdsAt W u2 (nw q)->Calls Tryz.prog 174 #[u1,u2] W fun e w'=>(∃ v',e=.returned v'/\WdsAt w' v' (nw (p+q)))/\af W w'):=ae fun W u1 u2 k1 k2=>by
  have h:=vL u1 u2 _ _ W k1 k2 (by omega) (by omega);rw [ap,ap] at h;exact h
 have HFO:Hid (∀ W u1 u2,WdsAt W u1 (nw (p+q))->WdsAt W u2 (nw d)->Calls Tryz.prog 163 #[.bool (ag r).1,u1,u2] W fun e w'=>(∃ v,e=.returned (.tuple #[v,.int .i64 0])/\RatAt w' v R)/\af W w'):=ae fun W u1 u2 k1 k2=>by
  have h:=eI (ag r).1 u1 u2 _ _ W k1 k2 (Nat.le_trans (ki hlp hlq) (by omega)) (Nat.le_trans hld (by omega)) (by rw [ap];exact hd0);rw [ap,ap,bV _ _ _ hd0,hp,hq,hd,mm ha.ok hb.ok hss,<-hR] at h;exact h
 have HM1:Hid (∀ W u1 u2,WdsAt W u1 (ag r).2.1->WdsAt W u2 (ag s).2.2->Calls Tryz.prog 164 #[u1,u2] W fun e w'=>(∃ v',e=.returned v'/\WdsAt w' v' (nw p))/\af W w'):=ae fun W u1 u2 k1 k2=>by rw [hp];exact cj u1 u2 _ _ W k1 k2 (by omega) (by omega)
 have HM2:Hid (∀ W u1 u2,WdsAt W u1 (ag s).2.1->WdsAt W u2 (ag r).2.2->Calls Tryz.prog 164 #[u1,u2] W fun e w'=>(∃ v',e=.returned v'/\WdsAt w' v' (nw q))/\af W w'):=ae fun W u1 u2 k1 k2=>by rw [hq];exact cj u1 u2 _ _ W k1 k2 (by omega) (by omega)
 have HM3:Hid (∀ W u1 u2,WdsAt W u1 (ag r).2.2->WdsAt W u2 (ag s).2.2->Calls Tryz.prog 164 #[u1,u2] W fun e w'=>(∃ v',e=.returned v'/\WdsAt w' v' (nw d))/\af W w'):=ae fun W u1 u2 k1 k2=>by rw [hd];exact cj u1 u2 _ _ W k1 k2 (by omega) (by omega)
 rw [<-hR];obtain ⟨u1,u2,rfl,h1,h2⟩:=ha;obtain ⟨u3,u4,rfl,h3,h4⟩:=hb;obtain ⟨a1,c1,rfl⟩:=h1.shape;obtain ⟨a2,c2,rfl⟩:=h2.shape;obtain ⟨a3,c3,rfl⟩:=h3.shape;obtain ⟨a4,c4,rfl⟩:=h4.shape;obtain ⟨w2,hw2⟩:∃ w2,w2=((w.alloc (.cells #[.bool r.neg,.slice a1 r.num.length c1,.slice a2 r.den.length c2] 29)).alloc (.cells #[.bool s.neg,.slice a3 s.num.length c3,.slice a4 s.den.length c4] 29)).alloc (.cells #[.bool false,.slice none 0 0,.slice none 0 0] 29):=⟨_,rfl⟩;have HM:=ae (cw w (.cells #[.bool r.neg,.slice a1 r.num.length c1,.slice a2 r.den.length c2] 29) (.cells #[.bool s.neg,.slice a3 s.num.length c3,.slice a4 s.den.length c4] 29));rw [<-hw2] at HM;have hb2:=ai.made (w.alloc (.cells #[.bool r.neg,.slice a1 r.num.length c1,.slice a2 r.den.length c2] 29)) #[.bool s.neg,.slice a3 s.num.length c3,.slice a4 s.den.length c4] 29;simp only [World.size_alloc] at hb2;have HB2:Hid (ai w2 (w.heap.size+1) 29 [.bool s.neg,.slice a3 s.num.length c3,.slice a4 s.den.length c4]):=ae (by rw [hw2];exact hb2.kept ((af.refl _).alloc _));have HW2:=ae hw2;generalize nw d=DE at *;generalize (ag r).1=s1 at *;generalize (ag s).1=s2 at *;generalize (ag r).2.1=N at *;generalize (ag r).2.2=D at *;generalize (ag s).2.1=M at *;generalize (ag s).2.2=E at *;generalize r.num.length=n1 at *;generalize r.den.length=n2 at *;generalize s.num.length=n3 at *;generalize s.den.length=n4 at *
 generalize r.neg=neg1 at *;generalize s.neg=neg2 at *;clear hok1 hok2 hsh1 hsh2 hR h1 h2 h3 h4 hr hs hw2 hb2 hp hq hd hlp hlq hld hd0;have hb:(s1 == s2)=true:=by simpa using hss
 clear hss;go_enter Tryz.func113,Tryz.ntmps113;go_wp2_with fail;rw [<-HW2.out];refine (HP1.out _ HM.out.2.2).mono ?_;rintro e w3 ⟨⟨u3,u4,rfl,hu3,hu4⟩,hk3⟩;have HN:=ae hu3;have HD:=ae hu4;have HR3:=ae (HM.out.1.kept hk3);have HF3:=ae (HM.out.2.1.kept hk3);have hb3:=HB2.out.kept hk3;have g0:=hb3.cell (i:=0) (by simp);have g1:=hb3.cell (i:=1) (by simp);have g2:=hb3.cell (i:=2) (by simp);simp only [List.getElem_cons_succ,List.getElem_cons_zero] at g0 g1 g2;have HK3:=ae (HM.out.2.2.trans hk3);clear hu3 hu4 hk3 hb3;go_wp2_with fail;refine (HP2.out _ HK3.out).mono ?_;rintro e w4 ⟨⟨u5,u6,rfl,hu5,hu6⟩,hk4⟩;have HN':=ae (HN.out.kept hk4);have HD':=ae (HD.out.kept hk4);have HMM:=ae hu5;have HEE:=ae hu6;have HR4:=ae (HR3.out.kept hk4);have HF4:=ae (HF3.out.kept hk4);have HK4:=ae (HK3.out.trans hk4);clear hu5 hu6 hk4 g0 g1 g2;go_wp2_with fail;refine (HM1.out _ _ _ HN'.out HEE.out).mono ?_;rintro e w5 ⟨⟨v5,rfl,hv5⟩,hk5⟩;have HV5:=ae hv5;have HR5:=ae (HR4.out.kept hk5);have HF5:=ae (HF4.out.kept hk5);have HD5:=ae (HD'.out.kept hk5);have HE5:=ae (HEE.out.kept hk5);have HM5:=ae (HMM.out.kept hk5);have HK5:=ae (HK4.out.trans hk5);clear hv5 hk5;go_wp2_with fail;refine (HM2.out _ _ _ HM5.out HD5.out).mono ?_;rintro e w6 ⟨⟨v6,rfl,hv6⟩,hk6⟩;have HV6:=ae hv6;have HV5':=ae (HV5.out.kept hk6)
 have HR6:=ae (HR5.out.kept hk6);have HF6:=ae (HF5.out.kept hk6);have HD6:=ae (HD5.out.kept hk6);have HE6:=ae (HE5.out.kept hk6);have HK6:=ae (HK5.out.trans hk6);clear hv6 hk6;go_wp2_with fail;refine (HM3.out _ _ _ HD6.out HE6.out).mono ?_;rintro e w7 ⟨⟨v7,rfl,hv7⟩,hk7⟩;have HVD:=ae hv7;have HVP:=ae (HV5'.out.kept hk7);have HVQ:=ae (HV6.out.kept hk7);have HR7:=ae (HR6.out.kept hk7);have HF7:=ae (HF6.out.kept hk7);have HK7:=ae (HK6.out.trans hk7);clear hv7 hk7;go_wp2_with fail;refine (HAD.out _ _ _ HVP.out HVQ.out).mono ?_;rintro e w9 ⟨⟨v9,rfl,hv9⟩,hk9⟩;have HVD8:=HVD;have HR8:=HR7;have HF8:=HF7;have HK8:=HK7;have HV9:=ae hv9;have HVD9:=ae (HVD8.out.kept hk9);have HR9:=ae (HR8.out.kept hk9);have HF9:=ae (HF8.out.kept hk9);have HK9:=ae (HK8.out.trans hk9);clear hv9 hk9;go_wp2_with fail;refine (HFO.out _ _ _ HV9.out HVD9.out).mono ?_;rintro e w10 ⟨⟨v10,rfl,hv10⟩,hk10⟩;have hr10:=HR9.out.kept hk10;have HF10:=ae (HF9.out.kept hk10);have HK10:=ae (HK9.out.trans hk10);obtain ⟨u7,u8,rfl,k7,k8⟩:=hv10;obtain ⟨a7,c7,rfl⟩:=k7.shape;obtain ⟨a8,c8,rfl⟩:=k8.shape;obtain ⟨y0,y1,y2,hra⟩:=eH (.cells #[.bool R.neg,.slice a7 R.num.length c7,.slice a8 R.den.length c8] 29) hr10 HF10.out k7 k8;have hlt:=hr10.lt;have g0:=hr10.cell (i:=0) (by simp);have g1:=hr10.cell (i:=1) (by simp)
 have g2:=hr10.cell (i:=2) (by simp);have f0:=hr10.free 0;have f1:=hr10.free 1;have f2:=hr10.free 2;have HRA:=ae hra;have Y0:=ae y0;have Y1:=ae y1;have Y2:=ae y2;clear hra y0 y1 y2 k7 k8 hr10 hk10;generalize R.num.length=n7 at *;generalize R.den.length=n8 at *;go_wp2;refine bodyPost_ret (v:=.agg #[.bool R.neg,.slice a7 n7 c7,.slice a8 n8 c8]) ?_ rfl ⟨⟨_,rfl,HRA.out⟩,?_⟩
 ·simp [results,Tryz.results113,go_sem,Y0.out,Y1.out,Y2.out]
 ·exact (((HK10.out.store (by omega) _ _).store (by omega) _ _).store (by omega) _ _).alloc _
theorem tE (va vb:Value) (r s:Rw) (w:World) (ha:RatAt w va r) (hb:RatAt w vb s) (hr:r.Short 34359738368) (hs:s.Short 34359738368) (hss:(ag r).1≠(ag s).1) (hle:nv (ag s).2.1*nv (ag r).2.2<=nv (ag r).2.1*nv (ag s).2.2):Calls Tryz.prog 113 #[va,vb] w fun e w'=>(∃ v',e=.returned v'/\RatAt w' v' (ah (aj r+aj s)))/\af w w':=by
 have HP1:=ae (fun W (hk:af w W)=>bY va r W (ha.kept hk) ⟨Nat.le_trans hr.1 (by omega),Nat.le_trans hr.2 (by omega)⟩);have HP2:=ae (fun W (hk:af w W)=>bY vb s W (hb.kept hk) ⟨Nat.le_trans hs.1 (by omega),Nat.le_trans hs.2 (by omega)⟩);have hok1:=ay ha.ok;have hok2:=ay hb.ok;have hsh1:=aB hr (by omega);have hsh2:=aB hs (by omega);obtain ⟨R,hR⟩:∃ R,R=ah (aj r+aj s):=⟨_,rfl⟩;obtain ⟨p,hp⟩:∃ p,p=nv (ag r).2.1*nv (ag s).2.2:=⟨_,rfl⟩;obtain ⟨q,hq⟩:∃ q,q=nv (ag s).2.1*nv (ag r).2.2:=⟨_,rfl⟩;obtain ⟨d,hd⟩:∃ d,d=nv (ag r).2.2*nv (ag s).2.2:=⟨_,rfl⟩;have hlp:(nw p).length<=68719476736:=by rw [hp];exact Nat.le_trans (aD hok1.1 hok2.2.1) (by omega)
 have hlq:(nw q).length<=68719476736:=by rw [hq];exact Nat.le_trans (aD hok2.1 hok1.2.1) (by omega)
 have hld:(nw d).length<=68719476736:=by rw [hd];exact Nat.le_trans (aD hok1.2.1 hok2.2.1) (by omega)
 have hd0:d≠0:=by rw [hd];exact Nat.mul_ne_zero hok1.2.2.1 hok2.2.2.1
 rw [<-hp,<-hq] at hle
 have HCM:Hid (∀ W u1 u2,WdsAt W u1 (nw p)->WdsAt W u2 (nw q)->Calls Tryz.prog 175 #[u1,u2] W fun e w'=>e=.returned (.int .i64 (cX p q))/\af W w'):=ae fun W u1 u2 k1 k2=>by
  have h:=fF u1 u2 _ _ W k1 k2;rw [ap,ap] at h;exact h.mono fun _ _ ⟨h1,h2⟩=>⟨h1,by rw [h2];exact af.refl _⟩
 have HSU:Hid (∀ W u1 u2,WdsAt W u1 (nw p)->WdsAt W u2 (nw q)->Calls Tryz.prog 176 #[u1,u2] W fun e w'=>(∃ v',e=.returned (.tuple #[v',.int .i64 0])/\WdsAt w' v' (nw (p - q)))/\af W w'):=ae fun W u1 u2 k1 k2=>by
  have h:=kr u1 u2 _ _ W k1 k2 (by rw [ap,ap];exact hle);rw [ap,ap] at h;exact h
 obtain ⟨cm,hcm⟩:∃ cm,cm=cX p q:=⟨_,rfl⟩;rw [<-hcm] at HCM
 have hcm0:¬ cm<0:=by
  rw [hcm];rcases Nat.lt_or_ge q p with h | h
  ·rw [eT h];omega
  ·rw [fN (by omega)];omega
 have HFO:Hid (∀ W u1 u2,WdsAt W u1 (nw (p - q))->WdsAt W u2 (nw d)->Calls Tryz.prog 163 #[.bool (ag r).1,u1,u2] W fun e w'=>(∃ v,e=.returned (.tuple #[v,.int .i64 0])/\RatAt w' v R)/\af W w'):=ae fun W u1 u2 k1 k2=>by
  have h:=eI (ag r).1 u1 u2 _ _ W k1 k2 (Nat.le_trans (bC (Nat.sub_le p q)) (by omega)) (Nat.le_trans hld (by omega)) (by rw [ap];exact hd0);rw [ap,ap,bV _ _ _ hd0,hp,hq,hd,mp ha.ok hb.ok hss (by rw [hp,hq] at hle;exact hle),<-hR] at h;exact h
 have HM1:Hid (∀ W u1 u2,WdsAt W u1 (ag r).2.1->WdsAt W u2 (ag s).2.2->Calls Tryz.prog 164 #[u1,u2] W fun e w'=>(∃ v',e=.returned v'/\WdsAt w' v' (nw p))/\af W w'):=ae fun W u1 u2 k1 k2=>by rw [hp];exact cj u1 u2 _ _ W k1 k2 (by omega) (by omega)
 have HM2:Hid (∀ W u1 u2,WdsAt W u1 (ag s).2.1->WdsAt W u2 (ag r).2.2->Calls Tryz.prog 164 #[u1,u2] W fun e w'=>(∃ v',e=.returned v'/\WdsAt w' v' (nw q))/\af W w'):=ae fun W u1 u2 k1 k2=>by rw [hq];exact cj u1 u2 _ _ W k1 k2 (by omega) (by omega)
 have HM3:Hid (∀ W u1 u2,WdsAt W u1 (ag r).2.2->WdsAt W u2 (ag s).2.2->Calls Tryz.prog 164 #[u1,u2] W fun e w'=>(∃ v',e=.returned v'/\WdsAt w' v' (nw d))/\af W w'):=ae fun W u1 u2 k1 k2=>by rw [hd];exact cj u1 u2 _ _ W k1 k2 (by omega) (by omega)
 rw [<-hR];obtain ⟨u1,u2,rfl,h1,h2⟩:=ha;obtain ⟨u3,u4,rfl,h3,h4⟩:=hb;obtain ⟨a1,c1,rfl⟩:=h1.shape;obtain ⟨a2,c2,rfl⟩:=h2.shape;obtain ⟨a3,c3,rfl⟩:=h3.shape;obtain ⟨a4,c4,rfl⟩:=h4.shape;obtain ⟨w2,hw2⟩:∃ w2,w2=((w.alloc (.cells #[.bool r.neg,.slice a1 r.num.length c1,.slice a2 r.den.length c2] 29)).alloc (.cells #[.bool s.neg,.slice a3 s.num.length c3,.slice a4 s.den.length c4] 29)).alloc (.cells #[.bool false,.slice none 0 0,.slice none 0 0] 29):=⟨_,rfl⟩;have HM:=ae (cw w (.cells #[.bool r.neg,.slice a1 r.num.length c1,.slice a2 r.den.length c2] 29) (.cells #[.bool s.neg,.slice a3 s.num.length c3,.slice a4 s.den.length c4] 29));rw [<-hw2] at HM;have hb2:=ai.made (w.alloc (.cells #[.bool r.neg,.slice a1 r.num.length c1,.slice a2 r.den.length c2] 29)) #[.bool s.neg,.slice a3 s.num.length c3,.slice a4 s.den.length c4] 29;simp only [World.size_alloc] at hb2;have HB2:Hid (ai w2 (w.heap.size+1) 29 [.bool s.neg,.slice a3 s.num.length c3,.slice a4 s.den.length c4]):=ae (by rw [hw2];exact hb2.kept ((af.refl _).alloc _));have HW2:=ae hw2;generalize nw d=DE at *;generalize (ag r).1=s1 at *;generalize (ag s).1=s2 at *;generalize (ag r).2.1=N at *;generalize (ag r).2.2=D at *;generalize (ag s).2.1=M at *;generalize (ag s).2.2=E at *;generalize r.num.length=n1 at *;generalize r.den.length=n2 at *;generalize s.num.length=n3 at *;generalize s.den.length=n4 at *
 generalize r.neg=neg1 at *;generalize s.neg=neg2 at *;clear hok1 hok2 hsh1 hsh2 hR h1 h2 h3 h4 hr hs hw2 hb2 hp hq hd hlp hlq hld hd0;have hb:(s1 == s2)=false:=by simpa using hss
 clear hss hcm hle;go_enter Tryz.func113,Tryz.ntmps113;go_wp2_with fail;rw [<-HW2.out];refine (HP1.out _ HM.out.2.2).mono ?_;rintro e w3 ⟨⟨u3,u4,rfl,hu3,hu4⟩,hk3⟩;have HN:=ae hu3;have HD:=ae hu4;have HR3:=ae (HM.out.1.kept hk3);have HF3:=ae (HM.out.2.1.kept hk3);have hb3:=HB2.out.kept hk3;have g0:=hb3.cell (i:=0) (by simp);have g1:=hb3.cell (i:=1) (by simp);have g2:=hb3.cell (i:=2) (by simp);simp only [List.getElem_cons_succ,List.getElem_cons_zero] at g0 g1 g2;have HK3:=ae (HM.out.2.2.trans hk3);clear hu3 hu4 hk3 hb3;go_wp2_with fail;refine (HP2.out _ HK3.out).mono ?_;rintro e w4 ⟨⟨u5,u6,rfl,hu5,hu6⟩,hk4⟩;have HN':=ae (HN.out.kept hk4);have HD':=ae (HD.out.kept hk4);have HMM:=ae hu5;have HEE:=ae hu6;have HR4:=ae (HR3.out.kept hk4);have HF4:=ae (HF3.out.kept hk4);have HK4:=ae (HK3.out.trans hk4);clear hu5 hu6 hk4 g0 g1 g2;go_wp2_with fail;refine (HM1.out _ _ _ HN'.out HEE.out).mono ?_;rintro e w5 ⟨⟨v5,rfl,hv5⟩,hk5⟩;have HV5:=ae hv5;have HR5:=ae (HR4.out.kept hk5);have HF5:=ae (HF4.out.kept hk5);have HD5:=ae (HD'.out.kept hk5);have HE5:=ae (HEE.out.kept hk5);have HM5:=ae (HMM.out.kept hk5);have HK5:=ae (HK4.out.trans hk5);clear hv5 hk5;go_wp2_with fail;refine (HM2.out _ _ _ HM5.out HD5.out).mono ?_;rintro e w6 ⟨⟨v6,rfl,hv6⟩,hk6⟩;have HV6:=ae hv6;have HV5':=ae (HV5.out.kept hk6)
 have HR6:=ae (HR5.out.kept hk6);have HF6:=ae (HF5.out.kept hk6);have HD6:=ae (HD5.out.kept hk6);have HE6:=ae (HE5.out.kept hk6);have HK6:=ae (HK5.out.trans hk6);clear hv6 hk6;go_wp2_with fail;refine (HM3.out _ _ _ HD6.out HE6.out).mono ?_;rintro e w7 ⟨⟨v7,rfl,hv7⟩,hk7⟩;have HVD:=ae hv7;have HVP:=ae (HV5'.out.kept hk7);have HVQ:=ae (HV6.out.kept hk7);have HR7:=ae (HR6.out.kept hk7);have HF7:=ae (HF6.out.kept hk7);have HK7:=ae (HK6.out.trans hk7);clear hv7 hk7;go_wp2_with fail;refine (HCM.out _ _ _ HVP.out HVQ.out).mono ?_;rintro e w8 ⟨rfl,hk8⟩;have HVD8:=ae (HVD.out.kept hk8);have HVP8:=ae (HVP.out.kept hk8);have HVQ8:=ae (HVQ.out.kept hk8);have HR8:=ae (HR7.out.kept hk8);have HF8:=ae (HF7.out.kept hk8);have HK8:=ae (HK7.out.trans hk8);clear hk8;go_wp2_with fail;refine (HSU.out _ _ _ HVP8.out HVQ8.out).mono ?_;rintro e w9 ⟨⟨v9,rfl,hv9⟩,hk9⟩;have HV9:=ae hv9;have HVD9:=ae (HVD8.out.kept hk9);have HR9:=ae (HR8.out.kept hk9);have HF9:=ae (HF8.out.kept hk9);have HK9:=ae (HK8.out.trans hk9);clear hv9 hk9;go_wp2_with fail;refine (HFO.out _ _ _ HV9.out HVD9.out).mono ?_;rintro e w10 ⟨⟨v10,rfl,hv10⟩,hk10⟩;have hr10:=HR9.out.kept hk10;have HF10:=ae (HF9.out.kept hk10);have HK10:=ae (HK9.out.trans hk10);obtain ⟨u7,u8,rfl,k7,k8⟩:=hv10;obtain ⟨a7,c7,rfl⟩:=k7.shape
 obtain ⟨a8,c8,rfl⟩:=k8.shape;obtain ⟨y0,y1,y2,hra⟩:=eH (.cells #[.bool R.neg,.slice a7 R.num.length c7,.slice a8 R.den.length c8] 29) hr10 HF10.out k7 k8;have hlt:=hr10.lt;have g0:=hr10.cell (i:=0) (by simp);have g1:=hr10.cell (i:=1) (by simp);have g2:=hr10.cell (i:=2) (by simp);have f0:=hr10.free 0;have f1:=hr10.free 1;have f2:=hr10.free 2;have HRA:=ae hra;have Y0:=ae y0;have Y1:=ae y1;have Y2:=ae y2;clear hra y0 y1 y2 k7 k8 hr10 hk10;generalize R.num.length=n7 at *;generalize R.den.length=n8 at *;go_wp2;refine bodyPost_ret (v:=.agg #[.bool R.neg,.slice a7 n7 c7,.slice a8 n8 c8]) ?_ rfl ⟨⟨_,rfl,HRA.out⟩,?_⟩
 ·simp [results,Tryz.results113,go_sem,Y0.out,Y1.out,Y2.out]
 ·exact (((HK10.out.store (by omega) _ _).store (by omega) _ _).store (by omega) _ _).alloc _
theorem tF (va vb:Value) (r s:Rw) (w:World) (ha:RatAt w va r) (hb:RatAt w vb s) (hr:r.Short 34359738368) (hs:s.Short 34359738368) (hss:(ag r).1≠(ag s).1) (hle:nv (ag r).2.1*nv (ag s).2.2<nv (ag s).2.1*nv (ag r).2.2):Calls Tryz.prog 113 #[va,vb] w fun e w'=>(∃ v',e=.returned v'/\RatAt w' v' (ah (aj r+aj s)))/\af w w':=by
 have HP1:=ae (fun W (hk:af w W)=>bY va r W (ha.kept hk) ⟨Nat.le_trans hr.1 (by omega),Nat.le_trans hr.2 (by omega)⟩);have HP2:=ae (fun W (hk:af w W)=>bY vb s W (hb.kept hk) ⟨Nat.le_trans hs.1 (by omega),Nat.le_trans hs.2 (by omega)⟩);have hok1:=ay ha.ok;have hok2:=ay hb.ok;have hsh1:=aB hr (by omega);have hsh2:=aB hs (by omega);obtain ⟨R,hR⟩:∃ R,R=ah (aj r+aj s):=⟨_,rfl⟩;obtain ⟨p,hp⟩:∃ p,p=nv (ag r).2.1*nv (ag s).2.2:=⟨_,rfl⟩;obtain ⟨q,hq⟩:∃ q,q=nv (ag s).2.1*nv (ag r).2.2:=⟨_,rfl⟩;obtain ⟨d,hd⟩:∃ d,d=nv (ag r).2.2*nv (ag s).2.2:=⟨_,rfl⟩;have hlp:(nw p).length<=68719476736:=by rw [hp];exact Nat.le_trans (aD hok1.1 hok2.2.1) (by omega)
 have hlq:(nw q).length<=68719476736:=by rw [hq];exact Nat.le_trans (aD hok2.1 hok1.2.1) (by omega)
 have hld:(nw d).length<=68719476736:=by rw [hd];exact Nat.le_trans (aD hok1.2.1 hok2.2.1) (by omega)
 have hd0:d≠0:=by rw [hd];exact Nat.mul_ne_zero hok1.2.2.1 hok2.2.2.1
 rw [<-hp,<-hq] at hle
 have HCM:Hid (∀ W u1 u2,WdsAt W u1 (nw p)->WdsAt W u2 (nw q)->Calls Tryz.prog 175 #[u1,u2] W fun e w'=>e=.returned (.int .i64 (cX p q))/\af W w'):=ae fun W u1 u2 k1 k2=>by
  have h:=fF u1 u2 _ _ W k1 k2;rw [ap,ap] at h;exact h.mono fun _ _ ⟨h1,h2⟩=>⟨h1,by rw [h2];exact af.refl _⟩
 have HSU:Hid (∀ W u1 u2,WdsAt W u1 (nw q)->WdsAt W u2 (nw p)->Calls Tryz.prog 176 #[u1,u2] W fun e w'=>(∃ v',e=.returned (.tuple #[v',.int .i64 0])/\WdsAt w' v' (nw (q - p)))/\af W w'):=ae fun W u1 u2 k1 k2=>by
  have h:=kr u1 u2 _ _ W k1 k2 (by rw [ap,ap];exact Nat.le_of_lt hle);rw [ap,ap] at h;exact h
 obtain ⟨cm,hcm⟩:∃ cm,cm=cX p q:=⟨_,rfl⟩;rw [<-hcm] at HCM
 have hcm0:cm<0:=by
  rw [hcm];rw [fO hle];omega
 have HFO:Hid (∀ W u1 u2,WdsAt W u1 (nw (q - p))->WdsAt W u2 (nw d)->Calls Tryz.prog 163 #[.bool (ag s).1,u1,u2] W fun e w'=>(∃ v,e=.returned (.tuple #[v,.int .i64 0])/\RatAt w' v R)/\af W w'):=ae fun W u1 u2 k1 k2=>by
  have h:=eI (ag s).1 u1 u2 _ _ W k1 k2 (Nat.le_trans (bC (Nat.sub_le q p)) (by omega)) (Nat.le_trans hld (by omega)) (by rw [ap];exact hd0);rw [ap,ap,bV _ _ _ hd0,hp,hq,hd,kp ha.ok hb.ok hss (by rw [hp,hq] at hle;exact Nat.le_of_lt hle),<-hR] at h;exact h
 have HM1:Hid (∀ W u1 u2,WdsAt W u1 (ag r).2.1->WdsAt W u2 (ag s).2.2->Calls Tryz.prog 164 #[u1,u2] W fun e w'=>(∃ v',e=.returned v'/\WdsAt w' v' (nw p))/\af W w'):=ae fun W u1 u2 k1 k2=>by rw [hp];exact cj u1 u2 _ _ W k1 k2 (by omega) (by omega)
 have HM2:Hid (∀ W u1 u2,WdsAt W u1 (ag s).2.1->WdsAt W u2 (ag r).2.2->Calls Tryz.prog 164 #[u1,u2] W fun e w'=>(∃ v',e=.returned v'/\WdsAt w' v' (nw q))/\af W w'):=ae fun W u1 u2 k1 k2=>by rw [hq];exact cj u1 u2 _ _ W k1 k2 (by omega) (by omega)
 have HM3:Hid (∀ W u1 u2,WdsAt W u1 (ag r).2.2->WdsAt W u2 (ag s).2.2->Calls Tryz.prog 164 #[u1,u2] W fun e w'=>(∃ v',e=.returned v'/\WdsAt w' v' (nw d))/\af W w'):=ae fun W u1 u2 k1 k2=>by rw [hd];exact cj u1 u2 _ _ W k1 k2 (by omega) (by omega)
 rw [<-hR];obtain ⟨u1,u2,rfl,h1,h2⟩:=ha;obtain ⟨u3,u4,rfl,h3,h4⟩:=hb;obtain ⟨a1,c1,rfl⟩:=h1.shape;obtain ⟨a2,c2,rfl⟩:=h2.shape;obtain ⟨a3,c3,rfl⟩:=h3.shape;obtain ⟨a4,c4,rfl⟩:=h4.shape;obtain ⟨w2,hw2⟩:∃ w2,w2=((w.alloc (.cells #[.bool r.neg,.slice a1 r.num.length c1,.slice a2 r.den.length c2] 29)).alloc (.cells #[.bool s.neg,.slice a3 s.num.length c3,.slice a4 s.den.length c4] 29)).alloc (.cells #[.bool false,.slice none 0 0,.slice none 0 0] 29):=⟨_,rfl⟩;have HM:=ae (cw w (.cells #[.bool r.neg,.slice a1 r.num.length c1,.slice a2 r.den.length c2] 29) (.cells #[.bool s.neg,.slice a3 s.num.length c3,.slice a4 s.den.length c4] 29));rw [<-hw2] at HM;have hb2:=ai.made (w.alloc (.cells #[.bool r.neg,.slice a1 r.num.length c1,.slice a2 r.den.length c2] 29)) #[.bool s.neg,.slice a3 s.num.length c3,.slice a4 s.den.length c4] 29;simp only [World.size_alloc] at hb2;have HB2:Hid (ai w2 (w.heap.size+1) 29 [.bool s.neg,.slice a3 s.num.length c3,.slice a4 s.den.length c4]):=ae (by rw [hw2];exact hb2.kept ((af.refl _).alloc _));have HW2:=ae hw2;generalize nw d=DE at *;generalize (ag r).1=s1 at *;generalize (ag s).1=s2 at *;generalize (ag r).2.1=N at *;generalize (ag r).2.2=D at *;generalize (ag s).2.1=M at *;generalize (ag s).2.2=E at *;generalize r.num.length=n1 at *;generalize r.den.length=n2 at *;generalize s.num.length=n3 at *;generalize s.den.length=n4 at *
 generalize r.neg=neg1 at *;generalize s.neg=neg2 at *;clear hok1 hok2 hsh1 hsh2 hR h1 h2 h3 h4 hr hs hw2 hb2 hp hq hd hlp hlq hld hd0;have hb:(s1 == s2)=false:=by simpa using hss
 clear hss hcm hle;go_enter Tryz.func113,Tryz.ntmps113;go_wp2_with fail;rw [<-HW2.out];refine (HP1.out _ HM.out.2.2).mono ?_;rintro e w3 ⟨⟨u3,u4,rfl,hu3,hu4⟩,hk3⟩;have HN:=ae hu3;have HD:=ae hu4;have HR3:=ae (HM.out.1.kept hk3);have HF3:=ae (HM.out.2.1.kept hk3);have hb3:=HB2.out.kept hk3;have g0:=hb3.cell (i:=0) (by simp);have g1:=hb3.cell (i:=1) (by simp);have g2:=hb3.cell (i:=2) (by simp);simp only [List.getElem_cons_succ,List.getElem_cons_zero] at g0 g1 g2;have HK3:=ae (HM.out.2.2.trans hk3);clear hu3 hu4 hk3 hb3;go_wp2_with fail;refine (HP2.out _ HK3.out).mono ?_;rintro e w4 ⟨⟨u5,u6,rfl,hu5,hu6⟩,hk4⟩;have HN':=ae (HN.out.kept hk4);have HD':=ae (HD.out.kept hk4);have HMM:=ae hu5;have HEE:=ae hu6;have HR4:=ae (HR3.out.kept hk4);have HF4:=ae (HF3.out.kept hk4);have HK4:=ae (HK3.out.trans hk4);clear hu5 hu6 hk4 g0 g1 g2;go_wp2_with fail;refine (HM1.out _ _ _ HN'.out HEE.out).mono ?_;rintro e w5 ⟨⟨v5,rfl,hv5⟩,hk5⟩;have HV5:=ae hv5;have HR5:=ae (HR4.out.kept hk5);have HF5:=ae (HF4.out.kept hk5);have HD5:=ae (HD'.out.kept hk5);have HE5:=ae (HEE.out.kept hk5);have HM5:=ae (HMM.out.kept hk5);have HK5:=ae (HK4.out.trans hk5);clear hv5 hk5;go_wp2_with fail;refine (HM2.out _ _ _ HM5.out HD5.out).mono ?_;rintro e w6 ⟨⟨v6,rfl,hv6⟩,hk6⟩;have HV6:=ae hv6;have HV5':=ae (HV5.out.kept hk6)
 have HR6:=ae (HR5.out.kept hk6);have HF6:=ae (HF5.out.kept hk6);have HD6:=ae (HD5.out.kept hk6);have HE6:=ae (HE5.out.kept hk6);have HK6:=ae (HK5.out.trans hk6);clear hv6 hk6;go_wp2_with fail;refine (HM3.out _ _ _ HD6.out HE6.out).mono ?_;rintro e w7 ⟨⟨v7,rfl,hv7⟩,hk7⟩;have HVD:=ae hv7;have HVP:=ae (HV5'.out.kept hk7);have HVQ:=ae (HV6.out.kept hk7);have HR7:=ae (HR6.out.kept hk7);have HF7:=ae (HF6.out.kept hk7);have HK7:=ae (HK6.out.trans hk7);clear hv7 hk7;go_wp2_with fail;refine (HCM.out _ _ _ HVP.out HVQ.out).mono ?_;rintro e w8 ⟨rfl,hk8⟩;have HVD8:=ae (HVD.out.kept hk8);have HVP8:=ae (HVP.out.kept hk8);have HVQ8:=ae (HVQ.out.kept hk8);have HR8:=ae (HR7.out.kept hk8);have HF8:=ae (HF7.out.kept hk8);have HK8:=ae (HK7.out.trans hk8);clear hk8;go_wp2_with fail;refine (HSU.out _ _ _ HVQ8.out HVP8.out).mono ?_;rintro e w9 ⟨⟨v9,rfl,hv9⟩,hk9⟩;have HV9:=ae hv9;have HVD9:=ae (HVD8.out.kept hk9);have HR9:=ae (HR8.out.kept hk9);have HF9:=ae (HF8.out.kept hk9);have HK9:=ae (HK8.out.trans hk9);clear hv9 hk9;go_wp2_with fail;refine (HFO.out _ _ _ HV9.out HVD9.out).mono ?_;rintro e w10 ⟨⟨v10,rfl,hv10⟩,hk10⟩;have hr10:=HR9.out.kept hk10;have HF10:=ae (HF9.out.kept hk10);have HK10:=ae (HK9.out.trans hk10);obtain ⟨u7,u8,rfl,k7,k8⟩:=hv10;obtain ⟨a7,c7,rfl⟩:=k7.shape
 obtain ⟨a8,c8,rfl⟩:=k8.shape;obtain ⟨y0,y1,y2,hra⟩:=eH (.cells #[.bool R.neg,.slice a7 R.num.length c7,.slice a8 R.den.length c8] 29) hr10 HF10.out k7 k8;have hlt:=hr10.lt;have g0:=hr10.cell (i:=0) (by simp);have g1:=hr10.cell (i:=1) (by simp);have g2:=hr10.cell (i:=2) (by simp);have f0:=hr10.free 0;have f1:=hr10.free 1;have f2:=hr10.free 2;have HRA:=ae hra;have Y0:=ae y0;have Y1:=ae y1;have Y2:=ae y2;clear hra y0 y1 y2 k7 k8 hr10 hk10;generalize R.num.length=n7 at *;generalize R.den.length=n8 at *;go_wp2;refine bodyPost_ret (v:=.agg #[.bool R.neg,.slice a7 n7 c7,.slice a8 n8 c8]) ?_ rfl ⟨⟨_,rfl,HRA.out⟩,?_⟩
 ·simp [results,Tryz.results113,go_sem,Y0.out,Y1.out,Y2.out]
 ·exact (((HK10.out.store (by omega) _ _).store (by omega) _ _).store (by omega) _ _).alloc _
theorem rz (va vb:Value) (r s:Rw) (w:World) (ha:RatAt w va r) (hb:RatAt w vb s) (hr:r.Short 34359738368) (hs:s.Short 34359738368):Calls Tryz.prog 113 #[va,vb] w fun e w'=>(∃ v',e=.returned v'/\RatAt w' v' (ah (aj r+aj s)))/\af w w':=by
 by_cases h:(ag r).1=(ag s).1
 ·exact pH va vb r s w ha hb hr hs h
 ·rcases Nat.lt_or_ge (nv (ag r).2.1*nv (ag s).2.2) (nv (ag s).2.1*nv (ag r).2.2) with h2 | h2
  ·exact tF va vb r s w ha hb hr hs h h2
  ·exact tE va vb r s w ha hb hr hs h h2
theorem rB (va vb:Value) (r s:Rw) (w:World) (ha:RatAt w va r) (hb:RatAt w vb s) (hr:r.Short 34359738368) (hs:s.Short 34359738368):Calls Tryz.prog 101 #[va,vb] w fun e w'=>(∃ v',e=.returned v'/\RatAt w' v' (ah (aj r - aj s)))/\af w w':=by
 have HNE:=ae (fun W (hk:af w W)=>vM vb s W (hb.kept hk) ⟨Nat.le_trans hs.1 (by omega),Nat.le_trans hs.2 (by omega)⟩);obtain ⟨R,hR⟩:∃ R,R=ah (aj r - aj s):=⟨_,rfl⟩
 have HAD:Hid (∀ W v,af w W->RatAt W v (ah (- aj s))->Calls Tryz.prog 113 #[va,v] W fun e w'=>(∃ v',e=.returned v'/\RatAt w' v' R)/\af W w'):=ae fun W v hk hv=>by
  have h:=rz va v r _ W (ha.kept hk) hv hr (eh hb.ok hs (by omega));rw [al,<-Rat.sub_eq_add_neg,<-hR] at h;exact h
 rw [<-hR];obtain ⟨u1,u2,rfl,h1,h2⟩:=ha;obtain ⟨u3,u4,rfl,h3,h4⟩:=hb;obtain ⟨a1,c1,rfl⟩:=h1.shape;obtain ⟨a2,c2,rfl⟩:=h2.shape;obtain ⟨a3,c3,rfl⟩:=h3.shape;obtain ⟨a4,c4,rfl⟩:=h4.shape;generalize r.num.length=n1 at *;generalize r.den.length=n2 at *;generalize s.num.length=n3 at *;generalize s.den.length=n4 at *;generalize r.neg=neg1 at *;generalize s.neg=neg2 at *;obtain ⟨w2,hw2⟩:∃ w2,w2=((w.alloc (.cells #[.bool neg1,.slice a1 n1 c1,.slice a2 n2 c2] 29)).alloc (.cells #[.bool neg2,.slice a3 n3 c3,.slice a4 n4 c4] 29)).alloc (.cells #[.bool false,.slice none 0 0,.slice none 0 0] 29):=⟨_,rfl⟩;have HM:=ae (cw w (.cells #[.bool neg1,.slice a1 n1 c1,.slice a2 n2 c2] 29) (.cells #[.bool neg2,.slice a3 n3 c3,.slice a4 n4 c4] 29));rw [<-hw2] at HM;have ha2:=ai.made w #[.bool neg1,.slice a1 n1 c1,.slice a2 n2 c2] 29;have HA2:Hid (ai w2 w.heap.size 29 [.bool neg1,.slice a1 n1 c1,.slice a2 n2 c2]):=ae (by rw [hw2];exact ha2.kept (((af.refl _).alloc _).alloc _));have hb2:=ai.made (w.alloc (.cells #[.bool neg1,.slice a1 n1 c1,.slice a2 n2 c2] 29)) #[.bool neg2,.slice a3 n3 c3,.slice a4 n4 c4] 29;simp only [World.size_alloc] at hb2;have HB2:Hid (ai w2 (w.heap.size+1) 29 [.bool neg2,.slice a3 n3 c3,.slice a4 n4 c4]):=ae (by rw [hw2];exact hb2.kept ((af.refl _).alloc _));have HW2:=ae hw2;clear hR h1 h2 h3 h4 hr hs hw2 ha2 hb2;have p0:=HA2.out.cell (i:=0) (by simp)
 have p1:=HA2.out.cell (i:=1) (by simp);have p2:=HA2.out.cell (i:=2) (by simp);have g0:=HB2.out.cell (i:=0) (by simp);have g1:=HB2.out.cell (i:=1) (by simp);have g2:=HB2.out.cell (i:=2) (by simp);simp only [List.getElem_cons_succ,List.getElem_cons_zero] at p0 p1 p2 g0 g1 g2;go_enter Tryz.func101,Tryz.ntmps101;go_wp2_with fail;rw [<-HW2.out]
 go_region_with (first
  | (go_at_call 111;(with_reducible refine (HNE.out _ HM.out.2.2.drew).mono ?_);rintro e w3 ⟨⟨v3,rfl,hv3⟩,hk3⟩;have hkd:=(af.refl w2).drew.trans hk3;have x0:=hkd.cell p0;have x1:=hkd.cell p1;have x2:=hkd.cell p2;have HV3:=ae hv3;have HKD:=ae hkd;have HR3:=ae (HM.out.1.kept hkd);have HF3:=ae (HM.out.2.1.kept hkd);clear hv3 hk3 hkd)
  | (go_at_call 113;(with_reducible refine (HAD.out _ _ (HM.out.2.2.trans HKD.out) HV3.out).mono ?_);rintro e w4 ⟨⟨v4,rfl,hv4⟩,hk4⟩;have hr4:=HR3.out.kept hk4;have HR4:=ae hr4;have HF4:=ae (HF3.out.kept hk4);have HK4:=ae ((HM.out.2.2.trans HKD.out).trans hk4);obtain ⟨u5,u6,rfl,k5,k6⟩:=hv4;obtain ⟨a5,c5,rfl⟩:=k5.shape;obtain ⟨a6,c6,rfl⟩:=k6.shape;have K5:=ae k5;have K6:=ae k6;have z0:=hr4.cell (i:=0) (by simp);have z1:=hr4.cell (i:=1) (by simp);have z2:=hr4.cell (i:=2) (by simp);have f0:=hr4.free 0;have f1:=hr4.free 1;have f2:=hr4.free 2;clear k5 k6 hr4 hk4))
 all_goals
  obtain ⟨y0,y1,y2,hra⟩:=aL HR4.out HF4.out K5.out K6.out;generalize R.num.length=n7 at *;generalize R.den.length=n8 at *;go_wp2;refine bodyPost_ret (v:=.agg #[.bool R.neg,.slice a5 n7 c5,.slice a6 n8 c6]) ?_ rfl ⟨⟨_,rfl,hra⟩,?_⟩
  ·simp [results,Tryz.results101,go_sem,y0,y1,y2]
  ·exact ((HK4.out.store (by omega) _ _).store (by omega) _ _).store (by omega) _ _
theorem rA (va vb:Value) (r s:Rw) (w:World) (ha:RatAt w va r) (hb:RatAt w vb s) (hr:r.Short 34359738368) (hs:s.Short 34359738368):Calls Tryz.prog 112 #[va,vb] w fun e w'=>e=.returned (.int .i64 (cO (aj r - aj s)))/\af w w':=by
 have HSU:=ae (fun W (hk:af w W)=>rB va vb r s W (ha.kept hk) (hb.kept hk) hr hs)
 have hsh:(ah (aj r - aj s)).Short 137438953472:=by
  have h:=fi ha.ok (bD _) hr (eh hb.ok hs (by omega)) (by omega) (by omega);rw [al,<-Rat.sub_eq_add_neg] at h;exact ⟨Nat.le_trans h.1 (by omega),Nat.le_trans h.2 (by omega)⟩
 have HSG:Hid (∀ W v,RatAt W v (ah (aj r - aj s))->Calls Tryz.prog 121 #[v] W fun e w'=>e=.returned (.int .i64 (cO (aj r - aj s)))/\af W w'):=ae fun W v hv=>by
  have h:=mT v _ W hv hsh;rw [al] at h;exact h
 obtain ⟨u1,u2,rfl,h1,h2⟩:=ha;obtain ⟨u3,u4,rfl,h3,h4⟩:=hb;obtain ⟨a1,c1,rfl⟩:=h1.shape;obtain ⟨a2,c2,rfl⟩:=h2.shape;obtain ⟨a3,c3,rfl⟩:=h3.shape;obtain ⟨a4,c4,rfl⟩:=h4.shape;generalize ah (aj r - aj s)=R at *;generalize cO (aj r - aj s)=S at *;generalize r.num.length=n1 at *;generalize r.den.length=n2 at *;generalize s.num.length=n3 at *;generalize s.den.length=n4 at *;generalize r.neg=neg1 at *;generalize s.neg=neg2 at *;have HK0:Hid (af w ((w.alloc (.cells #[.bool neg1,.slice a1 n1 c1,.slice a2 n2 c2] 29)).alloc (.cells #[.bool neg2,.slice a3 n3 c3,.slice a4 n4 c4] 29))):=ae (((af.refl w).alloc _).alloc _);clear h1 h2 h3 h4 hr hs hsh;go_enter Tryz.func112,Tryz.ntmps112;go_wp2_with fail;refine (HSU.out _ HK0.out).mono ?_;rintro e w3 ⟨⟨v3,rfl,hv3⟩,hk3⟩;have HV3:=ae hv3;have HK3:=ae (HK0.out.trans hk3);clear hv3 hk3;go_wp2_with fail;refine (HSG.out _ _ HV3.out).mono ?_;rintro e w4 ⟨rfl,hk4⟩;have HK4:=ae (HK3.out.trans hk4);clear hk4;go_wp2;go_ret;exact ⟨rfl,HK4.out⟩
theorem dI:(ah ((1:Int):Rat)).Short 1:=by
 have h1:(nw 1).length<=1:=aI.2 (by omega);have h:=dz false (n:=1) (d:=1) (k:=1) (l:=1) (by omega) h1 h1;rw [show sg false 1=(1:Int) from rfl,Rat.mkRat_one] at h;exact h
theorem tI (v:Value) (r:Rw) (w:World) (hv:RatAt w v r) (hs:r.Short 34359738368):Calls Tryz.prog 73 #[v] w fun e w'=>e=.returned (.bool (du r))/\af w w':=by
 have HVA:=ae (fun W (hk:af w W)=>ls v r W (hv.kept hk) ⟨Nat.le_trans hs.1 (by omega),Nat.le_trans hs.2 (by omega)⟩);have HSG:=ae (fun W (hk:af w W)=>mT v r W (hv.kept hk) ⟨Nat.le_trans hs.1 (by omega),Nat.le_trans hs.2 (by omega)⟩);have HOF:Hid (∀ W,Calls Tryz.prog 102 #[.int .i64 1] W fun e w'=>(∃ v',e=.returned v'/\RatAt w' v' (ah ((1:Int):Rat)))/\af W w'):=ae fun W=>zd 1 W (by omega)
 have HCM:Hid (∀ W u,af w W->RatAt W u (ah ((1:Int):Rat))->Calls Tryz.prog 112 #[v,u] W fun e w'=>e=.returned (.int .i64 (cO (aj r - ((1:Int):Rat))))/\af W w'):=ae fun W u hk hu=>by
  have h:=rA v u r _ W (hv.kept hk) hu hs ⟨Nat.le_trans dI.1 (by omega),Nat.le_trans dI.2 (by omega)⟩;rw [al] at h;exact h
 rw [oM hv.ok];obtain ⟨neg,num,den⟩:=r;obtain ⟨u1,u2,rfl,h1,h2⟩:=hv;simp only at h1 h2;obtain ⟨a1,c1,rfl⟩:=h1.shape;obtain ⟨a2,c2,rfl⟩:=h2.shape;generalize cO (aj ⟨neg,num,den⟩ - ((1:Int):Rat))=T at *;generalize cO (aj ⟨neg,num,den⟩)=S at *;generalize ah ((1:Int):Rat)=ONE at *;generalize bn ⟨neg,num,den⟩=vb at *;simp only at HVA HSG HCM⊢;generalize num.length=n1 at *;generalize den.length=n2 at *;obtain ⟨w1,hw1⟩:∃ w1,w1=w.alloc (.cells #[.bool neg,.slice a1 n1 c1,.slice a2 n2 c2] 29):=⟨_,rfl⟩;have HR:Hid (ai w1 w.heap.size 29 [.bool neg,.slice a1 n1 c1,.slice a2 n2 c2]):=ae (by rw [hw1];exact ai.made w #[.bool neg,.slice a1 n1 c1,.slice a2 n2 c2] 29);have HK0:Hid (af w w1):=ae (by rw [hw1];exact (af.refl w).alloc _);have HW1:=ae hw1;have q0:=HR.out.cell (i:=0) (by simp);have q1:=HR.out.cell (i:=1) (by simp);have q2:=HR.out.cell (i:=2) (by simp);simp only [List.getElem_cons_succ,List.getElem_cons_zero] at q0 q1 q2;clear h1 h2 hs hw1;cases vb with
 | false =>
  go_enter Tryz.func73,Tryz.ntmps73;go_wp2_with fail;rw [<-HW1.out];go_region_with (go_at_call 120;(with_reducible refine (HVA.out _ HK0.out.drew).mono ?_);rintro e w3 ⟨rfl,hk3⟩;have HKD:=ae (HK0.out.drew.trans hk3);clear hk3)
  all_goals
   go_wp2;go_ret;exact ⟨by first | rfl | (simp [Act.put];done) | (simp [go_sem];done),HKD.out⟩
 | true =>
  by_cases hS:0<=S
  ·have dS:decide (0<=S)=true:=by simp;exact hS
   have dS':decide (S ≥ 0)=true:=by simp;exact hS
   go_enter Tryz.func73,Tryz.ntmps73;go_wp2_with fail;rw [<-HW1.out]
   go_region_with (first
    | (go_at_call 120;(with_reducible refine (HVA.out _ HK0.out.drew).mono ?_);rintro e w3 ⟨rfl,hk3⟩;have hkd:=(af.refl w1).drew.trans hk3;have x0:=hkd.cell q0;have x1:=hkd.cell q1;have x2:=hkd.cell q2;have HKD:=ae (HK0.out.trans hkd);clear hk3 hkd)
    | (go_at_call 121;(with_reducible refine (HSG.out _ HKD.out).mono ?_);rintro e w4 ⟨rfl,hk4⟩;have y0:=hk4.cell x0;have y1:=hk4.cell x1;have y2:=hk4.cell x2;have HK4:=ae (HKD.out.trans hk4);clear hk4)
    | (go_at_call 102;(with_reducible refine (HOF.out _).mono ?_);rintro e w5 ⟨⟨v5,rfl,hv5⟩,hk5⟩;have z0:=hk5.cell y0;have z1:=hk5.cell y1;have z2:=hk5.cell y2;have HK5:=ae (HK4.out.trans hk5);have HV5:=ae hv5;clear hk5 hv5)
    | (go_at_call 112;(with_reducible refine (HCM.out _ _ HK5.out HV5.out).mono ?_);rintro e w6 ⟨rfl,hk6⟩;have HK6:=ae (HK5.out.trans hk6);clear hk6))
   all_goals
    go_wp2;go_ret;exact ⟨by first | (simp [hS,Act.put];done) | (simp [hS,go_sem];done),HK6.out⟩
  ·have dS:decide (0<=S)=false:=by simp;omega
   have dS':decide (S ≥ 0)=false:=by simp;omega
   go_enter Tryz.func73,Tryz.ntmps73;go_wp2_with fail;rw [<-HW1.out]
   go_region_with (first
    | (go_at_call 120;(with_reducible refine (HVA.out _ HK0.out.drew).mono ?_);rintro e w3 ⟨rfl,hk3⟩;have hkd:=(af.refl w1).drew.trans hk3;have x0:=hkd.cell q0;have x1:=hkd.cell q1;have x2:=hkd.cell q2;have HKD:=ae (HK0.out.trans hkd);clear hk3 hkd)
    | (go_at_call 121;(with_reducible refine (HSG.out _ HKD.out).mono ?_);rintro e w4 ⟨rfl,hk4⟩;have HK4:=ae (HKD.out.trans hk4);clear hk4))
   all_goals
    go_wp2;go_ret;exact ⟨by simp [Act.put];omega,HK4.out⟩
section
open Go.RowKit Go.ChangeShapes Go.WideShapes Go.ChangeAt Go.Joins Go.Deep
def fo (w:World) (v:Value) (xs:List Nat):Prop :=
 ∃ (a:Option Addr) (c:Nat),v=.slice a xs.length c/\(xs.length<=c/\(a=none->c=0))/\xs.length<=140737488355328/\Wd xs /\
  ∀ i (_:i<xs.length),∃ b o,a=some ⟨b,o,none⟩/\w.cell? ⟨b,o+i,none⟩=some (.int .u32 ((xs.getD i 0:Nat):Int))
theorem fo.kept {w w':World} {v:Value} {xs:List Nat} (h:fo w v xs) (hk:af w w'):fo w' v xs:=by
 obtain ⟨a,c,h1,h2,h3,h4,h5⟩:=h;exact ⟨a,c,h1,h2,h3,h4,fun i hi=>let ⟨b,o,h6,h7⟩:=h5 i hi;⟨b,o,h6,hk.cell h7⟩⟩
theorem fo.small {w:World} {v:Value} {xs:List Nat} (h:fo w v xs) (hl:xs.length<=1099511627776):WdsAt w v xs:=by
 obtain ⟨a,c,h1,h2,_,h4,h5⟩:=h;exact ⟨a,c,h1,h2,hl,h4,h5⟩
theorem fo.shape {w:World} {v:Value} {xs:List Nat} (h:fo w v xs):∃ a c,v=.slice a xs.length c/\xs.length<=140737488355328:=by
 obtain ⟨a,c,h1,_,h3,_⟩:=h;exact ⟨a,c,h1,h3⟩
theorem fo.nil (w:World):fo w (.slice none 0 0) []:=⟨none,0,rfl,⟨by simp,fun _=>rfl⟩,by simp,Wd.nil,fun i h=>by simp at h⟩
def dO (w:World) (v:Value) (ps:List Rw):Prop :=
 ∃ (a:Option Addr) (c:Nat),v=.slice a ps.length c/\(ps.length<=c/\(a=none->c=0))/\ps.length<=140737488355328 /\
  ∀ i (h:i<ps.length),∃ b o u1 u2,a=some ⟨b,o,none⟩/\w.rangeAt b (o+i*3) [.bool ps[i].neg,u1,u2]/\fo w u1 ps[i].num/\fo w u2 ps[i].den
def RatsAt (w:World) (v:Value) (ps:List Rw):Prop :=
 ∃ (a:Option Addr) (c:Nat),v=.slice a ps.length c/\(ps.length<=c/\(a=none->c=0))/\ps.length<=140737488355328 /\
  ∀ i (h:i<ps.length),∃ b o u1 u2,a=some ⟨b,o,none⟩/\w.rangeAt b (o+i*3) [.bool ps[i].neg,u1,u2]/\WdsAt w u1 ps[i].num/\WdsAt w u2 ps[i].den
theorem cJ {w w':World} {b o:Nat} {cs:List Value} (h:w.rangeAt b o cs) (hk:af w w'):w'.rangeAt b o cs:=fun j v hj=>hk.cell (h j v hj)
theorem dO.kept {w w':World} {v:Value} {ps:List Rw} (h:dO w v ps) (hk:af w w'):dO w' v ps:=by
 obtain ⟨a,c,h1,h2,h3,h4⟩:=h;exact ⟨a,c,h1,h2,h3,fun i hi=>let ⟨b,o,u1,u2,h5,h6,h7,h8⟩:=h4 i hi;⟨b,o,u1,u2,h5,cJ h6 hk,h7.kept hk,h8.kept hk⟩⟩
theorem RatsAt.kept {w w':World} {v:Value} {ps:List Rw} (h:RatsAt w v ps) (hk:af w w'):RatsAt w' v ps:=by
 obtain ⟨a,c,h1,h2,h3,h4⟩:=h;exact ⟨a,c,h1,h2,h3,fun i hi=>let ⟨b,o,u1,u2,h5,h6,h7,h8⟩:=h4 i hi;⟨b,o,u1,u2,h5,cJ h6 hk,h7.kept hk,h8.kept hk⟩⟩
theorem dO.small {w:World} {v:Value} {ps:List Rw} (h:dO w v ps) (hs:∀ r∈ps,r.Short 1099511627776):RatsAt w v ps:=by
 obtain ⟨a,c,h1,h2,h3,h4⟩:=h;exact ⟨a,c,h1,h2,h3,fun i hi=>let ⟨b,o,u1,u2,h5,h6,h7,h8⟩:=h4 i hi;⟨b,o,u1,u2,h5,h6,h7.small (hs _ (List.getElem_mem _)).1,h8.small (hs _ (List.getElem_mem _)).2⟩⟩
theorem RatsAt.shape {w:World} {v:Value} {ps:List Rw} (h:RatsAt w v ps):∃ a c,v=.slice a ps.length c:=by obtain ⟨a,c,h1,_⟩:=h;exact ⟨a,c,h1⟩
theorem RatsAt.len {w:World} {v:Value} {ps:List Rw} (h:RatsAt w v ps):ps.length<=140737488355328:=by obtain ⟨a,c,_,_,h1,_⟩:=h;exact h1
theorem RatsAt.get {w:World} {a:Option Addr} {n c:Nat} {ps:List Rw} (h:RatsAt w (.slice a n c) ps) (i:Nat) (hi:i<ps.length):∃ b o u1 u2,a=some ⟨b,o,none⟩/\w.rangeAt b (o+i*3) [.bool (ps.getD i default).neg,u1,u2]/\WdsAt w u1 (ps.getD i default).num/\WdsAt w u2 (ps.getD i default).den:=by
 obtain ⟨a',c',h1,_,_,h4⟩:=h;injection h1 with e1 e2 e3
 subst e1;have e:ps.getD i default=ps[i]:=by simp [List.getD_eq_getElem?_getD,hi]
 rw [e];exact h4 i hi
theorem pP:Tryz.prog.cellsOf 29=3:=by kernel_rfl
theorem rY:Tryz.prog.cellsOf 27=1:=by kernel_rfl
theorem xK:Tryz.prog.cellsOf 70=1:=by kernel_rfl
theorem uu:Tryz.prog.cellsOf 4=1:=by kernel_rfl
theorem xH:Tryz.prog.bytesOf 29=56:=by kernel_rfl
theorem xI:Tryz.prog.bytesOf 70=4:=by kernel_rfl
theorem nR {n:Int} (h:(Lit.int .u32 n).wf=true):0<=n/\n<4294967296:=by
 simp [Lit.wf,IntKind.min,IntKind.max,IntKind.signed,IntKind.bits] at h;omega
section
variable {H:Type} {enc:TypeId × Value->H} {W:World} {base:Nat}
theorem pp {fuel:Nat} {cs:List Value} {x:DataW H × List MemPlace} (hb:∀ n∈x.1.weights Tryz.prog 27,n<=reachBytes)
  (h:DataW.trod enc Tryz.prog W base (fun _=>true) true fuel 27 cs=some x):∃ u xs,cs=[u]/\fo W u xs:=by
 rcases open_ints Tryz.underlying27 Tryz.underlying70 xK h with ⟨rfl,rfl⟩ | ⟨a,len,cap,zs,rfl,_,hl,hm,hz,rfl,hcell,hwz⟩
 ·exact ⟨_,[],rfl,fo.nil _⟩
 ·simp only [if_true] at hz
  have hbb:=hb ((zs.take len).length*4+(zs.drop len).length*4) (by
   simp only [DataW.weights,Tryz.underlying27,xI,List.mem_cons];exact .inl (by simp [lits];omega))
  simp [reachBytes] at hbb;have hlen:((zs.take len).map Int.toNat).length=len:=by simp;omega
  refine ⟨_,(zs.take len).map Int.toNat,rfl,some a,cap,by rw [hlen],⟨by rw [hlen];exact hl,fun h=>by cases h⟩,by rw [hlen];omega,fun z hz=>?_,fun i hi=>?_⟩
  ·obtain ⟨y,hy,rfl⟩:=List.mem_map.1 hz;have:=nR (hwz y (List.mem_of_mem_take hy));omega
  ·rw [hlen] at hi;have hc:=hcell i (by omega);obtain ⟨b,o,spot⟩:=a;have hspot:spot=none:=World.cell?_spot (hcell 0 (by omega));subst hspot;refine ⟨b,o,rfl,?_⟩
   have e:((((zs.take len).map Int.toNat).getD i 0:Nat):Int)=zs.getD i 0:=by
    have h1:i<zs.length:=by omega
    have h2:=nR (hwz zs[i] (List.getElem_mem _));simp [List.getD_eq_getElem?_getD,h1,hi];omega
   rw [e,<-hc];congr 1;by_cases h0:i=0
   ·subst h0;rfl
   ·simp [Addr.add,h0]
theorem yY {fuel:Nat} {cs:List Value} {x:DataW H × List MemPlace} (hb:∀ n∈x.1.weights Tryz.prog 23,n<=reachBytes)
  (h:DataW.trod enc Tryz.prog W base (fun _=>true) true fuel 23 cs=some x):∃ u ps,cs=[u]/\dO W u ps:=by
 rcases open_slice Tryz.underlying23 h with ⟨rfl,rfl⟩ | ⟨a,len,cap,m,n,D,Pl,rfl,_,hl,hm,hmm,rfl,hx⟩
 ·exact ⟨_,[],rfl,none,0,rfl,⟨by simp,fun _=>rfl⟩,by simp,fun i h=>by simp at h⟩
 ·simp only [if_true] at hmm;have hmc:=hmm.symm;subst hmc
  have hbb:=hb (cap*56) (by
   simp only [DataW.weights,Tryz.underlying23,xH,List.mem_cons];refine .inl ?_;simp;omega)
  simp [reachBytes] at hbb
  have each:∀ i,i<len->∃ y:Rw,∃ b o u1 u2,a=⟨b,o,none⟩/\W.rangeAt b (o+i*3) [.bool y.neg,u1,u2]/\fo W u1 y.num/\fo W u2 y.den:=by
   intro i hi;obtain ⟨cs',hc,ht⟩:=hx i (by omega);rw [pP] at hc;obtain ⟨_,hcl,hat⟩:=World.cells?_some hc;obtain ⟨y0,y1,y2,n',hy,hlen,g0,g1,g2⟩:=trod_struct3 Tryz.underlying29 ht
   match cs',hcl with
   | [c0,c1,c2],_ =>
    have q0:=hat 0 (by omega);have q1:=hat 1 (by omega);have q2:=hat 2 (by omega);simp only [List.getElem?_cons_zero,List.getElem?_cons_succ] at q0 q1 q2;have k0:Tryz.prog.cellsOf 4=1:=uu;have k2:Tryz.prog.cellsOf 27=1:=rY;simp only [k0,k2,List.drop_zero,List.drop_succ_cons,List.take_succ_cons,List.take_zero] at g0 g1 g2;obtain ⟨ng,e0,hy0⟩:=DataW.trod_bool Tryz.underlying4 g0;simp at e0;subst e0;have hdi:D i=.agg [y0.1,y1.1,y2.1]:=by simpa using congrArg Prod.fst hy
    obtain ⟨u1,xs1,e1,hu1⟩:=pp (fun n hn=>hb n (by
     simp only [DataW.weights,Tryz.underlying23,List.mem_cons,List.mem_append];refine .inr (.inl (dY (d:=D i) (List.mem_map.2 ⟨i,by simpa using hi,rfl⟩) n ?_));rw [hdi];simp only [DataW.weights,Tryz.underlying29];simp only [List.map_cons,DataW.weightsEach,List.mem_append];exact .inr (.inl hn))) g1
    obtain ⟨u2,xs2,e2,hu2⟩:=pp (fun n hn=>hb n (by
     simp only [DataW.weights,Tryz.underlying23,List.mem_cons,List.mem_append];refine .inr (.inl (dY (d:=D i) (List.mem_map.2 ⟨i,by simpa using hi,rfl⟩) n ?_));rw [hdi];simp only [DataW.weights,Tryz.underlying29];simp only [List.map_cons,DataW.weightsEach,List.mem_append];exact .inr (.inr (.inl hn)))) g2
    simp at e1 e2;subst e1 e2;obtain ⟨b,o,spot⟩:=a
    have hspot:spot=none:=by
     obtain ⟨cs0,hc0,_⟩:=hx 0 (by omega);rw [pP] at hc0;obtain ⟨_,hcl0,hat0⟩:=World.cells?_some hc0;have h1:=hat0 0 (by omega);rw [List.getElem?_eq_getElem (by omega)] at h1;exact World.cell?_spot (a:=⟨b,o,spot⟩) (by simpa [Addr.add] using h1)
    subst hspot;refine ⟨⟨ng,xs1,xs2⟩,b,o,c1,c2,rfl,?_,hu1,hu2⟩;intro j v hj
    match j,hj with
    | 0,hj=>simp at hj;subst hj;rw [<-q0,nd,nd]
    | 1,hj=>simp at hj;subst hj;rw [<-q1,nd,nd]
    | 2,hj=>simp at hj;subst hj;rw [<-q2,nd,nd]
  obtain ⟨g,hg⟩:=choose_lt each;refine ⟨_,(List.range len).map g,rfl,some a,cap,by simp,⟨by simp;omega,fun h=>by cases h⟩,by simp;omega,fun i hi=>?_⟩;simp only [List.length_map,List.length_range] at hi;obtain ⟨b,o,u1,u2,rfl,h1,h2,h3⟩:=hg i hi;exact ⟨b,o,u1,u2,rfl,by simpa using h1,by simpa using h2,by simpa using h3⟩
end
end
def Ei (u:Value) (ps:List Rw):Prop:=∃ b,u=.bool b/\(b=false->ps.length<=30/\∀ r∈ps,r.Short 3)
theorem qe (v:Value) (ps:List Rw) (w:World) (hv:dO w v ps) :
  Calls Tryz.prog 12 #[v] w fun e w'=>(∃ u,e=.returned u/\Ei u ps)/\af w w':=by
 obtain ⟨a,c,rfl,⟨hc,_⟩,hl,hx⟩:=hv;obtain ⟨n,hn⟩:∃ n,n=ps.length:=⟨_,rfl⟩;have hn9:n<=140737488355328:=by omega
 rw [<-hn];have HX:=ae hx;have HN:=ae hn;clear hx hn hl hc;go_enter Tryz.func12,Tryz.ntmps12;go_wp2_with fail;go_loopg [3,8] n (fun kx s3 s8 wr=>∃ k t:Nat,k<=n/\s8=.int .i64 k/\n - k<=kx/\s3=.int .i64 t/\t<=3*k/\Hid (∀ r∈ps.take k,r.Short 3)/\Hid (af w wr))
 case atStart=>exact ⟨0,0,Nat.zero_le _,rfl,by omega,rfl,by omega,ae (by simp),ae (af.refl _)⟩
 case round =>
  obtain ⟨k,t,hk,rfl,hkx,rfl,ht,HF,HK⟩:=hrel;by_cases hlt:k<n
  ·have hkl:k<ps.length:=by have:=HN.out;omega
   obtain ⟨b,o,u1,u2,rfl,hrg,hw1,hw2⟩:=HX.out k hkl;obtain ⟨r,hr⟩:∃ r,r=ps[k]:=⟨_,rfl⟩;rw [<-hr] at hrg hw1 hw2;have HR:=ae hr;have HRG0:=cJ hrg HK.out;have hw2':=hw2.kept HK.out;obtain ⟨a1,c1,rfl,hl1⟩:=hw1.shape;obtain ⟨a2,c2,rfl,hl2⟩:=hw2.shape
   have HNX:Hid (r.Short 3->∀ x∈ps.take (k+1),x.Short 3):=ae fun h x hx=>by
    rw [List.take_succ_eq_append_getElem hkl] at hx;rcases List.mem_append.1 hx with hx | hx
    ·exact HF.out x hx
    ·simp at hx;rw [hx,<-HR.out];exact h
   have HSH:Hid (r.num.length<=3->r.den.length<=3->r.Short 3):=ae fun h1 h2=>⟨h1,h2⟩
   obtain ⟨n1,hn1⟩:∃ n1,n1=r.num.length:=⟨_,rfl⟩;obtain ⟨n2,hn2⟩:∃ n2,n2=r.den.length:=⟨_,rfl⟩;rw [<-hn1] at HRG0 hl1 HSH;rw [<-hn2] at HRG0 hl2 HSH hw2';have HRG:Hid (wr.rangeAt b (o+k*3) [.bool r.neg,.slice a1 n1 c1,.slice a2 n2 c2]):=ae HRG0;have HK2:Hid (af w (wr.alloc (.cells #[.bool r.neg,.slice a1 n1 c1,.slice a2 n2 c2] 29))):=ae (HK.out.alloc _);have HW2:=ae hw2';have HN2:=ae hn2;have hkn:(k:Int)<(n:Int):=by omega
   clear hr hrg hw1 hw2 hw2' HRG0 hn1 hn2;by_cases h1:3<n1
   ·have g1:(3:Int)<(n1:Int):=by omega
    have d1:decide ((3:Int)<(n1:Int))=true:=decide_eq_true g1;go_wp2_with (with_reducible refine wpList_load_mid rfl 29 _ rfl b (o+k*3) rfl _ _ HRG.out Tryz.underlying29 rfl (by kernel_rfl) ?_);go_ret;exact ⟨⟨_,rfl,true,rfl,fun h=>by cases h⟩,HK2.out⟩
   ·have g1:¬ (3:Int)<(n1:Int):=by omega
    have d1:decide ((3:Int)<(n1:Int))=false:=decide_eq_false g1;by_cases h2:3<n2
    ·have g2:(3:Int)<(n2:Int):=by omega
     have d2:decide ((3:Int)<(n2:Int))=true:=decide_eq_true g2;go_wp2_with (with_reducible refine wpList_load_mid rfl 29 _ rfl b (o+k*3) rfl _ _ HRG.out Tryz.underlying29 rfl (by kernel_rfl) ?_);go_ret;exact ⟨⟨_,rfl,true,rfl,fun h=>by cases h⟩,HK2.out⟩
    ·have g2:¬ (3:Int)<(n2:Int):=by omega
     have d2:decide ((3:Int)<(n2:Int))=false:=decide_eq_false g2;have HS3:=ae (HNX.out (HSH.out (by omega) (by omega)));obtain ⟨mx,hmx⟩:∃ mx,mx=max n1 n2:=⟨_,rfl⟩;have emx:max (n1:Int) (n2:Int)=(mx:Int):=by omega
     obtain ⟨t2,ht2⟩:∃ t2,t2=t+mx:=⟨_,rfl⟩;have et2:(t:Int)+(mx:Int)=(t2:Int):=by omega
     have ht29:t2<=3*(k+1):=by omega
     have ht28:t2<=422212465065987:=by omega
     clear hmx ht2;by_cases h3:1<n1
     ·have g3:(1:Int)<(n1:Int):=by omega
      have d3:decide ((1:Int)<(n1:Int))=true:=decide_eq_true g3;go_wp2_with (with_reducible refine wpList_load_mid rfl 29 _ rfl b (o+k*3) rfl _ _ HRG.out Tryz.underlying29 rfl (by kernel_rfl) ?_);go_roundg (n - (k+1))
      case measure=>omega
      case rel=>exact ⟨k+1,t2,by omega,by go_num,Nat.le_refl _,rfl,ht29,HS3,HK2⟩
     ·have g3:¬ (1:Int)<(n1:Int):=by omega
      have d3:decide ((1:Int)<(n1:Int))=false:=decide_eq_false g3;by_cases h4:1<n2
      ·have g4:(1:Int)<(n2:Int):=by omega
       have d4:decide ((1:Int)<(n2:Int))=true:=decide_eq_true g4;go_wp2_with (with_reducible refine wpList_load_mid rfl 29 _ rfl b (o+k*3) rfl _ _ HRG.out Tryz.underlying29 rfl (by kernel_rfl) ?_);go_roundg (n - (k+1))
       case measure=>omega
       case rel=>exact ⟨k+1,t2,by omega,by go_num,Nat.le_refl _,rfl,ht29,HS3,HK2⟩
      ·have g4:¬ (1:Int)<(n2:Int):=by omega
       have d4:decide ((1:Int)<(n2:Int))=false:=decide_eq_false g4;by_cases h5:n2=1
       ·have e5:((n2:Int) == 1)=true:=by simp;omega
        have hden:0<r.den.length:=by have:=HN2.out;omega
        obtain ⟨a2',c2',h6,h7,_,_,h8⟩:=HW2.out;injection h6 with h9 h10 h11
        obtain ⟨b2,o2,h12,h13⟩:=h8 0 hden;rw [<-h9] at h12;subst h12;obtain ⟨y,hy⟩:∃ y,y=r.den.getD 0 0:=⟨_,rfl⟩;rw [<-hy,Nat.add_zero] at h13;have h14:=((af.refl wr).alloc (.cells #[.bool r.neg,.slice a1 n1 c1,.slice (some ⟨b2,o2,none⟩) n2 c2] 29)).cell h13;have q0:(0:Int)<(n2:Int):=by omega
        have q0':0<n2:=by omega
        clear h7 h8 h9 h10 h11 h13 hy h5;by_cases h15:1024<=y
        ·have d5:decide ((1024:Int)<=(y:Int))=true:=decide_eq_true (by omega);have g5:(1024:Int)<=(y:Int):=by omega
         go_wp2_with (with_reducible refine wpList_load_mid rfl 29 _ rfl b (o+k*3) rfl _ _ HRG.out Tryz.underlying29 rfl (by kernel_rfl) ?_);go_roundg (n - (k+1))
         case measure=>omega
         case rel=>exact ⟨k+1,t2,by omega,by go_num,Nat.le_refl _,rfl,ht29,HS3,HK2⟩
        ·have d5:decide ((1024:Int)<=(y:Int))=false:=decide_eq_false (by omega);have g5:¬ (1024:Int)<=(y:Int):=by omega
         go_wp2_with (with_reducible refine wpList_load_mid rfl 29 _ rfl b (o+k*3) rfl _ _ HRG.out Tryz.underlying29 rfl (by kernel_rfl) ?_);go_roundg (n - (k+1))
         case measure=>omega
         case rel=>exact ⟨k+1,t,by omega,by go_num,Nat.le_refl _,rfl,by omega,HS3,HK2⟩
       ·have e5:((n2:Int) == 1)=false:=by simp;omega
        go_wp2_with (with_reducible refine wpList_load_mid rfl 29 _ rfl b (o+k*3) rfl _ _ HRG.out Tryz.underlying29 rfl (by kernel_rfl) ?_);go_roundg (n - (k+1))
        case measure=>omega
        case rel=>exact ⟨k+1,t,by omega,by go_num,Nat.le_refl _,rfl,by omega,HS3,HK2⟩
  ·have hke:k=n:=by omega
   have HALL:Hid (∀ r∈ps,r.Short 3):=ae (by have:=HF.out;rwa [List.take_of_length_le (by have:=HN.out;omega)] at this);have hkn:¬ (k:Int)<(n:Int):=by omega
   by_cases h30:30<n
   ·have g30:(30:Int)<(n:Int):=by omega
    have d30:decide ((30:Int)<(n:Int))=true:=decide_eq_true g30;go_wp2;go_ret;exact ⟨⟨_,rfl,true,rfl,fun h=>by cases h⟩,HK.out⟩
   ·have g30:¬ (30:Int)<(n:Int):=by omega
    have d30:decide ((30:Int)<(n:Int))=false:=decide_eq_false g30;go_wp2;go_ret;exact ⟨⟨_,rfl,_,rfl,fun _=>⟨by have:=HN.out;omega,HALL.out⟩⟩,HK.out⟩
def Fl (g:Nat) (lb:Array Value) (p:Rw->Bool) (w:World):Prop :=
 ∀ (W:World) (u:Value) (x:Rw),af w W->RatAt W u x->x.Short 34359738368->Calls Tryz.prog g (#[u]++lb) W fun e W'=>e=.returned (.bool (p x))/\af W W'
def bI (ps:List Rw):Bool:=ps.any fun r=>!du r
theorem oR (v:Value) (ps:List Rw) (w:World) (hv:RatsAt w v ps) (hs:∀ x∈ps,x.Short 34359738368):Calls Tryz.prog 31 #[v] w fun e w'=>e=.returned (.bool (bI ps))/\af w w':=by
 obtain ⟨a,c,rfl,⟨hc,_⟩,hl,hx⟩:=hv;obtain ⟨n,hn⟩:∃ n,n=ps.length:=⟨_,rfl⟩;have hbig:n<=140737488355328:=by omega
 rw [<-hn];have HX:=ae hx;have HN:=ae hn;have HLT:=ae hs;clear hx hn hl hc hs;go_enter Tryz.func31,Tryz.ntmps31;go_wp2_with fail;go_loopg [7] n (fun kx i wr=>∃ k:Nat,k<=n/\i=.int .i64 k/\n - k<=kx/\Hid (∀ x∈ps.take k,du x=true)/\Hid (af w wr))
 case atStart=>exact ⟨0,Nat.zero_le _,rfl,by omega,ae (by simp),ae (af.refl _)⟩
 case round =>
  obtain ⟨k,hk,rfl,hkx,HF,HK⟩:=hrel;by_cases hlt:k<n
  ·have hkl:k<ps.length:=by have:=HN.out;omega
   obtain ⟨b,o,u1,u2,rfl,hrg,hw1,hw2⟩:=HX.out k hkl;have hrg2:=cJ hrg HK.out;have hxl:=HLT.out ps[k] (List.getElem_mem _);obtain ⟨x,hxx⟩:∃ x,x=ps[k]:=⟨_,rfl⟩;rw [<-hxx] at hrg2 hxl hw1 hw2;have HXX:=ae hxx;obtain ⟨a1,c1,rfl⟩:=hw1.shape;obtain ⟨a2,c2,rfl⟩:=hw2.shape;have HC:Hid (∀ W,af w W->Calls Tryz.prog 73 #[.agg #[.bool x.neg,.slice a1 x.num.length c1,.slice a2 x.den.length c2]] W fun e W'=>e=.returned (.bool (du x))/\af W W'):=ae fun W hk=>tI _ x W ⟨_,_,rfl,hw1.kept hk,hw2.kept hk⟩ hxl
   generalize x.num.length=n1 at *;generalize x.den.length=n2 at *;have HRG:Hid (wr.rangeAt b (o+k*3) [.bool x.neg,.slice a1 n1 c1,.slice a2 n2 c2]):=ae hrg2;have hkn:(k:Int)<(n:Int):=by omega
   clear hrg hrg2 hxx hxl hw1 hw2;cases hq:du x with
   | false =>
    rw [hq] at HC;have HQ:=ae hq;clear hq;go_wp2_with (first | (with_reducible refine wpList_load_mid rfl 29 _ rfl b (o+k*3) rfl _ _ HRG.out Tryz.underlying29 rfl (by kernel_rfl) ?_) | (go_at_call 73;refine (HC.out _ (HK.out.alloc _)).mono ?_;rintro e w' ⟨rfl,hK2⟩));go_ret;have hb:bI ps=true:=List.any_eq_true.2 ⟨x,by rw [HXX.out];exact List.getElem_mem _,by rw [HQ.out];rfl⟩;exact ⟨by rw [hb];rfl,(HK.out.alloc _).trans hK2⟩
   | true =>
    rw [hq] at HC;have HQ:=ae hq;clear hq;go_wp2_with (first | (with_reducible refine wpList_load_mid rfl 29 _ rfl b (o+k*3) rfl _ _ HRG.out Tryz.underlying29 rfl (by kernel_rfl) ?_) | (go_at_call 73;refine (HC.out _ (HK.out.alloc _)).mono ?_;rintro e w' ⟨rfl,hK2⟩));go_roundg (n - (k+1))
    case measure=>omega
    case rel =>
     refine ⟨k+1,by omega,by go_num,Nat.le_refl _,ae ?_,ae ((HK.out.alloc _).trans hK2)⟩;intro y hy;rw [List.take_succ_eq_append_getElem hkl] at hy;rcases List.mem_append.1 hy with hy | hy
     ·exact HF.out y hy
     ·simp at hy;rw [hy,<-HXX.out];exact HQ.out
  ·have hh:=HF.out;rw [List.take_of_length_le (by have:=HN.out;omega)] at hh;have HB:Hid (bI ps=false):=ae (by unfold bI;rw [List.any_eq_false];intro y hy;simp [hh y hy]);have hkn:¬ (k:Int)<(n:Int):=by omega
   clear hh;go_wp2;go_ret;exact ⟨by rw [HB.out];rfl,HK.out⟩
def jZ (s:Nat):List Nat:=(List.range 24).filter fun i=>s.testBit i
def nz (s:Nat):Int:=(Lib.bitLen s:Int) - 1
theorem eE {s i:Nat} (h:i∈jZ s):i<24/\s.testBit i=true:=by
 have:=List.mem_filter.1 h;exact ⟨by simpa using this.1,this.2⟩
theorem DV {x n:Nat} (h1:2^n<=x) (h2:x<2^(n+1)) (hn:n<60):Lib.bitLen x=n+1:=by
 have h64:x<2^64:=Nat.lt_of_lt_of_le h2 (Nat.pow_le_pow_right (by omega) (by omega));have h3:=Lib.bitLen_le x (n+1) (by omega) h2;have h4:=pM h64;have h5:n<Lib.bitLen x:=(Nat.pow_lt_pow_iff_right (by omega:1<2)).1 (Nat.lt_of_le_of_lt h1 h4);omega
theorem ky {s i:Nat} (hs:s<16777216) (hi:24<=i):s.testBit i=false:=by
 cases h:s.testBit i with
 | false=>rfl
 | true =>
  exfalso
  have h1:2^i<=s:=Nat.ge_two_pow_of_testBit h;have h2:2^24<=2^i:=Nat.pow_le_pow_right (by omega) hi;have e:(2:Nat)^24=16777216:=rfl;omega
theorem kW (c i:Nat) (hc:c<16777216) (w:World):Calls Tryz.prog 98 #[.int .i64 c,.int .i64 i] w fun e w'=>e=.returned (.bool (c.testBit i))/\w'=w:=by
 by_cases hi:i<24
 ·have e:=CR c i hc;have h1:(0:Int)<=(i:Int):=by omega
  have h2:(i:Int)<24:=by omega
  have E:=ae e;clear e hc;go_enter Tryz.func98,Tryz.ntmps98;go_wp2;go_ret;exact ⟨by rw [<-E.out];rfl,rfl⟩
 ·rw [ky hc (by omega)];have h1:(0:Int)<=(i:Int):=by omega
  have h2:¬ (i:Int)<24:=by omega
  have d2:decide ((i:Int)<24)=false:=decide_eq_false h2;clear hc hi;go_enter Tryz.func98,Tryz.ntmps98;go_wp2;go_ret;exact ⟨by first | rfl | simp,rfl⟩
theorem ya (s:Nat) (hs:s<16777216) (w:World):Calls Tryz.prog 95 #[.int .i64 s] w fun e w'=>e=.returned (.int .i64 (nz s))/\w'=w:=by
 have HC:Hid (∀ W,Calls Tryz.prog 135 #[.int .i64 s] W fun e w'=>e=.returned (.int .i64 s)/\W=w'):=ae fun W=>nX (by unfold Mk;omega) W
 have ew:IntKind.u64.wrap (s:Int)=(s:Int):=by rw [IntKind.wrap_u64];omega
 obtain ⟨z,hz⟩:∃ z,z=Lib.bitLen s:=⟨_,rfl⟩;have hz9:z<=24:=by rw [hz];exact Lib.bitLen_le s 24 (by omega) (by rw [show (2:Nat)^24=16777216 from rfl];exact hs)
 have HL:Hid (∀ W,Calls Tryz.prog 132 #[.int .u64 (s:Int)] W fun e w'=>e=.returned (.int .i64 z)/\w'=W):=ae fun W=>by
  have h:=Tryz.bits_Len (s:Int) W (by omega) (by omega);rw [Int.toNat_natCast,<-hz] at h;exact h
 have hg:nz s=(z:Int) - 1:=by unfold nz;rw [hz]
 rw [hg];clear hz hg hs;go_enter Tryz.func95,Tryz.ntmps95;go_wp2_with (first | (go_at_call 135;refine (HC.out _).mono ?_;rintro e w2 ⟨rfl,rfl⟩) | (go_at_call 132;refine (HL.out _).mono ?_;rintro e w2 ⟨rfl,rfl⟩));go_ret;exact ⟨rfl,rfl⟩
theorem uI (s k:Nat):((List.range (k+1)).filter fun i=>s.testBit i)=((List.range k).filter fun i=>s.testBit i)++(if s.testBit k then [k] else []):=by
 rw [List.range_succ,List.filter_append];congr 1;cases h:s.testBit k <;> simp [h]
theorem pV (s n:Nat):((List.range n).filter fun i=>s.testBit i).length<=n:=by
 have:=List.length_filter_le (fun i=>s.testBit i) (List.range n);simpa using this
theorem bo.store {w:World} {g:Nat} {xs:List Value} (h:bo w g xs) (i:Nat) (u:Value):bo (w.setCell ⟨g,i,none⟩ u) g (xs.set i u):=by
 obtain ⟨cur,e,h1,h2⟩:=h;refine ⟨cur.setIfInBounds i u,e,by simp [World.setCell,Array.getElem?_modify,h1],?_⟩;rw [Array.toList_setIfInBounds,h2]
def RatCell (w:World) (g:Nat) (r:Rw):Prop:=∃ a1 c1 a2 c2,ai w g 29 [.bool r.neg,.slice a1 r.num.length c1,.slice a2 r.den.length c2]/\bo w g [.bool r.neg,.slice a1 r.num.length c1,.slice a2 r.den.length c2]/\WdsAt w (.slice a1 r.num.length c1) r.num/\WdsAt w (.slice a2 r.den.length c2) r.den
theorem RatCell.kept {w w':World} {g:Nat} {r:Rw} (h:RatCell w g r) (hk:af w w'):RatCell w' g r:=by
 obtain ⟨a1,c1,a2,c2,h1,h2,h3,h4⟩:=h;exact ⟨a1,c1,a2,c2,h1.kept hk,h2.kept hk,h3.kept hk,h4.kept hk⟩
theorem RatCell.made {w:World} {r:Rw} {a1 a2:Option Addr} {c1 c2:Nat} (h1:WdsAt w (.slice a1 r.num.length c1) r.num) (h2:WdsAt w (.slice a2 r.den.length c2) r.den) :
  RatCell (w.alloc (.cells #[.bool r.neg,.slice a1 r.num.length c1,.slice a2 r.den.length c2] 29)) w.heap.size r :=
 ⟨a1,c1,a2,c2,ai.made w #[.bool r.neg,.slice a1 r.num.length c1,.slice a2 r.den.length c2] 29,bo.made w #[.bool r.neg,.slice a1 r.num.length c1,.slice a2 r.den.length c2] 29,h1.kept ((af.refl _).alloc _),h2.kept ((af.refl _).alloc _)⟩
theorem RatCell.store {w:World} {g:Nat} {r r':Rw} {a1 a2:Option Addr} {c1 c2:Nat} (h:RatCell w g r) (h1:WdsAt w (.slice a1 r'.num.length c1) r'.num) (h2:WdsAt w (.slice a2 r'.den.length c2) r'.den) :
  RatCell (((w.setCell ⟨g,0,none⟩ (.bool r'.neg)).setCell ⟨g,1,none⟩ (.slice a1 r'.num.length c1)).setCell ⟨g,2,none⟩ (.slice a2 r'.den.length c2)) g r':=by
 obtain ⟨a3,c3,a4,c4,h3,h4,_,_⟩:=h;have hr:=((h3.store 0 (.bool r'.neg)).store 1 (.slice a1 r'.num.length c1)).store 2 (.slice a2 r'.den.length c2);have hf:=((h4.store 0 (.bool r'.neg)).store 1 (.slice a1 r'.num.length c1)).store 2 (.slice a2 r'.den.length c2);simp only [List.set_cons_zero,List.set_cons_succ] at hr hf;have hO:=(((az.refl g w).store 0 (.bool r'.neg)).store 1 (.slice a1 r'.num.length c1)).store 2 (.slice a2 r'.den.length c2);exact ⟨a1,c1,a2,c2,hr,hf,h1.apart h4 (by simp) hO,h2.apart h4 (by simp) hO⟩
theorem RatCell.at {w:World} {g:Nat} {r:Rw} (h:RatCell w g r):∃ a1 c1 a2 c2,(w.cell? ⟨g,0,none⟩=some (.bool r.neg)/\w.cell? ⟨g,1,none⟩=some (.slice a1 r.num.length c1)/\w.cell? ⟨g,2,none⟩=some (.slice a2 r.den.length c2))/\(w.frozen? ⟨g,0,none⟩=false/\w.frozen? ⟨g,1,none⟩=false/\w.frozen? ⟨g,2,none⟩=false)/\g<w.heap.size/\RatAt w (.agg #[.bool r.neg,.slice a1 r.num.length c1,.slice a2 r.den.length c2]) r:=by
 obtain ⟨a1,c1,a2,c2,h1,h2,h3,h4⟩:=h;refine ⟨a1,c1,a2,c2,⟨?_,?_,?_⟩,⟨h1.free 0,h1.free 1,h1.free 2⟩,h1.lt,_,_,rfl,h3,h4⟩
 ·have:=h1.cell (i:=0) (by simp);simpa using this
 ·have:=h1.cell (i:=1) (by simp);simpa using this
 ·have:=h1.cell (i:=2) (by simp);simpa using this
def dW (s:Nat) (ps:List Rw):Nat->Rat
 | 0=>1
 | k+1=>if s.testBit k=true then dW s ps k*aj (ps.getD k default) else dW s ps k
theorem g_ (s:Nat) (ps:List Rw) (k:Nat):dW s ps (k+1)=if s.testBit k=true then dW s ps k*aj (ps.getD k default) else dW s ps k:=rfl
theorem oO {s:Nat} {ps:List Rw} (hs:∀ r∈ps,r.Short 3) (hok:∀ r∈ps,r.Ok):∀ n,n<=ps.length->(ah (dW s ps n)).Short (3*n+1):=by
 intro n;induction n with
 | zero=>intro _;exact dI
 | succ n ih =>
  intro hn;have ih:=ih (by omega);have hx:ps.getD n default=ps[n]:=by simp [List.getD_eq_getElem?_getD,show n<ps.length by omega]
  rw [g_];split
  ·have h:=gE (bD (dW s ps n)) (hok _ (List.getElem_mem (show n<ps.length by omega))) ih (hs _ (List.getElem_mem (show n<ps.length by omega))) (by omega) (by omega);rw [al,<-hx] at h;exact ⟨Nat.le_trans h.1 (by omega),Nat.le_trans h.2 (by omega)⟩
  ·exact ⟨Nat.le_trans ih.1 (by omega),Nat.le_trans ih.2 (by omega)⟩
theorem RatsAt.ok {w:World} {v:Value} {ps:List Rw} (h:RatsAt w v ps):∀ r∈ps,r.Ok:=by
 obtain ⟨a,c,_,_,_,h4⟩:=h;intro r hr;obtain ⟨i,hi,rfl⟩:=List.getElem_of_mem hr;obtain ⟨_,_,_,_,_,_,h7,h8⟩:=h4 i hi;exact ⟨h7.wd,h8.wd⟩
def Gi (L:List Nat) (ps:List Rw) (j:Nat):Rat:=(L.take j).foldl (fun (q:Rat) (i:Nat)=>q*aj (ps.getD i default)) 1
def Gg (a b:Nat):Bool:=decide (a≠b)&&subN a b
def Eb (xs:List Int):Bool:=xs.all fun x=>decide (0<=x/\x<=16777215)
def eK (xs:List Int):Nat:=if 1024<xs.length then 4 else if Eb xs=true then 0 else 3
def aR (xs:List Int):List Nat:=xs.map Int.toNat
def cU (xs:List Int):Nat:=if eK xs≠0 then eK xs else if aR xs≠bl (aR xs) then 13 else if aR xs≠aT (aR xs) then 2 else 0
theorem nD {xs:List Int}:Eb xs=true ↔ ∀ x∈xs,0<=x/\x<=16777215:=by
 unfold Eb;rw [List.all_eq_true];exact ⟨fun h x hx=>of_decide_eq_true (h x hx),fun h x hx=>decide_eq_true (h x hx)⟩
theorem nC {xs:List Int} (h:Eb xs=true):xs=aO (aR xs)/\∀ n∈aR xs,Mk n:=by
 have h:=nD.1 h;refine ⟨?_,fun n hn=>?_⟩
 ·unfold aO aR;rw [List.map_map]
  have:xs.map ((fun (n:Nat)=>(n:Int)) ∘ Int.toNat)=xs.map id:=List.map_congr_left fun x hx=>by
   have:=h x hx;simp only [Function.comp,id];omega
  first | (rw [this,List.map_id]) | (rw [List.map_id] at this;exact this.symm)
 ·obtain ⟨x,hx,rfl⟩:=List.mem_map.1 hn;have:=h x hx;unfold Mk;omega
theorem uK {xs:List Int} (h:eK xs=0):xs.length<=1024/\Eb xs=true:=by
 unfold eK at h;split at h
 ·omega
 ·split at h
  ·exact ⟨by omega,by assumption⟩
  ·omega
theorem xT (xs:List Int):eK xs=0\/eK xs=3\/eK xs=4:=by unfold eK;split <;> first | (exact .inr (.inr rfl)) | (split <;> first | exact .inl rfl | exact .inr (.inl rfl))
theorem Ds {a b:List Nat}:aO a=aO b ↔ a=b:=by
 unfold aO
 exact ⟨fun h=>by
  have:=congrArg (List.map Int.toNat) h;simpa [List.map_map,Function.comp_def] using this,fun h=>by rw [h]⟩
theorem pW (xs ys:List Int) (va vb:Value) (w:World) (ha:am w va xs) (hb:am w vb ys):Calls Tryz.prog 153 #[va,vb] w fun e w'=>e=.returned (.bool (decide (xs=ys)))/\af w w':=by
 obtain ⟨aa,ca,rfl,_,hla,hca⟩:=ha;obtain ⟨ab,cb,rfl,_,hlb,hcb⟩:=hb;by_cases hl:xs.length=ys.length
 ·by_cases h0:xs=[]
  ·subst h0;have h1:ys=[]:=List.eq_nil_of_length_eq_zero hl.symm;subst h1;exact (Go.Proofs.Tryz.slices_Equal_int_empty aa ab ca 0 cb w (by omega)).mono fun e w' ⟨h1,h2⟩=>⟨by rw [h1];simp,by subst h2;exact af.refl _⟩
  ·have hp:0<xs.length:=List.length_pos_iff.2 h0;obtain ⟨b1,o1,rfl,_⟩:=hca 0 hp;obtain ⟨b2,o2,rfl,_⟩:=hcb 0 (by omega);refine (Go.Proofs.Tryz.slices_Equal_int b1 o1 xs.length ca b2 o2 ys.length cb xs ys w (Nat.le_refl _) (Nat.le_refl _) (by omega) (by omega) ?_ ?_).mono fun e w' ⟨h1,q,h2⟩=>⟨by rw [h1,List.take_length,List.take_length,show (xs == ys)=decide (xs=ys) by rw [Bool.eq_iff_iff];simp],by subst h2;exact (af.refl _).drewN _⟩
   ·intro j hj;obtain ⟨b,o,h1,h2⟩:=hca j hj;cases h1;rw [h2];simp [hj]
   ·intro j hj;obtain ⟨b,o,h1,h2⟩:=hcb j hj;cases h1;rw [h2];simp [hj]
 ·refine (Go.Proofs.Tryz.slices_Equal_int_lens aa ab xs.length ca ys.length cb w hl).mono fun e w' ⟨h1,h2⟩=>⟨?_,by subst h2;exact af.refl _⟩
  rw [h1,decide_eq_false (fun h=>hl (by rw [h]))]
theorem yt (g:Nat) (va:Value) (xs:List Int) (w:World) (hc:w.cell? ⟨g,0,none⟩=some va) (hv:am w va xs) :
  Calls Tryz.prog 152 #[.slice (some ⟨g,0,none⟩) 1 1] w fun e w'=>e=.returned (aV (eK xs))/\w=w':=by
 obtain ⟨a,c,rfl,_,hl,hx⟩:=hv;obtain ⟨m,hm⟩:∃ m,m=xs.length:=⟨_,rfl⟩;rw [<-hm] at hc;have hm9:m<=140737488355328:=by omega
 have HX:=ae hx;have HM:=ae hm;have HC:=ae hc;clear hx hm hl hc;go_enter Tryz.func152,Tryz.ntmps152;go_wp2;go_loopg [9] 1 (fun kx s9 wr=>∃ k:Nat,k<=1/\s9=.int .i64 k/\1 - k<=kx/\Hid (k=1->eK xs=0)/\w=wr)
 case atStart=>exact ⟨0,by omega,rfl,by omega,ae (fun h=>by omega),rfl⟩
 case round =>
  obtain ⟨k,hk,rfl,hkx,HE,rfl⟩:=hrel;by_cases hk1:k=1
  ·subst hk1;have HE0:=ae (HE.out rfl);go_wp2;go_ret;exact ⟨by rw [HE0.out];rfl,rfl⟩
  ·have hk0:k=0:=by omega
   subst hk0;have hcell:=HC.out;by_cases hlen:m<=1024
   ·have hl1:¬ (1024:Int)<(m:Int):=by omega
    go_wp2;go_loopg [19] m (fun kx s19 wq=>∃ q:Nat,q<=m/\s19=.int .i64 q/\m - q<=kx/\Hid (∀ x∈xs.take q,0<=x/\x<=16777215)/\w=wq)
    case atStart=>exact ⟨0,Nat.zero_le _,rfl,by omega,ae (by simp),rfl⟩
    case round =>
     obtain ⟨q,hq,rfl,hqx,HF,rfl⟩:=hrel;by_cases hqm:q<m
     ·have hqx:q<xs.length:=by have:=HM.out;omega
      obtain ⟨b2,o2,rfl,hcell2⟩:=HX.out q hqx;obtain ⟨s,hs⟩:∃ s,s=xs[q]:=⟨_,rfl⟩;rw [<-hs] at hcell2;have HS:=ae hs;have hqi:(q:Int)<(m:Int):=by omega
      cases hd:decide (0<=s/\s<=16777215) with
      | true =>
       have HVA:Hid (∀ W,Calls Tryz.prog 217 #[.int .i64 s] W fun e w'=>e=.returned (.bool true)/\W=w'):=ae fun W=>by have:=mv s W;rwa [hd] at this
       have HD:=ae (of_decide_eq_true hd);clear hd hs;go_wp2_with (go_at_call 217;refine (HVA.out _).mono ?_;rintro e w' ⟨rfl,rfl⟩);go_roundg (m - (q+1))
       case measure=>omega
       case rel=>exact ⟨q+1,by omega,by go_num,Nat.le_refl _,ae (fun y hy=>by
        rw [List.take_succ_eq_append_getElem hqx] at hy;rcases List.mem_append.1 hy with hy | hy
        ·exact HF.out y hy
        ·simp at hy;rw [hy,<-HS.out];exact HD.out),rfl⟩
      | false =>
       have HVA:Hid (∀ W,Calls Tryz.prog 217 #[.int .i64 s] W fun e w'=>e=.returned (.bool false)/\W=w'):=ae fun W=>by have:=mv s W;rwa [hd] at this
       have HD:=ae (of_decide_eq_false hd)
       have HER:Hid (eK xs=3):=ae (by
        unfold eK;rw [if_neg (by have:=HM.out;omega),if_neg];intro h;exact HD.out (nD.1 h s (by rw [HS.out];exact List.getElem_mem _)))
       clear hd hs;go_wp2_with (go_at_call 217;refine (HVA.out _).mono ?_;rintro e w' ⟨rfl,rfl⟩);go_ret;exact ⟨by rw [HER.out];rfl,rfl⟩
     ·have HE0:Hid (eK xs=0):=ae (by
       have hf:=HF.out;rw [List.take_of_length_le (by have:=HM.out;omega)] at hf;unfold eK;rw [if_neg (by have:=HM.out;omega),if_pos (nD.2 hf)])
      have hqi:¬ (q:Int)<(m:Int):=by omega
      go_wp2;go_roundg 0
      case measure=>omega
      case rel=>exact ⟨1,by omega,by go_num,by omega,ae (fun _=>HE0.out),rfl⟩
   ·have hl1:(1024:Int)<(m:Int):=by omega
    have HER:Hid (eK xs=4):=ae (by unfold eK;rw [if_pos (by have:=HM.out;omega)]);go_wp2;go_ret;exact ⟨by rw [HER.out];rfl,rfl⟩
theorem xY (l:List Nat):∀ out,(l.foldl aS out).Sublist (out++l):=by
 induction l with
 | nil=>intro out;simp
 | cons s l ih =>
  intro out;have h:=ih (aS out s);show (l.foldl aS (aS out s)).Sublist _;unfold aS at h⊢;split at h
  ·rename_i hk;rw [if_pos hk];exact h.trans ((List.Sublist.refl out).append (List.sublist_cons_self s l))
  ·rename_i hk;rw [if_neg hk];simpa using h
theorem sU {ns:List Nat} (h:ns=bl ns):(aT ns).length=ns.length ↔ ns=aT ns:=by
 constructor
 ·intro hl
  have hs:(aT ns).Sublist ns:=by
   unfold aT;rw [<-h];exact xY ns []
  exact (hs.eq_of_length hl).symm
 ·intro he;rw [<-he]
theorem n_ (va:Value) (xs:List Int) (w:World) (hv:am w va xs) :
  Calls Tryz.prog 94 #[va] w fun e w'=>e=.returned (aV (cU xs))/\af w w':=by
 have HL:Hid (Calls Tryz.prog 152 #[.slice (some ⟨w.heap.size,0,none⟩) 1 1] (w.alloc (.cells #[va] 22)) fun e w'=>e=.returned (aV (eK xs))/\af w w'):=ae
  ((yt w.heap.size va xs _ (by simp) (hv.kept ((af.refl _).alloc _))).mono fun _ _ ⟨h1,h2⟩=>⟨h1,by rw [<-h2];exact (af.refl _).alloc _⟩)
 have HV:=ae hv;obtain ⟨a,c,hva,_⟩:=id hv;subst hva;obtain ⟨m,hm⟩:∃ m,m=xs.length:=⟨_,rfl⟩;rw [<-hm] at HL HV⊢;have HM:=ae hm;clear hm hv;rcases Nat.eq_zero_or_pos (eK xs) with he | he
 ·obtain ⟨hl,hok⟩:=uK he;obtain ⟨hxs,hmk⟩:=nC hok;have hchk:cU xs=if aR xs≠bl (aR xs) then 13 else if aR xs≠aT (aR xs) then 2 else 0:=by unfold cU;rw [if_neg (by omega)]
  rw [hchk];obtain ⟨ns,hns⟩:∃ ns,ns=aR xs:=⟨_,rfl⟩;rw [<-hns] at hxs hmk⊢;have hlm:m=ns.length:=by rw [HM.out,hns];unfold aR;rw [List.length_map]
  have HVS:Hid (bu w (.slice a m c) ns):=ae ⟨by rw [<-hxs];exact HV.out,hmk⟩;have hnl:ns.length<=1024:=by rw [<-hlm,HM.out];exact hl
  have HE:=ae he;rw [he,aH] at HL
  have HS:Hid (∀ W,af w W->Calls Tryz.prog 154 #[.slice a m c] W fun e w'=>(∃ v',e=.returned v'/\am w' v' (aO (bl ns)))/\af W w'):=ae fun W hk=>by
   refine (pi _ ns W hmk (HVS.out.kept hk).1 (by omega)).mono ?_;rintro e w' ⟨v',h1,h2,h3⟩;exact ⟨⟨v',h1,h2.ints⟩,h3⟩
  have HMN:Hid (∀ W,af w W->Calls Tryz.prog 155 #[.slice a m c] W fun e w'=>(∃ v',e=.returned v'/\bu w' v' (aT ns))/\af W w'):=ae fun W hk=>by
   refine (dm _ ns W (HVS.out.kept hk) (by omega)).mono ?_;rintro e w' ⟨v',h1,h2,h3⟩;exact ⟨⟨v',h1,h2.sets⟩,h3⟩
  have HLM:=ae hlm;clear hxs hmk hns hl hok he hchk hlm hnl;by_cases h1:ns=bl ns
  ·have HEQ:Hid (∀ W vb,af w W->am W vb (aO (bl ns))->Calls Tryz.prog 153 #[.slice a m c,vb] W fun e w'=>e=.returned (.bool true)/\af W w'):=ae fun W vb hk hb=>by
    have h:=pW (aO ns) (aO (bl ns)) (.slice a m c) vb W (HVS.out.kept hk).1 hb
    rwa [decide_eq_true (by rw [<-h1])] at h
   rw [if_neg (fun h=>h h1)];have hiff:=sU h1;obtain ⟨z,hz⟩:∃ z,z=(aT ns).length:=⟨_,rfl⟩;have HZ:=ae hz;rw [<-hz,<-HLM.out] at hiff;by_cases h2:ns=aT ns
   ·rw [if_neg (fun h=>h h2)];have hzm:z=m:=hiff.2 h2;have hb:((z:Int) != (m:Int))=false:=by rw [hzm];simp
    clear hiff h1 h2 hz;go_enter Tryz.func94,Tryz.ntmps94;go_wp2_with fail;refine HL.out.mono ?_;rintro e w1 ⟨rfl,hk1⟩;have K1:=ae hk1;clear hk1
    go_wp2_with (first
     | (go_at_call 154;refine (HS.out _ K1.out).mono ?_;rintro e w2 ⟨⟨v2,rfl,hv2⟩,hk2⟩;have HV2:=ae hv2;have K2:=ae (K1.out.trans hk2);clear hv2 hk2)
     | (go_at_call 153;refine (HEQ.out _ _ K2.out HV2.out).mono ?_;rintro e w3 ⟨rfl,hk3⟩;have K3:=ae (K2.out.trans hk3);clear hk3)
     | (go_at_call 155;refine (HMN.out _ K3.out).mono ?_;rintro e w4 ⟨⟨v4,rfl,hv4⟩,hk4⟩;obtain ⟨a4,c4,rfl,_,_⟩:=hv4.shape;rw [<-HZ.out];have K4:=ae (K3.out.trans hk4);clear hk4 hv4))
    go_ret;exact ⟨rfl,K4.out⟩
   ·rw [if_pos h2];have hzm:z≠m:=fun h=>h2 (hiff.1 h)
    have hb:((z:Int) != (m:Int))=true:=by simp [bne];omega
    have hzi:¬ (z:Int)=(m:Int):=by omega
    clear hiff h1 h2 hz;go_enter Tryz.func94,Tryz.ntmps94;go_wp2_with fail;refine HL.out.mono ?_;rintro e w1 ⟨rfl,hk1⟩;have K1:=ae hk1;clear hk1
    go_wp2_with (first
     | (go_at_call 154;refine (HS.out _ K1.out).mono ?_;rintro e w2 ⟨⟨v2,rfl,hv2⟩,hk2⟩;have HV2:=ae hv2;have K2:=ae (K1.out.trans hk2);clear hv2 hk2)
     | (go_at_call 153;refine (HEQ.out _ _ K2.out HV2.out).mono ?_;rintro e w3 ⟨rfl,hk3⟩;have K3:=ae (K2.out.trans hk3);clear hk3)
     | (go_at_call 155;refine (HMN.out _ K3.out).mono ?_;rintro e w4 ⟨⟨v4,rfl,hv4⟩,hk4⟩;obtain ⟨a4,c4,rfl,_,_⟩:=hv4.shape;rw [<-HZ.out];have K4:=ae (K3.out.trans hk4);clear hk4 hv4))
    go_ret;exact ⟨rfl,K4.out⟩
  ·have HEQ:Hid (∀ W vb,af w W->am W vb (aO (bl ns))->Calls Tryz.prog 153 #[.slice a m c,vb] W fun e w'=>e=.returned (.bool false)/\af W w'):=ae fun W vb hk hb=>by
    have h:=pW (aO ns) (aO (bl ns)) (.slice a m c) vb W (HVS.out.kept hk).1 hb
    rwa [decide_eq_false (fun h=>h1 (Ds.1 h))] at h
   rw [if_pos h1];clear h1;go_enter Tryz.func94,Tryz.ntmps94;go_wp2_with fail;refine HL.out.mono ?_;rintro e w1 ⟨rfl,hk1⟩;have K1:=ae hk1;clear hk1
   go_wp2_with (first
    | (go_at_call 154;refine (HS.out _ K1.out).mono ?_;rintro e w2 ⟨⟨v2,rfl,hv2⟩,hk2⟩;have HV2:=ae hv2;have K2:=ae (K1.out.trans hk2);clear hv2 hk2)
    | (go_at_call 153;refine (HEQ.out _ _ K2.out HV2.out).mono ?_;rintro e w3 ⟨rfl,hk3⟩;have K3:=ae (K2.out.trans hk3);clear hk3))
   go_ret;exact ⟨rfl,K3.out⟩
 ·have hchk:cU xs=eK xs:=by unfold cU;rw [if_pos (by omega)]
  rw [hchk];obtain ⟨q,hq⟩:∃ q,q=eK xs:=⟨_,rfl⟩;rw [<-hq] at HL he⊢;have hqe:aV q=.iface 60 (.int .i64 q):=aA (by omega);rw [hqe] at HL⊢;clear hchk hq hqe;go_enter Tryz.func94,Tryz.ntmps94;go_wp2_with fail;refine HL.out.mono ?_;rintro e w1 ⟨rfl,hk1⟩;go_wp2;go_ret;exact ⟨rfl,hk1⟩
def FF (ss:List Nat) (ps:List Rw):Nat->Rat
 | 0=>0
 | k+1=>FF ss ps k+dW (ss.getD k 0) ps ps.length
def Gb (xs ys:List Int) (ps:List Rw):Nat × Rat :=
 if cU xs≠0 then (cU xs,0) else if cU ys≠0 then (cU ys,0) else if (aR ys).any (fun s=>decide ((ps.length:Int)<=nz s))=true then (11,0) else if bI ps=true then (3,0) else (0,FF (aR ys) ps (aR ys).length)
theorem Ai {xs:List Int} (h:cU xs=0):xs.length<=1024/\Eb xs=true:=by
 unfold cU at h;by_cases he:eK xs=0
 ·exact uK he
 ·rw [if_pos he] at h;exact absurd h he
theorem Ao (v:Value) (ps:List Rw) (w:World) (hv:RatsAt w v ps) (hs:∀ x∈ps,x.Short 34359738368):Calls Tryz.prog 74 #[v] w fun e w'=>e=.returned (.bool (bI ps))/\af w w':=by
 obtain ⟨a,c,rfl,⟨hc,_⟩,hl,hx⟩:=hv;obtain ⟨n,hn⟩:∃ n,n=ps.length:=⟨_,rfl⟩;have hbig:n<=140737488355328:=by omega
 rw [<-hn];have HX:=ae hx;have HN:=ae hn;have HLT:=ae hs;clear hx hn hl hc hs;go_enter Tryz.func74,Tryz.ntmps74;go_wp2_with fail;go_loopg [7] n (fun kx i wr=>∃ k:Nat,k<=n/\i=.int .i64 k/\n - k<=kx/\Hid (∀ x∈ps.take k,du x=true)/\Hid (af w wr))
 case atStart=>exact ⟨0,Nat.zero_le _,rfl,by omega,ae (by simp),ae (af.refl _)⟩
 case round =>
  obtain ⟨k,hk,rfl,hkx,HF,HK⟩:=hrel;by_cases hlt:k<n
  ·have hkl:k<ps.length:=by have:=HN.out;omega
   obtain ⟨b,o,u1,u2,rfl,hrg,hw1,hw2⟩:=HX.out k hkl;have hrg2:=cJ hrg HK.out;have hxl:=HLT.out ps[k] (List.getElem_mem _);obtain ⟨x,hxx⟩:∃ x,x=ps[k]:=⟨_,rfl⟩;rw [<-hxx] at hrg2 hxl hw1 hw2;have HXX:=ae hxx;obtain ⟨a1,c1,rfl⟩:=hw1.shape;obtain ⟨a2,c2,rfl⟩:=hw2.shape;have HC:Hid (∀ W,af w W->Calls Tryz.prog 28 #[.agg #[.bool x.neg,.slice a1 x.num.length c1,.slice a2 x.den.length c2]] W fun e W'=>e=.returned (.bool (du x))/\af W W'):=ae fun W hk=>qB _ x W ⟨_,_,rfl,hw1.kept hk,hw2.kept hk⟩ ⟨Nat.le_trans hxl.1 (by omega),Nat.le_trans hxl.2 (by omega)⟩
   generalize x.num.length=n1 at *;generalize x.den.length=n2 at *;have HRG:Hid (wr.rangeAt b (o+k*3) [.bool x.neg,.slice a1 n1 c1,.slice a2 n2 c2]):=ae hrg2;have hkn:(k:Int)<(n:Int):=by omega
   clear hrg hrg2 hxx hxl hw1 hw2;cases hq:du x with
   | false =>
    rw [hq] at HC;have HQ:=ae hq;clear hq;go_wp2_with (first | (with_reducible refine wpList_load_mid rfl 29 _ rfl b (o+k*3) rfl _ _ HRG.out Tryz.underlying29 rfl (by kernel_rfl) ?_) | (go_at_call 28;refine (HC.out _ (HK.out.alloc _)).mono ?_;rintro e w' ⟨rfl,hK2⟩));go_ret;have hb:bI ps=true:=List.any_eq_true.2 ⟨x,by rw [HXX.out];exact List.getElem_mem _,by rw [HQ.out];rfl⟩;exact ⟨by rw [hb];rfl,(HK.out.alloc _).trans hK2⟩
   | true =>
    rw [hq] at HC;have HQ:=ae hq;clear hq;go_wp2_with (first | (with_reducible refine wpList_load_mid rfl 29 _ rfl b (o+k*3) rfl _ _ HRG.out Tryz.underlying29 rfl (by kernel_rfl) ?_) | (go_at_call 28;refine (HC.out _ (HK.out.alloc _)).mono ?_;rintro e w' ⟨rfl,hK2⟩));go_roundg (n - (k+1))
    case measure=>omega
    case rel =>
     refine ⟨k+1,by omega,by go_num,Nat.le_refl _,ae ?_,ae ((HK.out.alloc _).trans hK2)⟩;intro y hy;rw [List.take_succ_eq_append_getElem hkl] at hy;rcases List.mem_append.1 hy with hy | hy
     ·exact HF.out y hy
     ·simp at hy;rw [hy,<-HXX.out];exact HQ.out
  ·have hh:=HF.out;rw [List.take_of_length_le (by have:=HN.out;omega)] at hh;have HB:Hid (bI ps=false):=ae (by unfold bI;rw [List.any_eq_false];intro y hy;simp [hh y hy]);have hkn:¬ (k:Int)<(n:Int):=by omega
   clear hh;go_wp2;go_ret;exact ⟨by rw [HB.out];rfl,HK.out⟩
def dZ (y n:Nat):List Nat->List (Nat × Nat)
 | []=>[]
 | i :: is=>(y,n ||| 2^i) :: dZ (y ||| 2^i) n is
def cN (c:Nat × Nat) (s:Nat):List (Nat × Nat):=if s &&& c.2≠0 then [c] else dZ c.1 c.2 (jZ (aM s c.1))
def bK (l:List (Nat × Nat)) (s:Nat):List (Nat × Nat):=l.flatMap fun c=>cN c s
def gX (most:Nat):List Nat->List (Nat × Nat)->Option (List (Nat × Nat))
 | [],l=>some l
 | b :: bs,l=>if most<(bK l b).length then none else gX most bs (bK l b)
def cubesC (pre:List Nat) (out:List (Nat × Nat)):List Nat->Option (List (Nat × Nat))
 | []=>some out
 | s :: r=>match gX (1024 - out.length) pre [(s,0)] with
  | none=>none
  | some l=>cubesC (pre++[s]) (out++l) r
def cq (L:List Nat):Option (List (Nat × Nat)):=cubesC [] [] L
def pE (c:Nat × Nat) (s:Nat):Bool:=subN c.1 s&&(c.2 &&& s == 0)
def cnt (l:List (Nat × Nat)) (s:Nat):Nat:=(l.filter fun c=>pE c s).length
theorem dg {a b:Nat}:(a &&& b == 0)=true ↔ ∀ i,a.testBit i=true->b.testBit i=false:=by
 rw [beq_iff_eq];constructor
 ·intro h i hi
  have:(a &&& b).testBit i=false:=by rw [h];exact Nat.zero_testBit i
  rw [Nat.testBit_and,hi] at this;simpa using this
 ·intro h;apply Nat.eq_of_testBit_eq;intro i;rw [Nat.testBit_and,Nat.zero_testBit];cases ha:a.testBit i with
  | false=>rfl
  | true=>rw [h i ha];rfl
theorem gP {c:Nat × Nat} {s:Nat}:pE c s=true ↔ (∀ i,c.1.testBit i=true->s.testBit i=true)/\∀ i,c.2.testBit i=true->s.testBit i=false:=by
 unfold pE;rw [Bool.and_eq_true,aw,dg]
theorem jl (s:Nat):cnt [] s=0:=rfl
theorem io (c:Nat × Nat) (l:List (Nat × Nat)) (s:Nat):cnt (c :: l) s=(if pE c s=true then 1 else 0)+cnt l s:=by
 unfold cnt;rw [List.filter_cons];split
 ·rw [List.length_cons,Nat.add_comm]
 ·omega
theorem wZ (a b:List (Nat × Nat)) (s:Nat):cnt (a++b) s=cnt a s+cnt b s:=by
 unfold cnt;rw [List.filter_append,List.length_append]
theorem EA (y n i s:Nat):pE (y,n ||| 2^i) s=(pE (y,n) s&&!s.testBit i):=by
 rw [Bool.eq_iff_iff,Bool.and_eq_true,gP,gP];constructor
 ·rintro ⟨h1,h2⟩;refine ⟨⟨h1,fun j hj=>h2 j ?_⟩,?_⟩
  ·show (n ||| 2^i).testBit j=true;rw [Nat.testBit_or,hj];rfl
  ·rw [h2 i (by show (n ||| 2^i).testBit i=true;rw [Nat.testBit_or,Nat.testBit_two_pow_self];simp)];rfl
 ·rintro ⟨⟨h1,h2⟩,h3⟩;refine ⟨h1,fun j hj=>?_⟩;replace hj:(n ||| 2^i).testBit j=true:=hj;rw [Nat.testBit_or,Nat.testBit_two_pow,Bool.or_eq_true,decide_eq_true_eq] at hj;rcases hj with hj | rfl
  ·exact h2 j hj
  ·simpa using h3
theorem Dg (y n i s:Nat):pE (y ||| 2^i,n) s=(pE (y,n) s&&s.testBit i):=by
 rw [Bool.eq_iff_iff,Bool.and_eq_true,gP,gP];constructor
 ·rintro ⟨h1,h2⟩;refine ⟨⟨fun j hj=>h1 j ?_,h2⟩,h1 i ?_⟩
  ·show (y ||| 2^i).testBit j=true;rw [Nat.testBit_or,hj];rfl
  ·show (y ||| 2^i).testBit i=true;rw [Nat.testBit_or,Nat.testBit_two_pow_self];simp
 ·rintro ⟨⟨h1,h2⟩,h3⟩;refine ⟨fun j hj=>?_,h2⟩;replace hj:(y ||| 2^i).testBit j=true:=hj;rw [Nat.testBit_or,Nat.testBit_two_pow,Bool.or_eq_true,decide_eq_true_eq] at hj;rcases hj with hj | rfl
  ·exact h1 j hj
  ·exact h3
theorem xO (n s:Nat):∀ (is:List Nat) (y:Nat),cnt (dZ y n is) s=if pE (y,n) s=true/\(∃ i∈is,s.testBit i=false) then 1 else 0:=by
 intro is;induction is with
 | nil=>intro y;simp [dZ,jl]
 | cons i is ih =>
  intro y;rw [dZ,io,ih,EA,Dg];cases h1:pE (y,n) s <;> cases h2:s.testBit i <;> simp [h2]
theorem xN {c:Nat × Nat} {b s:Nat} (hb:b<16777216):cnt (cN c b) s=if pE c s=true/\subN b s=false then 1 else 0:=by
 obtain ⟨y,n⟩:=c;unfold cN;by_cases h:b &&& n≠0
 ·rw [if_pos h,io,jl,Nat.add_zero]
  have:pE (y,n) s=true->subN b s=false:=by
   intro h1;cases h2:subN b s with
   | false=>rfl
   | true =>
    refine absurd ?_ h;have h3:=gP.1 h1;have h4:=aw.1 h2;apply Nat.eq_of_testBit_eq;intro i;rw [Nat.testBit_and,Nat.zero_testBit];cases hb:b.testBit i with
    | false=>rfl
    | true =>
     cases hn:n.testBit i with
     | false=>rfl
     | true=>exact absurd (h4 i hb) (by rw [h3.2 i hn];decide)
  by_cases h1:pE (y,n) s=true
  ·rw [if_pos h1,if_pos ⟨h1,this h1⟩]
  ·rw [if_neg h1,if_neg (fun h=>h1 h.1)]
 ·rw [if_neg h,xO]
  have:pE (y,n) s=true->((∃ i∈jZ (aM b y),s.testBit i=false) ↔ subN b s=false):=by
   intro h1;have h3:=gP.1 h1;constructor
   ·rintro ⟨i,hi,h4⟩;cases h5:subN b s with
    | false=>rfl
    | true =>
     have h6:=(eE hi).2;rw [bi,Bool.and_eq_true] at h6;rw [aw.1 h5 i h6.1] at h4;cases h4
   ·intro h4;refine Classical.byContradiction fun h5=>?_
    have h6:subN b s=true:=aw.2 fun i hi=>by
     cases hs:s.testBit i with
     | true=>rfl
     | false =>
      refine absurd ⟨i,?_,hs⟩ h5;unfold jZ;rw [List.mem_filter,List.mem_range,bi,hi];refine ⟨?_,?_⟩
      ·refine Nat.lt_of_not_le fun h=>?_
       have h7:2^24<=b:=Nat.le_trans (Nat.pow_le_pow_right (by omega) h) (Nat.ge_two_pow_of_testBit hi);exact absurd (show (2:Nat)^24<=b from h7) (by rw [show (2:Nat)^24=16777216 from rfl];omega)
      ·cases hy:y.testBit i with
       | false=>rfl
       | true=>rw [h3.1 i hy] at hs;cases hs
    rw [h6] at h4;cases h4
  by_cases h1:pE (y,n) s=true
  ·simp only [h1,true_and];by_cases h2:subN b s=false
   ·rw [if_pos ((this h1).2 h2),if_pos h2]
   ·rw [if_neg (fun h=>h2 ((this h1).1 h)),if_neg h2]
  ·rw [if_neg (fun h=>h1 h.1),if_neg (fun h=>h1 h.1)]
theorem xP {b s:Nat} (hb:b<16777216):∀ l,cnt (bK l b) s=if subN b s=true then 0 else cnt l s:=by
 intro l;induction l with
 | nil=>simp [bK,jl]
 | cons c l ih =>
  have e:bK (c :: l) b=cN c b++bK l b:=by simp [bK]
  rw [e,wZ,ih,xN hb,io];cases h1:pE c s <;> cases h2:subN b s <;> simp
theorem C_ {most s:Nat}:∀ {bs:List Nat} {l l':List (Nat × Nat)},(∀ b∈bs,b<16777216)->gX most bs l=some l'->cnt l' s=if covB bs s=true then 0 else cnt l s:=by
 intro bs;induction bs with
 | nil =>
  intro l l' _ h;cases h;simp [covB]
 | cons b bs ih =>
  intro l l' hb h;rw [gX] at h;split at h
  ·cases h
  ·rw [ih (fun x hx=>hb x (List.mem_cons_of_mem _ hx)) h,xP (hb b List.mem_cons_self)];have e:covB (b :: bs) s=(subN b s||covB bs s):=by simp [covB]
   rw [e];cases h1:subN b s <;> cases h2:covB bs s <;> simp
theorem uC {s:Nat}:∀ {r pre:List Nat} {out out':List (Nat × Nat)},(∀ b∈pre++r,b<16777216)->cubesC pre out r=some out' ->
  cnt out' s=cnt out s+if covB pre s=true then 0 else if covB r s=true then 1 else 0:=by
 intro r;induction r with
 | nil =>
  intro pre out out' _ h;cases h;simp [covB]
 | cons x r ih =>
  intro pre out out' hb h;rw [cubesC] at h;split at h
  ·cases h
  ·rename_i l hl;rw [ih (fun b h=>hb b (by simpa using h)) h,wZ,C_ (fun b h=>hb b (List.mem_append_left _ h)) hl];have e0:pE (x,0) s=subN x s:=by unfold pE;simp
   have e1:cnt [(x,0)] s=if subN x s=true then 1 else 0:=by rw [io,jl,e0,Nat.add_zero]
   have e2:covB (pre++[x]) s=(covB pre s||subN x s):=by simp [covB]
   have e3:covB (x :: r) s=(subN x s||covB r s):=by simp [covB]
   rw [e1,e2,e3];cases h1:covB pre s <;> cases h2:subN x s <;> cases h3:covB r s <;> simp
theorem xM {L:List Nat} {out:List (Nat × Nat)} (hb:∀ b∈L,b<16777216) (h:cq L=some out) (s:Nat):cnt out s=if covB L s=true then 1 else 0:=by
 have:=uC (s:=s) (r:=L) (pre:=[]) (out:=[]) (by simpa using hb) h;rw [this,jl];simp [covB]
theorem Dt {Pr:Nat × Nat->Prop} {most:Nat}:∀ {bs:List Nat} {l l':List (Nat × Nat)},(∀ b∈bs,∀ c,Pr c->∀ d∈cN c b,Pr d)->(∀ c∈l,Pr c)->gX most bs l=some l'->∀ c∈l',Pr c:=by
 intro bs;induction bs with
 | nil=>intro l l' _ h1 h;cases h;exact h1
 | cons b bs ih =>
  intro l l' hb h1 h;rw [gX] at h;split at h
  ·cases h
  ·refine ih (fun x hx=>hb x (List.mem_cons_of_mem _ hx)) ?_ h;intro c hc;obtain ⟨d,hd,hc⟩:=List.mem_flatMap.1 hc;exact hb b List.mem_cons_self d (h1 d hd) c hc
theorem uD {Pr:Nat × Nat->Prop} {L:List Nat}:∀ {r pre:List Nat} {out out':List (Nat × Nat)},(∀ b∈L,∀ c,Pr c->∀ d∈cN c b,Pr d)->(∀ b∈L,Pr (b,0))->(∀ b∈pre++r,b∈L)->(∀ c∈out,Pr c) ->
  cubesC pre out r=some out'->∀ c∈out',Pr c:=by
 intro r;induction r with
 | nil=>intro pre out out' _ _ _ h2 h;cases h;exact h2
 | cons x r ih =>
  intro pre out out' hP h0 hL h2 h;rw [cubesC] at h;split at h
  ·cases h
  ·rename_i l hl;refine ih hP h0 (fun b h=>hL b (by simpa using h)) ?_ h;intro c hc;rcases List.mem_append.1 hc with hc | hc
   ·exact h2 c hc
   ·refine Dt (fun b hb=>hP b (hL b (List.mem_append_left _ hb))) ?_ hl c hc;intro c hc;rw [List.mem_singleton] at hc;rw [hc];exact h0 x (hL x (by simp))
theorem pU {Pr:Nat × Nat->Prop} {L:List Nat} {out:List (Nat × Nat)} (hP:∀ b∈L,∀ c,Pr c->∀ d∈cN c b,Pr d) (h0:∀ b∈L,Pr (b,0)) (h:cq L=some out):∀ c∈out,Pr c :=
 uD hP h0 (by simp) (by simp) h
theorem mc {Pr:Nat × Nat->Prop} {n:Nat}:∀ {is:List Nat} {y:Nat},is.Nodup->(∀ i∈is,y.testBit i=false) ->
  (∀ (y' i:Nat),i∈is->(∀ j,y'.testBit j=true->y.testBit j=true\/j∈is)->(∀ j,y.testBit j=true->y'.testBit j=true)->y'.testBit i=false->Pr (y',n ||| 2^i))->∀ d∈dZ y n is,Pr d:=by
 intro is;induction is with
 | nil=>intro y _ _ _ d hd;cases hd
 | cons i is ih =>
  intro y hn hy hP d hd;rw [dZ] at hd;rcases List.mem_cons.1 hd with rfl | hd
  ·exact hP y i List.mem_cons_self (fun j h=>.inl h) (fun j h=>h) (hy i List.mem_cons_self)
  ·have hn2:=List.nodup_cons.1 hn;refine ih hn2.2 ?_ ?_ d hd
   ·intro j hj;rw [Nat.testBit_or,hy j (List.mem_cons_of_mem _ hj),Nat.testBit_two_pow]
    have:i≠j:=fun h=>hn2.1 (h ▸ hj)
    simp [this]
   ·intro y' j hj h1 h2 h3;refine hP y' j (List.mem_cons_of_mem _ hj) ?_ ?_ h3
    ·intro k hk;rcases h1 k hk with h | h
     ·rw [Nat.testBit_or,Nat.testBit_two_pow,Bool.or_eq_true,decide_eq_true_eq] at h;rcases h with h | rfl
      ·exact .inl h
      ·exact .inr List.mem_cons_self
     ·exact .inr (List.mem_cons_of_mem _ h)
    ·intro k hk;refine h2 k ?_;rw [Nat.testBit_or,hk];rfl
theorem ip (s:Nat):(jZ s).Nodup:=List.nodup_range.filter _
def Eg (c:Nat × Nat):Prop:=c.1<16777216/\c.2<16777216/\c.1 &&& c.2=0
theorem ql {x:Nat} (h:∀ j,x.testBit j=true->j<24):x<16777216:=by
 rw [show 16777216=2^24 from rfl]
 exact Nat.lt_pow_two_of_testBit x fun i hi=>by
  cases hx:x.testBit i with
  | false=>rfl
  | true=>have:=h i hx;omega
theorem lJ {x j:Nat} (h:x<16777216) (hj:x.testBit j=true):j<24:=by
 refine Nat.lt_of_not_le fun h2=>?_
 have h7:2^24<=x:=Nat.le_trans (Nat.pow_le_pow_right (by omega) h2) (Nat.ge_two_pow_of_testBit hj);rw [show (2:Nat)^24=16777216 from rfl] at h7;omega
theorem br {a b:Nat}:a &&& b=0 ↔ ∀ i,a.testBit i=true->b.testBit i=false:=by
 rw [<-beq_iff_eq];exact dg
theorem Dl {b:Nat} {c:Nat × Nat} (hc:Eg c):∀ d∈cN c b,Eg d:=by
 intro d hd;unfold cN at hd;split at hd
 ·rw [List.mem_singleton] at hd;rw [hd];exact hc
 ·rename_i h;obtain ⟨h1,h2,h3⟩:=hc;have h0:b &&& c.2=0:=Classical.byContradiction h;refine mc (ip _) ?_ ?_ d hd
  ·intro i hi;have:=(eE hi).2;rw [bi,Bool.and_eq_true] at this;simpa using this.2
  ·intro y' i hi h4 _ h5;refine ⟨ql fun j hj=>?_,ql fun j hj=>?_,br.2 fun j hj=>?_⟩
   ·rcases h4 j hj with h | h
    ·exact lJ h1 h
    ·exact (eE h).1
   ·replace hj:(c.2 ||| 2^i).testBit j=true:=hj;rw [Nat.testBit_or,Nat.testBit_two_pow,Bool.or_eq_true,decide_eq_true_eq] at hj;rcases hj with h | rfl
    ·exact lJ h2 h
    ·exact (eE hi).1
   ·show (c.2 ||| 2^i).testBit j=false;rw [Nat.testBit_or,Nat.testBit_two_pow,Bool.or_eq_false_iff,decide_eq_false_iff_not];refine ⟨?_,?_⟩
    ·rcases h4 j hj with h | h
     ·exact br.1 h3 j h
     ·have h6:=(eE h).2;rw [bi,Bool.and_eq_true] at h6;exact br.1 h0 j h6.1
    ·rintro rfl;rw [h5] at hj;cases hj
theorem nW {L:List Nat} {out:List (Nat × Nat)} (hb:∀ b∈L,b<16777216) (h:cq L=some out):∀ c∈out,Eg c :=
 pU (fun _ _ _ hc=>Dl hc) (fun b h=>⟨hb b h,by show (0:Nat)<16777216;decide,by simp⟩) h
def Fw (a b:Nat × Nat):Bool:=a.1 &&& b.2 == 0&&a.2 &&& b.1 == 0
theorem Bt {most:Nat}:∀ {bs:List Nat} {l l':List (Nat × Nat)},gX most bs l=some l'->bs≠[]->l'.length<=most:=by
 intro bs;induction bs with
 | nil=>intro _ _ _ h;exact absurd rfl h
 | cons b bs ih =>
  intro l l' h _;rw [gX] at h;split at h
  ·cases h
  ·by_cases hb:bs=[]
   ·subst hb;cases h;omega
   ·exact ih h hb
theorem uE:∀ {r pre:List Nat} {out out':List (Nat × Nat)},cubesC pre out r=some out'->out.length<=1024->(pre=[]->out=[])->out'.length<=1024:=by
 intro r;induction r with
 | nil=>intro pre out out' h h1 _;cases h;exact h1
 | cons x r ih =>
  intro pre out out' h h1 h2;rw [cubesC] at h;split at h
  ·cases h
  ·rename_i l hl;refine ih h ?_ (fun h=>absurd h (by simp));rw [List.length_append];by_cases hp:pre=[]
   ·rw [h2 hp];subst hp;cases hl;simp
   ·have:=Bt hl hp;omega
theorem lL {L:List Nat} {out:List (Nat × Nat)} (h:cq L=some out):out.length<=1024:=uE h (by decide) (fun _=>rfl)
def EX (q:Nat->Rat):Nat->(Nat->Rat)->Rat
 | 0,F=>F 0
 | n+1,F=>q n*EX q n (fun s=>F (s+2^n))+(1 - q n)*EX q n F
def ind (b:Bool):Rat:=if b=true then 1 else 0
theorem bA {q:Nat->Rat}:∀ {n:Nat} {F G:Nat->Rat},(∀ s,s<2^n->F s=G s)->EX q n F=EX q n G:=by
 intro n;induction n with
 | zero=>intro F G h;exact h 0 (by decide)
 | succ n ih =>
  intro F G h;rw [EX,EX,ih (F:=F) (G:=G) (fun s hs=>h s (by rw [Nat.pow_succ];omega)),ih (F:=fun s=>F (s+2^n)) (G:=fun s=>G (s+2^n)) (fun s hs=>h _ (by rw [Nat.pow_succ];omega))]
theorem zJ {q:Nat->Rat}:∀ {n:Nat} {F G:Nat->Rat},EX q n (fun s=>F s+G s)=EX q n F+EX q n G:=by
 intro n;induction n with
 | zero=>intro F G;rfl
 | succ n ih =>
  intro F G;rw [EX,EX,EX,ih (F:=F) (G:=G),ih (F:=fun s=>F (s+2^n)) (G:=fun s=>G (s+2^n))]
  grind
theorem nJ {q:Nat->Rat}:∀ {n:Nat} {F:Nat->Rat} {c:Rat},EX q n (fun s=>c*F s)=c*EX q n F:=by
 intro n;induction n with
 | zero=>intro F c;rfl
 | succ n ih =>
  intro F c;rw [EX,EX,ih (F:=F),ih (F:=fun s=>F (s+2^n))]
  grind
theorem fj {q:Nat->Rat}:∀ {n:Nat} {c:Rat},EX q n (fun _=>c)=c:=by
 intro n;induction n with
 | zero=>intro c;rfl
 | succ n ih=>intro c;rw [EX,ih];grind
theorem Eh {q:Nat->Rat} {n:Nat} {F G:Nat->Rat}:EX q n (fun s=>F s - G s)=EX q n F - EX q n G:=by
 have h1:EX q n (fun s=>F s - G s)=EX q n (fun s=>F s+(-1)*G s):=bA fun s _=>by grind
 rw [h1,zJ,nJ]
 grind
theorem jd {q:Nat->Rat}:∀ {n:Nat} {F G:Nat->Rat},(∀ i,i<n->0<=q i/\q i<=1)->(∀ s,s<2^n->F s<=G s)->EX q n F<=EX q n G:=by
 intro n;induction n with
 | zero=>intro F G _ h;exact h 0 (by decide)
 | succ n ih =>
  intro F G hq h;have h1:=ih (F:=F) (G:=G) (fun i hi=>hq i (by omega)) (fun s hs=>h s (by rw [Nat.pow_succ];omega));have h2:=ih (F:=fun s=>F (s+2^n)) (G:=fun s=>G (s+2^n)) (fun i hi=>hq i (by omega)) (fun s hs=>h _ (by rw [Nat.pow_succ];omega));obtain ⟨q0,q1⟩:=hq n (by omega);rw [EX,EX];have h3:=Rat.mul_le_mul_of_nonneg_left h2 q0;have h4:=Rat.mul_le_mul_of_nonneg_left h1 ((Rat.le_iff_sub_nonneg _ _).1 q1)
  grind
theorem gr (b:Bool):0<=ind b/\ind b<=1:=by
 cases b
 ·exact ⟨Rat.le_refl,by show (0:Rat)<=1;decide⟩
 ·exact ⟨by show (0:Rat)<=1;decide,Rat.le_refl⟩
theorem np {q:Nat->Rat} {n:Nat} {F:Nat->Rat} (hq:∀ i,i<n->0<=q i/\q i<=1) (h:∀ s,s<2^n->0<=F s/\F s<=1):0<=EX q n F/\EX q n F<=1:=by
 constructor
 ·have:=jd (F:=fun _=>0) (G:=F) hq (fun s hs=>(h s hs).1)
  rwa [fj] at this
 ·have:=jd (F:=F) (G:=fun _=>1) hq (fun s hs=>(h s hs).2)
  rwa [fj] at this
def fq (c:Nat × Nat) (n s:Nat):Bool:=(List.range n).all fun i=>(!c.1.testBit i||s.testBit i)&&(!c.2.testBit i||!s.testBit i)
theorem gJ (c:Nat × Nat) (n s:Nat):fq c (n+1) s=(fq c n s&&((!c.1.testBit n||s.testBit n)&&(!c.2.testBit n||!s.testBit n))):=by
 unfold fq;rw [List.range_succ,List.all_append];simp
theorem nQ {n s:Nat} (h:s<2^n):(s+2^n).testBit n=true/\s.testBit n=false/\∀ i,i<n->(s+2^n).testBit i=s.testBit i:=by
 refine ⟨?_,Nat.testBit_lt_two_pow h,fun i hi=>?_⟩
 ·rw [Nat.add_comm,Nat.testBit_two_pow_add_eq,Nat.testBit_lt_two_pow h];rfl
 ·rw [Nat.add_comm,Nat.testBit_two_pow_add_gt hi]
theorem rW {c:Nat × Nat} {n s t:Nat} (h:∀ i,i<n->s.testBit i=t.testBit i):fq c n s=fq c n t:=by
 induction n with
 | zero=>rfl
 | succ n ih=>rw [gJ,gJ,ih (fun i hi=>h i (by omega)),h n (by omega)]
def wQ (q:Nat->Rat) (c:Nat × Nat):Nat->Rat
 | 0=>1
 | n+1=>(wQ q c n*if c.1.testBit n=true then q n else 1)*if c.2.testBit n=true then 1 - q n else 1
theorem qP {q:Nat->Rat} {c:Nat × Nat} (hc:c.1 &&& c.2=0):∀ n,EX q n (fun s=>ind (fq c n s))=wQ q c n:=by
 intro n;induction n with
 | zero=>rfl
 | succ n ih =>
  rw [EX,wQ];have hx:=br.1 hc n
  have e1:EX q n (fun s=>ind (fq c (n+1) (s+2^n)))=(if c.2.testBit n=true then 0 else 1)*EX q n (fun s=>ind (fq c n s)):=by
   rw [<-nJ];refine bA fun s hs=>?_
   obtain ⟨b1,b2,b3⟩:=nQ hs;rw [gJ,b1,rW b3];cases fq c n s <;> cases c.1.testBit n <;> cases c.2.testBit n <;> simp [ind]
  have e2:EX q n (fun s=>ind (fq c (n+1) s))=(if c.1.testBit n=true then 0 else 1)*EX q n (fun s=>ind (fq c n s)):=by
   rw [<-nJ];refine bA fun s hs=>?_
   obtain ⟨b1,b2,b3⟩:=nQ hs;rw [gJ,b2];cases fq c n s <;> cases c.1.testBit n <;> cases c.2.testBit n <;> simp [ind]
  rw [e1,e2,ih];cases h1:c.1.testBit n <;> cases h2:c.2.testBit n
  ·simp;grind
  ·simp;grind
  ·simp;grind
  ·rw [hx h1] at h2;cases h2
theorem lI {c:Nat × Nat} {n:Nat} (h1:∀ i,c.1.testBit i=true->i<n) (h2:∀ i,c.2.testBit i=true->i<n) (s:Nat):fq c n s=pE c s:=by
 rw [Bool.eq_iff_iff,gP];unfold fq;rw [List.all_eq_true];constructor
 ·intro h;refine ⟨fun i hi=>?_,fun i hi=>?_⟩
  ·have:=h i (List.mem_range.2 (h1 i hi));rw [hi,Bool.and_eq_true] at this;simpa using this.1
  ·have:=h i (List.mem_range.2 (h2 i hi));rw [hi,Bool.and_eq_true] at this;simpa using this.2
 ·rintro ⟨h3,h4⟩ i _;cases ha:c.1.testBit i <;> cases hb:c.2.testBit i
  ·simp
  ·simp [h4 i hb]
  ·simp [h3 i ha]
  ·have:=h3 i ha;rw [h4 i hb] at this;cases this
def sumW (q:Nat->Rat) (n:Nat) (l:List (Nat × Nat)):Rat:=l.foldl (fun a c=>a+wQ q c n) 0
theorem xZ {α:Type} (f:α->Rat):∀ (l:List α) (a:Rat),l.foldl (fun a c=>a+f c) a=a+l.foldl (fun a c=>a+f c) 0:=by
 intro l;induction l with
 | nil=>intro a;exact (Rat.add_zero a).symm
 | cons c l ih =>
  intro a;rw [List.foldl_cons,List.foldl_cons,ih,ih (0+f c)]
  grind
theorem Cl {q:Nat->Rat} {n:Nat}:∀ {l:List (Nat × Nat)},(∀ c∈l,c.1 &&& c.2=0/\(∀ i,c.1.testBit i=true->i<n)/\∀ i,c.2.testBit i=true->i<n) ->
  sumW q n l=EX q n (fun s=>((cnt l s:Nat):Rat)):=by
 intro l;induction l with
 | nil=>intro _;rw [bA (G:=fun _=>0) (fun s _=>by rw [jl];rfl),fj];rfl
 | cons c l ih =>
  intro h;obtain ⟨h1,h2,h3⟩:=h c List.mem_cons_self;unfold sumW;rw [List.foldl_cons,xZ]
  have e:EX q n (fun s=>((cnt (c :: l) s:Nat):Rat))=EX q n (fun s=>ind (fq c n s)+((cnt l s:Nat):Rat)):=by
   refine bA fun s _=>?_
   rw [lI h2 h3,io];unfold ind;split
   ·rw [Rat.natCast_add];rfl
   ·rw [Nat.zero_add,Rat.zero_add]
  rw [e,zJ,qP h1,<-ih (fun d hd=>h d (List.mem_cons_of_mem _ hd))];unfold sumW
  grind
def Gl (q:Nat->Rat) (s:Nat):Nat->Rat
 | 0=>1
 | n+1=>Gl q s n*if s.testBit n=true then q n else 1 - q n
def Ck (F:Nat->Rat):Nat->Rat
 | 0=>0
 | n+1=>Ck F n+F n
def cG (c:Int × Int):List Value:=[.int .i64 c.1,.int .i64 c.2]
abbrev Gw (c:Int × Int):Value:=.agg #[.int .i64 c.1,.int .i64 c.2]
def Fj (c:Nat × Nat):Int × Int:=((c.1:Int),(c.2:Int))
def dA (l:List (Nat × Nat)):List (Int × Int):=l.map Fj
theorem bM (l:List (Nat × Nat)):(dA l).length=l.length:=List.length_map ..
theorem oG (a b:List (Nat × Nat)):dA (a++b)=dA a++dA b:=List.map_append ..
theorem iV {w w':World} {b o:Nat} {cs:List Value} (h:w.rangeAt b o cs) (hk:af w w'):w'.rangeAt b o cs:=fun j v hj=>hk.cell (h j v hj)
def cK (w:World) (v:Value) (L:List (Int × Int)):Prop :=
 ∃ (a:Option Addr) (c:Nat),v=.slice a L.length c/\(L.length<=c/\(a=none->c=0))/\L.length<=1099511627776 /\
  ∀ i (h:i<L.length),∃ b o,a=some ⟨b,o,none⟩/\w.rangeAt b (o+i*2) (cG L[i])
theorem cK.kept {w w':World} {v:Value} {L:List (Int × Int)} (h:cK w v L) (hk:af w w'):cK w' v L:=by
 obtain ⟨a,c,h1,h2,h3,h5⟩:=h;exact ⟨a,c,h1,h2,h3,fun i hi=>let ⟨b,o,h6,h7⟩:=h5 i hi;⟨b,o,h6,iV h7 hk⟩⟩
theorem cK.shape {w:World} {v:Value} {L:List (Int × Int)} (h:cK w v L):∃ a c,v=.slice a L.length c:=by
 obtain ⟨a,c,h,_⟩:=h;exact ⟨a,c,h⟩
theorem cK.nil (w:World):cK w (.slice none 0 0) []:=⟨none,0,rfl,⟨by simp,fun _=>rfl⟩,by simp,fun i h=>by simp at h⟩
theorem cK.get {w:World} {a:Option Addr} {n c:Nat} {L:List (Int × Int)} (h:cK w (.slice a n c) L) (i:Nat) (hi:i<L.length) :
  ∃ b o,a=some ⟨b,o,none⟩/\w.cell? ⟨b,o+i*2,none⟩=some (.int .i64 (L.getD i default).1)/\w.cell? ⟨b,o+(i*2+1),none⟩=some (.int .i64 (L.getD i default).2):=by
 obtain ⟨a',c',h1,_,_,h5⟩:=h;injection h1 with h1
 subst h1;obtain ⟨b,o,h6,h7⟩:=h5 i hi;have e:L.getD i default=L[i]:=by simp [List.getD_eq_getElem?_getD,hi]
 rw [e];refine ⟨b,o,h6,?_,?_⟩
 ·have:=h7 0 (.int .i64 L[i].1) rfl;simpa using this
 ·have:=h7 1 (.int .i64 L[i].2) rfl;rw [<-Nat.add_assoc];simpa using this
def b_ (w:World) (B:Nat) (v:Value) (L:List (Int × Int)):Prop :=
 w.ownsRow B 114 2 v L.length (L.flatMap cG)/\L.length<=1099511627776
theorem b_.kept {w w':World} {B:Nat} {v:Value} {L:List (Int × Int)} (h:b_ w B v L) (hk:af w w'):b_ w' B v L:=⟨eF h.1 hk,h.2⟩
theorem b_.nil (w:World) (B:Nat):b_ w B (.slice none 0 0) []:=⟨World.ownsRow_nil _ _ _ _,by simp⟩
theorem AP (L:List (Int × Int)):(L.flatMap cG).length=L.length*2:=by
 induction L with
 | nil=>rfl
 | cons c L ih=>simp [cG,ih];omega
theorem Af (L:List (Int × Int)):∀ i (h:i<L.length) j,j<2->(L.flatMap cG)[i*2+j]?=(cG L[i])[j]?:=by
 induction L with
 | nil=>intro i h;simp at h
 | cons c L ih =>
  intro i h j hj;rw [List.flatMap_cons];cases i with
  | zero=>rw [List.getElem?_append_left (by simp [cG];omega)];simp
  | succ i =>
   rw [List.getElem?_append_right (by simp [cG];omega),show (cG c).length=2 from rfl,show (i+1)*2+j - 2=i*2+j by omega];exact ih i (by simpa using h) j hj
theorem b_.at {w:World} {B:Nat} {v:Value} {L:List (Int × Int)} (h:b_ w B v L):cK w v L:=by
 obtain ⟨⟨h1,h2⟩,h3⟩:=h;rcases h2 with ⟨rfl,h6⟩ | ⟨g,cap,cur,rfl,h6,h7,h8,h9,h10,h11⟩
 ·have:L=[]:=List.eq_nil_of_length_eq_zero h6
  subst this;exact cK.nil w
 ·refine ⟨some ⟨g,0,none⟩,cap,rfl,⟨h8,fun h=>by cases h⟩,h3,fun i hi=>⟨g,0,rfl,fun j u hj=>?_⟩⟩
  have hj3:j<2:=by
   have:=(List.getElem?_eq_some_iff.1 hj).1;simpa [cG] using this
  have e1:(cur.toList.take (L.length*2))[i*2+j]?=(L.flatMap cG)[i*2+j]?:=by rw [h11]
  rw [List.getElem?_take_of_lt (by omega),Af L i hi j hj3,hj] at e1;simp only [World.cell?,h7,Nat.zero_add];simpa using e1
theorem yi:(Tryz.prog.info? 114).map (fun i=>(i.zero,i.size,i.bytes))=some (some (.agg #[.int .i64 0,.int .i64 0]),2,16):=by kernel_rfl
theorem Er (L:List (Int × Int)):∀ u∈L.flatMap cG,u.oneCell'=true:=fun u hu=>by
 obtain ⟨c,_,h⟩:=List.mem_flatMap.1 hu;simp [cG] at h;rcases h with rfl | rfl <;> rfl
theorem qS {ops:Array Oper} {rest:List Oper} {o:Oper} {a:Act} {Q:Exit->Act->World->Prop} {w:World} (hgd:o.guard=none) (s x:Operand)
  (ho:o.op=.call { callee:=.builtin .append,args:=#[s,x],argTypes:=#[89,89] }) (B:Nat) (v:Value) (L:List (Int × Int)) (hs:a.eval s=v) (hown:b_ w B v L)
  (u:Value) (M:List (Int × Int)) (hx:a.eval x=u) (hu:cK w u M) (hl:L.length+M.length<=1099511627776) (hB:B<=w.heap.size)
  (h:∀ v' w',b_ w' B v' (L++M)->w.grownBy w' v.ownBlock->Below B w w'->wpList Tryz.prog ops Q rest (a.put o.dst v') w'):wpList Tryz.prog ops Q (o :: rest) a w:=by
 obtain ⟨i0,hi0,hz0,hz1,hz2⟩:=info_parts yi;obtain ⟨ad,c,rfl,⟨hc,hcn⟩,hl2,h5⟩:=hu;cases ad with
 | none =>
  have hy:M=[]:=by
   cases M with
   | nil=>rfl
   | cons y M=>obtain ⟨b,o,h,_⟩:=h5 0 (by simp);cases h
  subst hy;rw [hcn rfl] at hx;refine wpList_append_own_none hgd s x 89 ho B 114 i0 2 Tryz.underlying89 hi0 v L.length _ hs hown.1 hx ?_;exact h v w (by simpa using hown) (World.grownBy.refl _ _) (Below.refl _ _)
 | some ad =>
  refine wpList_append_own _ hgd s x 89 ho B 114 i0 _ 2 16 Tryz.underlying89 hi0 hz0 hz1 hz2 rfl (by decide) v L.length _ hs hown.1 ad M.length c (M.flatMap cG) hx (AP M) ?_ (Er M) (by simp [maxLen];omega) (by omega) hB ?_
  ·intro j u hj
   have hj':j<M.length*2:=by
    rw [<-AP];exact (List.getElem?_eq_some_iff.1 hj).1
   obtain ⟨b,o,h6,h7⟩:=h5 (j / 2) (by omega);cases h6;have e:=Af M (j / 2) (by omega) (j % 2) (by omega);rw [show j / 2*2+j % 2=j by omega,hj] at e;have:=h7 (j % 2) u e.symm;rw [show ({ block:=b,off:=o }:Addr).add j=⟨b,o+j,none⟩ by unfold Addr.add;split <;> simp_all];rw [show o+j=o+j / 2*2+j % 2 by omega];exact this
  ·intro v' w' h6 h7 _;exact h v' w' ⟨by rw [List.flatMap_append,List.length_append];exact h6,by simp;omega⟩ h7 (bf h7 hown.1 hB)
theorem El {ops:Array Oper} {rest:List Oper} {o:Oper} {a:Act} {Q:Exit->Act->World->Prop} {w:World} (hgd:o.guard=none) (s x:Operand)
  (ho:o.op=.call { callee:=.builtin .append,args:=#[s,x],argTypes:=#[89,89] }) (B:Nat) (v:Value) (L:List (Int × Int)) (hs:a.eval s=v) (hown:b_ w B v L)
  (g:Nat) (c:Int × Int) (hx:a.eval x=.slice (some ⟨g,0,none⟩) 1 1) (hu:w.rangeAt g 0 (cG c)) (hl:L.length<1099511627776) (hB:B<=w.heap.size)
  (h:∀ v' w',b_ w' B v' (L++[c])->w.grownBy w' v.ownBlock->Below B w w'->wpList Tryz.prog ops Q rest (a.put o.dst v') w'):wpList Tryz.prog ops Q (o :: rest) a w :=
 qS hgd s x ho B v L hs hown _ [c] hx ⟨_,1,rfl,⟨by simp,fun h=>by cases h⟩,by simp,fun i hi=>⟨g,0,rfl,by
  have:i=0:=by simpa using hi
  subst this;simpa using hu⟩⟩ (by simp;omega) hB h
theorem yW (w:World) (x0 x1:Value) (e:TypeId):(w.alloc (.cells #[x0,x1] e)).rangeAt w.heap.size 0 [x0,x1]:=by
 intro j v hj
 match j,hj with
 | 0,hj=>simp at hj;subst hj;simp
 | 1,hj=>simp at hj;subst hj;simp
theorem te (w:World) (B:Nat) (c:Int × Int) (hB:B<=w.heap.size):b_ (w.alloc (.cells #[.int .i64 c.1,.int .i64 c.2] 114)) B (.slice (some ⟨w.heap.size,0,none⟩) 1 1) [c] :=
 ⟨⟨by simp [cG],.inr ⟨w.heap.size,1,#[.int .i64 c.1,.int .i64 c.2],rfl,hB,heap_alloc_new w _,Nat.le_refl _,by unfold maxLen;omega,by simp,by simp [cG]⟩⟩,by simp⟩
theorem b_.older {w w':World} {B g:Nat} {v:Value} {L:List (Int × Int)} (h:b_ w B v L) (hg:g<B) (ho:az g w w'):b_ w' B v L:=by
 obtain ⟨⟨h1,h2⟩,h3⟩:=h;refine ⟨⟨h1,?_⟩,h3⟩;rcases h2 with h2 | ⟨p,cap,cur,h4,h5,h6,h7⟩
 ·exact .inl h2
 ·refine .inr ⟨p,cap,cur,h4,h5,?_,h7⟩
  have hlt:p<w.heap.size:=by
   rcases Nat.lt_or_ge p w.heap.size with h8 | h8
   ·exact h8
   ·simp [Array.getElem?_eq_none h8] at h6
  rw [ho.block p hlt (by omega)];exact h6
def DW (c:Int × Int):Nat:=if (0<=c.1/\c.1<16777216)/\0<=c.2/\c.2<16777216 then (if c.1.toNat &&& c.2.toNat≠0 then 6 else 0) else 3
def wV:List (Int × Int)->Nat
 | []=>0
 | c :: l=>if DW c≠0 then DW c else wV l
def EE (c:Int × Int):Nat × Nat:=(c.1.toNat,c.2.toNat)
def FR (L:List (Int × Int)) (i m:Nat):Bool:=(List.range m).any fun j=>Fw (EE (L.getD i default)) (EE (L.getD j default))
def FS (L:List (Int × Int)) (m:Nat):Bool:=(List.range m).any fun i=>FR L i i
def Fr (L:List (Int × Int)):Nat:=if 1024<L.length then 4 else if wV L≠0 then wV L else if FS L L.length=true then 21 else 0
theorem yJ {l:List (Nat × Nat)} {i:Nat} (h:i<l.length):(dA l).getD i default=Fj l[i]:=by
 simp [dA,List.getD_eq_getElem?_getD,h]
def eP (ps:List Rw) (i:Nat):Rat:=aj (ps.getD i default)
def i' (ps:List Rw) (c:Nat × Nat) (n:Nat):Rat:=wQ (eP ps) c n
theorem po {ps:List Rw} {c:Nat × Nat} (hs:∀ r∈ps,r.Short 3) (hok:∀ r∈ps,r.Ok):∀ n,n<=ps.length->(ah (i' ps c n)).Short (12*n+1):=by
 intro n;induction n with
 | zero=>intro _;exact dI
 | succ n ih =>
  intro hn;have ih:=ih (by omega);have hx:ps.getD n default=ps[n]:=by simp [List.getD_eq_getElem?_getD,show n<ps.length by omega]
  have hr:=hok _ (List.getElem_mem (show n<ps.length by omega));have hr3:=hs _ (List.getElem_mem (show n<ps.length by omega));have e:i' ps c (n+1)=(i' ps c n*if c.1.testBit n=true then eP ps n else 1)*if c.2.testBit n=true then 1 - eP ps n else 1:=rfl
  have eq:eP ps n=aj ps[n]:=by unfold eP;rw [hx]
  have h1:(ah (i' ps c n*if c.1.testBit n=true then eP ps n else 1)).Short (12*n+4):=by
   split
   ·have h:=gE (bD (i' ps c n)) hr ih hr3 (by omega) (by omega);rw [al,<-eq] at h;exact ⟨Nat.le_trans h.1 (by omega),Nat.le_trans h.2 (by omega)⟩
   ·rw [Rat.mul_one];exact ⟨Nat.le_trans ih.1 (by omega),Nat.le_trans ih.2 (by omega)⟩
  have h2:(ah (1 - eP ps n)).Short 5:=by
   have h3:=eh hr hr3 (by omega);have h:=fi (bD ((1:Int):Rat)) (bD (- aj ps[n])) dI h3 (by omega) (by omega);rw [al,al,<-eq,<-Rat.sub_eq_add_neg] at h;exact h
  rw [e];generalize (i' ps c n*if c.1.testBit n=true then eP ps n else 1)=X at *;split
  ·have h:=gE (bD X) (bD (1 - eP ps n)) h1 h2 (by omega) (by omega);rw [al,al] at h;exact ⟨Nat.le_trans h.1 (by omega),Nat.le_trans h.2 (by omega)⟩
  ·rw [Rat.mul_one];exact ⟨Nat.le_trans h1.1 (by omega),Nat.le_trans h1.2 (by omega)⟩
def sumWs (ps:List Rw) (l:List (Nat × Nat)) (k:Nat):Rat:=sumW (eP ps) ps.length (l.take k)
theorem zm (q:Nat->Rat) (n:Nat) (l:List (Nat × Nat)) (c:Nat × Nat):sumW q n (l++[c])=sumW q n l+wQ q c n:=by
 unfold sumW;rw [List.foldl_append];rfl
theorem pj {ps:List Rw} {l:List (Nat × Nat)} {k:Nat} (h:k<l.length):sumWs ps l (k+1)=sumWs ps l k+i' ps l[k] ps.length:=by
 unfold sumWs i';rw [List.take_succ_eq_append_getElem h,zm]
theorem i_ {ps:List Rw} {l:List (Nat × Nat)} (hs:∀ r∈ps,r.Short 3) (hok:∀ r∈ps,r.Ok) (hp:ps.length<=30):∀ k,k<=l.length->(ah (sumWs ps l k)).Short (362*k+1):=by
 intro k;induction k with
 | zero=>intro _;exact ⟨Nat.zero_le _,Nat.zero_le _⟩
 | succ k ih =>
  intro hk;have ih:=ih (by omega);have h1:=po (c:=l[k]) hs hok ps.length (Nat.le_refl _);have h:=fi (bD (sumWs ps l k)) (bD (i' ps l[k] ps.length)) ih h1 (by omega) (by omega);rw [al,al] at h;rw [pj (by omega)];exact ⟨Nat.le_trans h.1 (by omega),Nat.le_trans h.2 (by omega)⟩
end Go.Proofs.YtofibjflkebkpaaGreatDoor
